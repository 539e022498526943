/- Contracts of the functions that the statement reaches. No condition. -/
import Derived.Test.YthmcocmhalhbfaaK9f
import Derived.Test.YthmcocmhalhbfaaK9c
import Derived.Test.YthmcocmhalhbfaaPLp
set_option linter.all false
set_option maxRecDepth 10000
namespace Go.AM.L9
open Go.AM.PL
theorem frame_ok (t : List Int) (a : Nat) (parts : Int) (ht : t.length ≤ 2 ^ 50) (hi : ∀ x ∈ t, i64 x) (ha : a ≤ t.length) (hp : 1 ≤ parts ∧ parts ≤ 6) : WpCallG A 30 [.bptr 0 0, .v (.int .i64 parts)] [(0, tbox t a)] (fun v H => ∃ (tb : List Nd) (b : Nat), tb.length ≤ 2 ^ 20 ∧ b ≤ t.length ∧ v = .fsl 3 (tb.map encD) ∧ H = [(0, tbox t b)]) := by
 refine WpCallG.intro g30 rfl rfl ?_
 unfold af30
 change WpG _ _ _ _ _
 refine WpG.seq ?_
 refine WpG.reg ?_
 refine G.mv rfl ?_
 refine WpOpsG.nil ?_
 change WpG _ _ _ _ _
 refine WpG.seq ?_
 refine WpG.reg ?_
 refine G.mv rfl ?_
 refine G.mv rfl ?_
 refine G.call (P := [(0, tbox t a)]) rfl (by repeat (first | exact trivial | refine ⟨rfl, ?_⟩)) rfl rfl ((show WpCallG A 37 [.bptr 0 0, .v (.int .i64 parts), .v (.int .i64 4)] [(0, tbox t a)] _ from table_ok t a 4 parts ht hi ha hp (by omega)).ren [(2, 20)]) ?_
 rintro _ _ ⟨_, _, ⟨x, ks, z, htb, hz, rfl, rfl⟩, rfl, rfl⟩
 change newOk _ _ [(20, _), (0, tbox t z)] = true ∧ _
 refine ⟨rfl, ?_⟩
 change WpOpsG _ _ ((10, .osl 20) :: _) ([(20, .arr .yes 3 ((Fo.enc (Fo.one x ks)).map encD)), (0, tbox t z)] ++ _) _
 have hlen := Fo.tb_len htb (by omega)
 obtain ⟨tb, hte⟩ : ∃ tb, Fo.enc (Fo.one x ks) = tb := ⟨_, rfl⟩
 rw [hte] at hlen ⊢
 refine WpOpsG.freeze 20 rfl ?_
 change WpOpsG _ _ ((10, .fsl 3 (tb.map encD)) :: _) _ _
 refine G.mv rfl ?_
 refine WpOpsG.nil ?_
 change WpG _ _ _ _ _
 refine WpG.seq ?_
 refine WpG.seq ?_
 refine WpG.reg ?_
 refine G.mv rfl ?_
 refine G.call0 rfl rfl (of_ok tb (by omega)) ?_
 rintro _ _ ⟨r, e, rfl, rfl, hg⟩
 refine ⟨rfl, ?_⟩
 change WpOpsG _ _ ((13, _) :: _) _ _
 have hg2 := hg.2
 refine G.mv rfl ?_
 refine G.ext rfl rfl ?_
 refine G.ext rfl rfl ?_
 refine G.mv rfl ?_
 refine G.mv rfl ?_
 refine WpOpsG.nil ?_
 change WpG _ _ _ _ _
 refine WpG.seq ?_
 refine WpG.reg ?_
 refine G.mv rfl ?_
 refine G.bin rfl rfl rfl ?_
 refine G.mv rfl ?_
 apply G.orS rfl rfl rfl rfl rfl rfl
 case hB =>
  intro hs1
  (try simp only [zN] at hs1)
  refine G.mv rfl ?_
  refine G.lenM rfl ?_
  refine G.bin rfl rfl rfl ?_
  refine WpOpsG.nil ?_
  exact ⟨rfl, (by repeat (first | exact LLe.refl _ | refine LLe.cons rfl ?_)), (by repeat (first | exact HLe.refl _ | refine HLe.cons rfl ?_)), rfl⟩
 refine G.mv rfl ?_
 apply G.orS rfl rfl rfl rfl rfl rfl
 case hB =>
  intro hs2
  (try simp only [zN] at hs2)
  refine G.mv rfl ?_
  refine G.call0 rfl rfl (total_ok r (by omega) (fun x hx => (hg.1 x hx).1)) ?_
  rintro _ _ ⟨rfl, rfl⟩
  refine ⟨rfl, ?_⟩
  change WpOpsG _ _ ((25, _) :: _) _ _
  refine G.bin rfl rfl rfl ?_
  refine WpOpsG.nil ?_
  exact ⟨rfl, (by repeat (first | exact LLe.refl _ | refine LLe.cons rfl ?_)), (by repeat (first | exact HLe.refl _ | refine HLe.cons rfl ?_)), rfl⟩
 refine WpOpsG.nil ?_
 change WpG _ _ _ _ _
 refine WpG.cond rfl (fun hq3 => ?_) (fun hq3 => ?_)
 ·(try simp only [zN] at hq3)
  refine WpG.seq ?_
  refine WpG.reg ?_
  refine G.build rfl ?_
  refine G.mv rfl ?_
  refine G.mv rfl ?_
  refine G.call (P := [(0, tbox t z)]) rfl (by repeat (first | exact trivial | refine ⟨rfl, ?_⟩)) rfl rfl (next_ok t z parts ht hi hz (by omega)) ?_
  rintro _ _ ⟨rfl, rfl⟩
  refine ⟨rfl, ?_⟩
  change WpOpsG _ _ ((31, .v (.int .i64 (nx t z parts))) :: _) ((0, tbox t (na t z parts)) :: _) _
  have rw := nx_rng t z parts
  obtain ⟨b, eb, hb⟩ : ∃ o, na t z parts = o ∧ o ≤ t.length := ⟨_, rfl, na_le hz⟩
  rw [eb]
  obtain ⟨w, fw⟩ : ∃ o, nx t z parts = o := ⟨_, rfl⟩
  rw [fw] at rw ⊢
  refine G.build rfl ?_
  refine G.build rfl ?_
  refine G.bsliceF rfl rfl rfl ?_
  refine G.mv rfl ?_
  refine WpOpsG.nil ?_
  change WpG _ _ _ _ _
  refine WpG.ret ?_
  refine ⟨_, [(0, tbox t b)], rfl, (hasP_le (by repeat (first | exact trivial | refine ⟨rfl, ?_⟩))), rfl, rfl, rfl, ?_⟩
  exact ⟨[⟨3, 0, 2⟩, ⟨1, w, 3⟩, ⟨2, 0, 2⟩], b, (by show 3 ≤ _; decide), hb, rfl, rfl⟩
 ·(try simp only [zN] at hq3)
  refine WpG.skip ?_
  change WpG _ _ _ _ _
  refine WpG.seq ?_
  refine WpG.reg ?_
  refine G.mv rfl ?_
  refine G.mv rfl ?_
  refine WpOpsG.nil ?_
  change WpG _ _ _ _ _
  refine WpG.ret ?_
  refine ⟨_, [(0, tbox t z)], rfl, (hasP_le (by repeat (first | exact trivial | refine ⟨rfl, ?_⟩))), rfl, rfl, rfl, ?_⟩
  exact ⟨tb, z, by omega, hz, rfl, rfl⟩
set_option maxHeartbeats 4000000 in
theorem config_ok (t : List Int) (a0 : Nat) (ht : t.length ≤ 2 ^ 50) (hi : ∀ x ∈ t, i64 x) (ha0 : a0 ≤ t.length) : WpCallG A 14 [.bptr 0 0] [(0, tbox t a0)] (fun v H => ∃ (X : List Pc) (C : List Ch) (tabs : List (List Nd)) (b : Nat), CfgOk X C tabs ∧ b ≤ t.length ∧ v = .agg [.fsl 11 (X.map encX), .fsl 6 (C.map encC), .fsl 1 (tabs.map encTb)] ∧ H = [(0, tbox t b)]) := by
 refine WpCallG.intro g14 rfl rfl ?_
 unfold af14
 change WpG _ _ _ _ _
 refine WpG.seq ?_
 refine WpG.reg ?_
 refine G.box (g := 10) rfl rfl rfl ?_
 refine WpOpsG.nil ?_
 change WpG _ _ _ _ _
 refine WpG.seq ?_
 refine WpG.reg ?_
 refine G.box (g := 11) rfl rfl rfl ?_
 refine WpOpsG.nil ?_
 change WpG _ _ _ _ _
 refine WpG.seq ?_
 refine WpG.ownNilB (b := 11) (g := 21) (off := 0) (w := 11) rfl rfl rfl ?_
 refine WpG.ownNilB (b := 11) (g := 22) (off := 1) (w := 6) rfl rfl rfl ?_
 refine WpG.ownNilB (b := 11) (g := 23) (off := 2) (w := 1) rfl rfl rfl ?_
 refine WpG.reg ?_
 refine G.mv rfl ?_
 refine G.call (P := [(0, tbox t a0)]) rfl (by repeat (first | exact trivial | refine ⟨rfl, ?_⟩)) rfl rfl (next_ok t a0 4 ht hi ha0 (by omega)) ?_
 rintro _ _ ⟨rfl, rfl⟩
 refine ⟨rfl, ?_⟩
 change WpOpsG _ _ ((14, .v (.int .i64 (nx t a0 4))) :: _) ((0, tbox t (na t a0 4)) :: _) _
 have ru0 := nx_rng t a0 4
 obtain ⟨a1, ea1, ha1⟩ : ∃ o, na t a0 4 = o ∧ o ≤ t.length := ⟨_, rfl, na_le ha0⟩
 rw [ea1]
 obtain ⟨u0, fu0⟩ : ∃ o, nx t a0 4 = o := ⟨_, rfl⟩
 rw [fu0] at ru0 ⊢
 refine G.addI rfl rfl (by omega) ?_
 obtain ⟨n, hn⟩ : ∃ n : Nat, 1 + u0 = (n : Int) := ⟨(1 + u0).toNat, by omega⟩
 rw [hn]
 refine G.mv rfl ?_
 refine WpOpsG.nil ?_
 change WpG _ _ _ _ _
 refine WpG.seq ?_
 refine WpG.seq ?_
 refine WpG.reg ?_
 refine G.mv rfl ?_
 refine WpOpsG.nil ?_
 change WpG _ _ _ _ _
 refine WpG.block ?_
 refine WpG.loop (S := List Pc × Nat × Nat) (fun s => [(0, .bptr 0 0), (2, .bptr 10 0), (3, .bptr 11 0), (4, .v (.int .i64 (n : Int))), (5, .v (.int .i64 (s.2.1 : Int)))]) (fun s => [(0, tbox t s.2.2), (10, .box [.v (.slice none 0 0), .v (.slice none 0 0), .v (.slice none 0 0)]), (11, .box [.osl 21, .osl 22, .osl 23]), (21, .arr .yes 11 (s.1.map encX)), (22, .arr .yes 6 (([] : List Ch).map encC)), (23, .arr .yes 1 (([] : List (List Nd)).map encTb))]) (fun s => s.2.1 ≤ n ∧ s.1.length = s.2.1 ∧ okX0 s.1 ∧ s.2.2 ≤ t.length) (fun s => n - s.2.1) (fun s => ⟨rfl, rfl⟩) ?_ ([], 0, a1) ?_ (by repeat (first | exact trivial | refine ⟨rfl, ?_⟩)) (by repeat (first | exact trivial | refine ⟨rfl, ?_⟩)) rfl
 ·rintro ⟨X, i, a⟩ ⟨hI, hXl, hXs, ha⟩
  dsimp only at hI hXl hXs ha ⊢
  refine WpG.seq ?_
  refine WpG.seq ?_
  refine WpG.reg ?_
  refine G.mv rfl ?_
  refine G.mv rfl ?_
  refine G.bin rfl rfl rfl ?_
  refine WpOpsG.nil ?_
  change WpG _ _ _ _ _
  refine WpG.cond rfl (fun hq1 => ?_) (fun hq1 => ?_)
  ·(try simp only [zN] at hq1)
   refine WpG.skip ?_
   change WpG _ _ _ _ _
   refine WpG.seq ?_
   refine WpG.block ?_
   refine WpG.seq ?_
   refine WpG.reg ?_
   refine G.mv rfl ?_
   refine G.addI rfl rfl (by omega) ?_
   refine G.convi rfl ?_
   refine G.convis rfl ?_
   refine G.bin rfl rfl addStr1 ?_
   obtain ⟨nm, hnm, hns⟩ : ∃ nm : ByteArray, (⟨#[112]⟩ : ByteArray) ++ Utf8.encode (IntKind.i32.wrap (97 + (i : Int))) = nm ∧ nm.size ≤ 2 ^ 40 := ⟨_, rfl, name_size (of_decide_eq_true rfl)⟩
   rw [hnm]
   refine G.mv rfl ?_
   refine G.call (P := [(0, tbox t a)]) rfl (by repeat (first | exact trivial | refine ⟨rfl, ?_⟩)) rfl rfl (next_ok t a 5 ht hi ha (by omega)) ?_
   rintro _ _ ⟨rfl, rfl⟩
   refine ⟨rfl, ?_⟩
   change WpOpsG _ _ ((27, .v (.int .i64 (nx t a 5))) :: _) ((0, tbox t (na t a 5)) :: _) _
   have rv1 := nx_rng t a 5
   obtain ⟨b, eb, hb⟩ : ∃ o, na t a 5 = o ∧ o ≤ t.length := ⟨_, rfl, na_le ha⟩
   rw [eb]
   obtain ⟨v1, fv1⟩ : ∃ o, nx t a 5 = o := ⟨_, rfl⟩
   rw [fv1] at rv1 ⊢
   refine G.bin rfl rfl rfl ?_
   obtain ⟨b3, hb3⟩ : ∃ z, (v1 == 0) = z := ⟨_, rfl⟩
   rw [hb3]
   refine G.mv rfl ?_
   refine G.call (P := [(0, tbox t b)]) rfl (by repeat (first | exact trivial | refine ⟨rfl, ?_⟩)) rfl rfl (next_ok t b 8 ht hi hb (by omega)) ?_
   rintro _ _ ⟨rfl, rfl⟩
   refine ⟨rfl, ?_⟩
   change WpOpsG _ _ ((30, .v (.int .i64 (nx t b 8))) :: _) ((0, tbox t (na t b 8)) :: _) _
   have rv2 := nx_rng t b 8
   obtain ⟨c, ec, hc⟩ : ∃ o, na t b 8 = o ∧ o ≤ t.length := ⟨_, rfl, na_le hb⟩
   rw [ec]
   obtain ⟨v2, fv2⟩ : ∃ o, nx t b 8 = o := ⟨_, rfl⟩
   rw [fv2] at rv2 ⊢
   refine G.bin rfl rfl rfl ?_
   obtain ⟨b4, hb4⟩ : ∃ z, (v2 == 0) = z := ⟨_, rfl⟩
   rw [hb4]
   refine G.build rfl ?_
   refine G.box (g := 12) rfl rfl rfl ?_
   refine G.storeB rfl rfl rfl rfl rfl rfl ?_
   refine WpOpsG.nil ?_
   change WpG _ _ _ _ _
   refine WpG.seq ?_
   refine WpG.seq ?_
   refine WpG.reg ?_
   refine G.mv rfl ?_
   refine G.call (P := [(0, tbox t c)]) rfl (by repeat (first | exact trivial | refine ⟨rfl, ?_⟩)) rfl rfl (next_ok t c 2 ht hi hc (by omega)) ?_
   rintro _ _ ⟨rfl, rfl⟩
   refine ⟨rfl, ?_⟩
   change WpOpsG _ _ ((34, .v (.int .i64 (nx t c 2))) :: _) ((0, tbox t (na t c 2)) :: _) _
   have ru := nx_rng t c 2
   obtain ⟨e, ee, he⟩ : ∃ o, na t c 2 = o ∧ o ≤ t.length := ⟨_, rfl, na_le hc⟩
   rw [ee]
   obtain ⟨u, fu⟩ : ∃ o, nx t c 2 = o := ⟨_, rfl⟩
   rw [fu] at ru ⊢
   refine G.mv rfl ?_
   refine WpOpsG.nil ?_
   change WpG _ _ _ _ _
   refine WpG.block ?_
   refine WpG.ownNilB (b := 12) (g := 24) (off := 5) (w := 2) rfl rfl rfl ?_
   refine WpG.loop (S := List Sp × Int × Nat) (fun s => [(0, .bptr 0 0), (2, .bptr 10 0), (3, .bptr 11 0), (4, .v (.int .i64 (n : Int))), (5, .v (.int .i64 (i : Int))), (6, .bptr 12 0), (7, .v (.int .i64 s.2.1))]) (fun s => [(0, tbox t s.2.2), (10, .box [.v (.slice none 0 0), .v (.slice none 0 0), .v (.slice none 0 0)]), (11, .box [.osl 21, .osl 22, .osl 23]), (21, .arr .yes 11 (X.map encX)), (22, .arr .yes 6 (([] : List Ch).map encC)), (23, .arr .yes 1 (([] : List (List Nd)).map encTb)), (12, .box [.v (.string nm), .v (.int .i64 0), .v (.int .i64 0), .v (.bool b3), .v (.bool b4), .osl 24, .v (.int .i64 0), .v (.int .i64 0), .v (.int .i64 0), .v (.int .i64 0), .v (.int .i64 0)]), (24, .arr .yes 2 (s.1.map encSp))]) (fun s => ((s.1.length : Int) + s.2.1 ≤ 1 ∧ -1 ≤ s.2.1) ∧ s.2.2 ≤ t.length) (fun s => (s.2.1 + 1).toNat) (fun s => ⟨rfl, rfl⟩) ?_ ([], u, e) ?_ (by repeat (first | exact trivial | refine ⟨rfl, ?_⟩)) (by repeat (first | exact trivial | refine ⟨rfl, ?_⟩)) rfl
   ·rintro ⟨pr, k, s⟩ ⟨hk, hs⟩
    dsimp only at hk hs ⊢
    refine WpG.seq ?_
    refine WpG.seq ?_
    refine WpG.reg ?_
    refine G.mv rfl ?_
    refine G.bin rfl rfl rfl ?_
    refine WpOpsG.nil ?_
    change WpG _ _ _ _ _
    refine WpG.cond rfl (fun hq2 => ?_) (fun hq2 => ?_)
    ·(try simp only [zN] at hq2)
     refine WpG.skip ?_
     change WpG _ _ _ _ _
     refine WpG.seq ?_
     refine WpG.block ?_
     refine WpG.reg ?_
     refine G.faddrB rfl ?_
     refine G.load1B rfl rfl rfl ?_
     refine G.mv rfl ?_
     refine G.ckcall (P := [(0, tbox t s)]) rfl rfl (by repeat (first | exact trivial | refine ⟨rfl, ?_⟩)) rfl rfl (next_ok t s 6 ht hi hs (by omega)) ?_
     rintro _ _ ⟨rfl, rfl⟩
     refine ⟨rfl, ?_⟩
     change WpOpsG _ _ ((42, .v (.int .i64 (nx t s 6))) :: _) ((0, tbox t (na t s 6)) :: _) _
     have ru1 := nx_rng t s 6
     obtain ⟨f, ef, hf⟩ : ∃ o, na t s 6 = o ∧ o ≤ t.length := ⟨_, rfl, na_le hs⟩
     rw [ef]
     obtain ⟨u1, fu1⟩ : ∃ o, nx t s 6 = o := ⟨_, rfl⟩
     rw [fu1] at ru1 ⊢
     refine G.mulI rfl rfl (by omega) ?_
     refine G.mv rfl ?_
     refine G.ckcall (P := [(0, tbox t f)]) rfl rfl (by repeat (first | exact trivial | refine ⟨rfl, ?_⟩)) rfl rfl (next_ok t f 4 ht hi hf (by omega)) ?_
     rintro _ _ ⟨rfl, rfl⟩
     refine ⟨rfl, ?_⟩
     change WpOpsG _ _ ((45, .v (.int .i64 (nx t f 4))) :: _) ((0, tbox t (na t f 4)) :: _) _
     have ru2 := nx_rng t f 4
     obtain ⟨g, eg, hg⟩ : ∃ o, na t f 4 = o ∧ o ≤ t.length := ⟨_, rfl, na_le hf⟩
     rw [eg]
     obtain ⟨u2, fu2⟩ : ∃ o, nx t f 4 = o := ⟨_, rfl⟩
     rw [fu2] at ru2 ⊢
     refine G.build rfl ?_
     refine G.bsliceF rfl rfl rfl ?_
     change WpOpsG _ _ ((47, .fsl 2 (([(4 * u1, u2)] : List Sp).map encSp)) :: _) _ _
     refine G.app rfl rfl rfl rfl trivial (by rw [List.length_map]; show (pr.length + 1) * 16 ≤ 2 ^ 47; omega) ?_
     rw [← List.map_append]
     refine G.faddrB rfl ?_
     refine G.storeB rfl rfl rfl rfl rfl rfl ?_
     refine WpOpsG.nil ?_
     change WpG _ _ _ _ _
     refine WpG.reg ?_
     refine G.mv rfl ?_
     refine G.subI rfl rfl (by omega) ?_
     refine G.mv rfl ?_
     refine WpOpsG.nil ?_
     exact ⟨(pr ++ [(4 * u1, u2)], k - 1, g), by show (k - 1 + 1).toNat < (k + 1).toNat; omega, ⟨by dsimp only; rw [List.length_append]; show ((pr.length + 1 : Nat) : Int) + (k - 1) ≤ 1 ∧ _; omega, hg⟩, ⟨rfl, rfl, rfl, rfl, rfl, rfl, rfl, trivial⟩, ⟨rfl, rfl, rfl, rfl, rfl, rfl, rfl, rfl, trivial⟩, rfl⟩
    ·(try simp only [zN] at hq2)
     refine WpG.exit ?_
     change WpG _ _ _ _ _
     refine WpG.seq ?_
     refine WpG.seq ?_
     refine WpG.freeze 24 rfl ?_
     refine WpG.reg ?_
     refine G.mv rfl ?_
     refine WpOpsG.nil ?_
     change WpG _ _ _ _ _
     refine WpG.block ?_
     refine WpG.loop (S := Nat × Pc × Nat) (fun s => [(0, .bptr 0 0), (2, .bptr 10 0), (3, .bptr 11 0), (4, .v (.int .i64 (n : Int))), (5, .v (.int .i64 (i : Int))), (6, .bptr 12 0), (50, .v (.int .i64 (s.1 : Int)))]) (fun s => [(0, tbox t s.2.2), (10, .box [.v (.slice none 0 0), .v (.slice none 0 0), .v (.slice none 0 0)]), (11, .box [.osl 21, .osl 22, .osl 23]), (21, .arr .yes 11 (X.map encX)), (22, .arr .yes 6 (([] : List Ch).map encC)), (23, .arr .yes 1 (([] : List (List Nd)).map encTb)), (12, .box (encX s.2.1))]) (fun s => s.1 ≤ 5 ∧ okX1 s.2.1 ∧ s.2.2 ≤ t.length) (fun s => 5 - s.1) (fun s => ⟨rfl, rfl⟩) ?_ (0, ⟨⟨nm, 0, 0, b3, b4, 0, 0, 0, 0, 0⟩, pr⟩, s) ?_ (by repeat (first | exact trivial | refine ⟨rfl, ?_⟩)) (by repeat (first | exact trivial | refine ⟨rfl, ?_⟩)) rfl
     ·rintro ⟨k, cc, s⟩ ⟨hk5, hcc, hs⟩
      dsimp only at hk5 hcc hs ⊢
      refine WpG.seq ?_
      refine WpG.reg ?_
      refine G.bin rfl rfl rfl ?_
      refine WpOpsG.nil ?_
      change WpG _ _ _ _ _
      refine WpG.seq ?_
      refine WpG.cond rfl (fun hq3 => ?_) (fun hq3 => ?_)
      ·(try simp only [zN] at hq3)
       refine WpG.skip ?_
       change WpG _ _ _ _ _
       refine WpG.seq ?_
       refine WpG.block ?_
       refine WpG.seq ?_
       refine WpG.reg ?_
       refine G.mv rfl ?_
       refine G.mv rfl ?_
       refine WpOpsG.nil ?_
       change WpG _ _ _ _ _
       refine WpG.reg ?_
       refine G.mv rfl ?_
       refine G.bsliceF rfl rfl rfl ?_
       change WpOpsG _ _ ((54, .fsl 1 (([0, 1, 0, 2, 1] : List Int).map encK)) :: _) _ _
       refine G.mv rfl ?_
       refine G.call (P := [(0, tbox t s)]) rfl (by repeat (first | exact trivial | refine ⟨rfl, ?_⟩)) rfl rfl (next_ok t s 5 ht hi hs (by omega)) ?_
       rintro _ _ ⟨rfl, rfl⟩
       refine ⟨rfl, ?_⟩
       change WpOpsG _ _ ((56, .v (.int .i64 (nx t s 5))) :: _) ((0, tbox t (na t s 5)) :: _) _
       have ru1 := nx_rng t s 5
       obtain ⟨f, ef, hf⟩ : ∃ o, na t s 5 = o ∧ o ≤ t.length := ⟨_, rfl, na_le hs⟩
       rw [ef]
       obtain ⟨u1, fu1⟩ : ∃ o, nx t s 5 = o := ⟨_, rfl⟩
       rw [fu1] at ru1 ⊢
       refine G.iaddrM rfl rfl (by omega) (gd17 (0 : Int) (by show _ < 5; omega)) ?_
       refine G.load1F rfl rfl ?_
       obtain ⟨z, hz⟩ : ∃ z, ([0, 1, 0, 2, 1] : List Int).getD u1.toNat 0 = z := ⟨_, rfl⟩
       rw [hz]
       refine G.faddrB rfl ?_
       refine G.aaddrB rfl rfl (by omega) (by omega) ?_
       rw [Int.toNat_natCast]
       refine G.storeB rfl rfl rfl rfl rfl (putH (c := cc) (z := z) (by omega)) ?_
       refine WpOpsG.nil ?_
       change WpG _ _ _ _ _
       refine WpG.reg ?_
       refine G.addI rfl rfl (by omega) ?_
       refine G.mv rfl ?_
       refine WpOpsG.nil ?_
       exact ⟨(k + 1, setH cc k z, f), by show 5 - (k + 1) < 5 - k; omega, ⟨by dsimp only; omega, okX1_set hcc, hf⟩, ⟨rfl, rfl, rfl, rfl, rfl, rfl, rfl, trivial⟩, ⟨rfl, rfl, rfl, rfl, rfl, rfl, rfl, trivial⟩, rfl⟩
      ·(try simp only [zN] at hq3)
       refine WpG.exit ?_
       change WpG _ _ _ _ _
       refine WpG.reg ?_
       refine G.faddrB rfl ?_
       refine G.load1B rfl rfl rfl ?_
       refine G.loadNB rfl rfl rfl ?_
       refine G.bsliceF rfl rfl rfl ?_
       change WpOpsG _ _ ((65, .fsl 11 (([cc] : List Pc).map encX)) :: _) _ _
       refine G.app rfl rfl rfl rfl trivial (by rw [List.length_map]; show (X.length + 1) * 104 ≤ 2 ^ 47; omega) ?_
       rw [← List.map_append]
       refine G.faddrB rfl ?_
       refine G.storeB rfl rfl rfl rfl rfl rfl ?_
       refine WpOpsG.nil ?_
       change WpG _ _ _ _ _
       refine WpG.reg ?_
       refine G.mv rfl ?_
       refine G.addI rfl rfl (by omega) ?_
       refine G.mv rfl ?_
       refine WpOpsG.nil ?_
       exact ⟨(X ++ [cc], i + 1, s), by show _ - (i + 1) < _ - i; omega, ⟨by dsimp only; omega, by rw [List.length_append]; show X.length + 1 = i + 1; omega, okX0_app hXs hcc, hs⟩, ⟨rfl, rfl, rfl, rfl, rfl, trivial⟩, ⟨rfl, rfl, rfl, rfl, rfl, rfl, trivial⟩, rfl⟩
     ·exact ⟨Nat.zero_le _, ⟨⟨hns, by show pr.length ≤ _; omega, by show i64 0; unfold i64; omega⟩, rfl⟩, hs⟩
   ·exact ⟨by simp only [List.length_nil]; omega, he⟩
  ·(try simp only [zN] at hq1)
   refine WpG.exit ?_
   change WpG _ _ _ _ _
   refine WpG.seq ?_
   refine WpG.seq ?_
   have hXn : X.length = n := by omega
   refine WpG.reg ?_
   refine G.mv rfl ?_
   refine G.call (P := [(0, tbox t a)]) rfl (by repeat (first | exact trivial | refine ⟨rfl, ?_⟩)) rfl rfl (next_ok t a 4 ht hi ha (by omega)) ?_
   rintro _ _ ⟨rfl, rfl⟩
   refine ⟨rfl, ?_⟩
   change WpOpsG _ _ ((69, .v (.int .i64 (nx t a 4))) :: _) ((0, tbox t (na t a 4)) :: _) _
   have ru6 := nx_rng t a 4
   obtain ⟨b, eb, hb⟩ : ∃ o, na t a 4 = o ∧ o ≤ t.length := ⟨_, rfl, na_le ha⟩
   rw [eb]
   obtain ⟨u6, fu6⟩ : ∃ o, nx t a 4 = o := ⟨_, rfl⟩
   rw [fu6] at ru6 ⊢
   refine G.mv rfl ?_
   refine WpOpsG.nil ?_
   change WpG _ _ _ _ _
   refine WpG.block ?_
   refine WpG.loop (S := List Ch × Int × Nat) (fun s => [(0, .bptr 0 0), (2, .bptr 10 0), (3, .bptr 11 0), (4, .v (.int .i64 (n : Int))), (9, .v (.int .i64 s.2.1))]) (fun s => [(0, tbox t s.2.2), (10, .box [.v (.slice none 0 0), .v (.slice none 0 0), .v (.slice none 0 0)]), (11, .box [.osl 21, .osl 22, .osl 23]), (21, .arr .yes 11 (X.map encX)), (22, .arr .yes 6 (s.1.map encC)), (23, .arr .yes 1 (([] : List (List Nd)).map encTb))]) (fun s => ((s.1.length : Int) + s.2.1 ≤ 3 ∧ 0 ≤ s.2.1) ∧ okC0 (n : Int) s.1 ∧ s.2.2 ≤ t.length) (fun s => s.2.1.toNat) (fun s => ⟨rfl, rfl⟩) ?_ ([], u6, b) ?_ (by repeat (first | exact trivial | refine ⟨rfl, ?_⟩)) (by repeat (first | exact trivial | refine ⟨rfl, ?_⟩)) rfl
   ·rintro ⟨C, k, s⟩ ⟨hk, hCs, hs⟩
    dsimp only at hk hCs hs ⊢
    refine WpG.seq ?_
    refine WpG.seq ?_
    refine WpG.reg ?_
    refine G.mv rfl ?_
    refine G.bin rfl rfl rfl ?_
    refine G.mv rfl ?_
    apply G.andS rfl rfl rfl rfl rfl rfl
    case hB =>
     intro hs4
     (try simp only [zN] at hs4)
     refine G.mv rfl ?_
     refine G.bin rfl rfl rfl ?_
     refine WpOpsG.nil ?_
     exact ⟨rfl, (by repeat (first | exact LLe.refl _ | refine LLe.cons rfl ?_)), (by repeat (first | exact HLe.refl _ | refine HLe.cons rfl ?_)), rfl⟩
    refine WpOpsG.nil ?_
    change WpG _ _ _ _ _
    refine WpG.cond rfl (fun hq5 => ?_) (fun hq5 => ?_)
    ·(try simp only [zN] at hq5)
     refine WpG.skip ?_
     change WpG _ _ _ _ _
     refine WpG.seq ?_
     refine WpG.block ?_
     refine WpG.seq ?_
     refine WpG.reg ?_
     refine G.mv rfl ?_
     refine G.mv rfl ?_
     refine G.call (P := [(0, tbox t s)]) rfl (by repeat (first | exact trivial | refine ⟨rfl, ?_⟩)) rfl rfl (next_ok t s (n : Int) ht hi hs (by omega)) ?_
     rintro _ _ ⟨rfl, rfl⟩
     refine ⟨rfl, ?_⟩
     change WpOpsG _ _ ((80, .v (.int .i64 (nx t s (n : Int)))) :: _) ((0, tbox t (na t s (n : Int))) :: _) _
     have ru1 := nx_rng t s (n : Int)
     obtain ⟨f, ef, hf⟩ : ∃ o, na t s (n : Int) = o ∧ o ≤ t.length := ⟨_, rfl, na_le hs⟩
     rw [ef]
     obtain ⟨u1, fu1⟩ : ∃ o, nx t s (n : Int) = o := ⟨_, rfl⟩
     rw [fu1] at ru1 ⊢
     refine G.mv rfl ?_
     refine WpOpsG.nil ?_
     change WpG _ _ _ _ _
     refine WpG.seq ?_
     refine WpG.reg ?_
     refine G.mv rfl ?_
     refine G.mv rfl ?_
     refine G.addI rfl rfl (by omega) ?_
     refine G.mv rfl ?_
     refine G.mv rfl ?_
     refine G.subI rfl rfl (by omega) ?_
     refine G.bsliceF rfl rfl rfl ?_
     change WpOpsG _ _ ((94, .fsl 1 (([4294967295, 200, 3] : List Int).map encU)) :: _) _ _
     refine G.box (g := 13) rfl rfl rfl ?_
     refine G.ckcall (P := [(0, tbox t f)]) rfl rfl (by repeat (first | exact trivial | refine ⟨rfl, ?_⟩)) rfl rfl (next_ok t f ((n : Int) - 1) ht hi hf (by omega)) ?_
     rintro _ _ ⟨rfl, rfl⟩
     refine ⟨rfl, ?_⟩
     change WpOpsG _ _ ((87, .v (.int .i64 (nx t f ((n : Int) - 1)))) :: _) ((0, tbox t (na t f ((n : Int) - 1))) :: _) _
     have ru2 := nx_rng t f ((n : Int) - 1)
     obtain ⟨g, eg, hg⟩ : ∃ o, na t f ((n : Int) - 1) = o ∧ o ≤ t.length := ⟨_, rfl, na_le hf⟩
     rw [eg]
     obtain ⟨u2, fu2⟩ : ∃ o, nx t f ((n : Int) - 1) = o := ⟨_, rfl⟩
     rw [fu2] at ru2 ⊢
     refine G.addI rfl rfl (by omega) ?_
     refine G.mv rfl ?_
     refine G.remN rfl rfl (by omega) (by omega) ?_
     refine G.mv rfl ?_
     refine G.ckcall (P := [(0, tbox t g)]) rfl rfl (by repeat (first | exact trivial | refine ⟨rfl, ?_⟩)) rfl rfl (next_ok t g 2 ht hi hg (by omega)) ?_
     rintro _ _ ⟨rfl, rfl⟩
     refine ⟨rfl, ?_⟩
     change WpOpsG _ _ ((92, .v (.int .i64 (nx t g 2))) :: _) ((0, tbox t (na t g 2)) :: _) _
     have ru3 := nx_rng t g 2
     obtain ⟨h, eh, hh⟩ : ∃ o, na t g 2 = o ∧ o ≤ t.length := ⟨_, rfl, na_le hg⟩
     rw [eh]
     obtain ⟨u3, fu3⟩ : ∃ o, nx t g 2 = o := ⟨_, rfl⟩
     rw [fu3] at ru3 ⊢
     refine G.bin rfl rfl rfl ?_
     refine G.mv rfl ?_
     refine G.ckcall (P := [(0, tbox t h)]) rfl rfl (by repeat (first | exact trivial | refine ⟨rfl, ?_⟩)) rfl rfl (next_ok t h 3 ht hi hh (by omega)) ?_
     rintro _ _ ⟨rfl, rfl⟩
     refine ⟨rfl, ?_⟩
     change WpOpsG _ _ ((96, .v (.int .i64 (nx t h 3))) :: _) ((0, tbox t (na t h 3)) :: _) _
     have ru4 := nx_rng t h 3
     obtain ⟨j, ej, hj⟩ : ∃ o, na t h 3 = o ∧ o ≤ t.length := ⟨_, rfl, na_le hh⟩
     rw [ej]
     obtain ⟨u4, fu4⟩ : ∃ o, nx t h 3 = o := ⟨_, rfl⟩
     rw [fu4] at ru4 ⊢
     refine G.iaddrM rfl rfl (by omega) (gd17 (0 : Int) (by show _ < 3; omega)) ?_
     refine G.load1F rfl rfl ?_
     obtain ⟨mx, hmx⟩ : ∃ z, ([4294967295, 200, 3] : List Int).getD u4.toNat 0 = z := ⟨_, rfl⟩
     rw [hmx]
     refine G.build rfl ?_
     refine G.storeB rfl rfl rfl rfl rfl rfl ?_
     refine WpOpsG.nil ?_
     change WpG _ _ _ _ _
     refine WpG.seq ?_
     refine WpG.seq ?_
     refine WpG.reg ?_
     refine G.faddrB rfl ?_
     refine G.load1B rfl rfl rfl ?_
     refine WpOpsG.nil ?_
     change WpG _ _ _ _ _
     refine WpG.cond rfl (fun hq6 => ?_) (fun hq6 => ?_)
     ·(try simp only [zN] at hq6)
      refine WpG.reg ?_
      refine G.mv rfl ?_
      refine G.call (P := [(0, tbox t j)]) rfl (by repeat (first | exact trivial | refine ⟨rfl, ?_⟩)) rfl rfl (next_ok t j 3 ht hi hj (by omega)) ?_
      rintro _ _ ⟨rfl, rfl⟩
      refine ⟨rfl, ?_⟩
      change WpOpsG _ _ ((103, .v (.int .i64 (nx t j 3))) :: _) ((0, tbox t (na t j 3)) :: _) _
      have ru5 := nx_rng t j 3
      obtain ⟨q, eq, hq⟩ : ∃ o, na t j 3 = o ∧ o ≤ t.length := ⟨_, rfl, na_le hj⟩
      rw [eq]
      obtain ⟨u5, fu5⟩ : ∃ o, nx t j 3 = o := ⟨_, rfl⟩
      rw [fu5] at ru5 ⊢
      refine G.addI rfl rfl (by omega) ?_
      refine G.faddrB rfl ?_
      refine G.storeB rfl rfl rfl rfl rfl rfl ?_
      refine WpOpsG.nil ?_
      change WpG _ _ _ _ _
      refine WpG.reg ?_
      refine G.faddrB rfl ?_
      refine G.load1B rfl rfl rfl ?_
      refine G.loadNB rfl rfl rfl ?_
      refine G.bsliceF rfl rfl rfl ?_
      first
       | (change WpOpsG _ _ ((109, .fsl 6 (([(⟨u1, (u1 + 1 + u2) % (n : Int), (u3 == 0), 1 + u5, mx, 0⟩ : Ch)] : List Ch).map encC)) :: _) _ _
          obtain ⟨ch, hch, hco, hcl⟩ : ∃ ch : Ch, (⟨u1, (u1 + 1 + u2) % (n : Int), (u3 == 0), 1 + u5, mx, 0⟩ : Ch) = ch ∧ okCh (n : Int) ch ∧ ch.late = 0 := ⟨_, rfl, ch_ok (by omega) (by omega) (by omega), rfl⟩
          rw [hch])
       | (change WpOpsG _ _ ((109, .fsl 6 (([(⟨u1, (u1 + 1 + u2) % (n : Int), (u3 == 0), 0, mx, 0⟩ : Ch)] : List Ch).map encC)) :: _) _ _
          obtain ⟨ch, hch, hco, hcl⟩ : ∃ ch : Ch, (⟨u1, (u1 + 1 + u2) % (n : Int), (u3 == 0), 0, mx, 0⟩ : Ch) = ch ∧ okCh (n : Int) ch ∧ ch.late = 0 := ⟨_, rfl, ch_ok (by omega) (by omega) (by omega), rfl⟩
          rw [hch])
      refine G.app rfl rfl rfl rfl trivial (by rw [List.length_map]; show (C.length + 1) * 48 ≤ 2 ^ 47; omega) ?_
      rw [← List.map_append]
      refine G.faddrB rfl ?_
      refine G.storeB rfl rfl rfl rfl rfl rfl ?_
      refine WpOpsG.nil ?_
      change WpG _ _ _ _ _
      refine WpG.reg ?_
      refine G.mv rfl ?_
      refine G.subI rfl rfl (by omega) ?_
      refine G.mv rfl ?_
      refine WpOpsG.nil ?_
      first
       | exact ⟨(C ++ [ch], k - 1, q), by show (k - 1).toNat < k.toNat; omega, ⟨by dsimp only; rw [List.length_append]; show ((C.length + 1 : Nat) : Int) + (k - 1) ≤ 3 ∧ _; omega, okC0_app hCs hco hcl, hq⟩, ⟨rfl, rfl, rfl, rfl, rfl, trivial⟩, ⟨rfl, rfl, rfl, rfl, rfl, rfl, trivial⟩, rfl⟩
       | exact ⟨(C ++ [ch], k - 1, j), by show (k - 1).toNat < k.toNat; omega, ⟨by dsimp only; rw [List.length_append]; show ((C.length + 1 : Nat) : Int) + (k - 1) ≤ 3 ∧ _; omega, okC0_app hCs hco hcl, hj⟩, ⟨rfl, rfl, rfl, rfl, rfl, trivial⟩, ⟨rfl, rfl, rfl, rfl, rfl, rfl, trivial⟩, rfl⟩
     ·(try simp only [zN] at hq6)
      refine WpG.skip ?_
      change WpG _ _ _ _ _
      refine WpG.reg ?_
      refine G.faddrB rfl ?_
      refine G.load1B rfl rfl rfl ?_
      refine G.loadNB rfl rfl rfl ?_
      refine G.bsliceF rfl rfl rfl ?_
      first
       | (change WpOpsG _ _ ((109, .fsl 6 (([(⟨u1, (u1 + 1 + u2) % (n : Int), (u3 == 0), 1 + u5, mx, 0⟩ : Ch)] : List Ch).map encC)) :: _) _ _
          obtain ⟨ch, hch, hco, hcl⟩ : ∃ ch : Ch, (⟨u1, (u1 + 1 + u2) % (n : Int), (u3 == 0), 1 + u5, mx, 0⟩ : Ch) = ch ∧ okCh (n : Int) ch ∧ ch.late = 0 := ⟨_, rfl, ch_ok (by omega) (by omega) (by omega), rfl⟩
          rw [hch])
       | (change WpOpsG _ _ ((109, .fsl 6 (([(⟨u1, (u1 + 1 + u2) % (n : Int), (u3 == 0), 0, mx, 0⟩ : Ch)] : List Ch).map encC)) :: _) _ _
          obtain ⟨ch, hch, hco, hcl⟩ : ∃ ch : Ch, (⟨u1, (u1 + 1 + u2) % (n : Int), (u3 == 0), 0, mx, 0⟩ : Ch) = ch ∧ okCh (n : Int) ch ∧ ch.late = 0 := ⟨_, rfl, ch_ok (by omega) (by omega) (by omega), rfl⟩
          rw [hch])
      refine G.app rfl rfl rfl rfl trivial (by rw [List.length_map]; show (C.length + 1) * 48 ≤ 2 ^ 47; omega) ?_
      rw [← List.map_append]
      refine G.faddrB rfl ?_
      refine G.storeB rfl rfl rfl rfl rfl rfl ?_
      refine WpOpsG.nil ?_
      change WpG _ _ _ _ _
      refine WpG.reg ?_
      refine G.mv rfl ?_
      refine G.subI rfl rfl (by omega) ?_
      refine G.mv rfl ?_
      refine WpOpsG.nil ?_
      first
       | exact ⟨(C ++ [ch], k - 1, q), by show (k - 1).toNat < k.toNat; omega, ⟨by dsimp only; rw [List.length_append]; show ((C.length + 1 : Nat) : Int) + (k - 1) ≤ 3 ∧ _; omega, okC0_app hCs hco hcl, hq⟩, ⟨rfl, rfl, rfl, rfl, rfl, trivial⟩, ⟨rfl, rfl, rfl, rfl, rfl, rfl, trivial⟩, rfl⟩
       | exact ⟨(C ++ [ch], k - 1, j), by show (k - 1).toNat < k.toNat; omega, ⟨by dsimp only; rw [List.length_append]; show ((C.length + 1 : Nat) : Int) + (k - 1) ≤ 3 ∧ _; omega, okC0_app hCs hco hcl, hj⟩, ⟨rfl, rfl, rfl, rfl, rfl, trivial⟩, ⟨rfl, rfl, rfl, rfl, rfl, rfl, trivial⟩, rfl⟩
    ·(try simp only [zN] at hq5)
     refine WpG.exit ?_
     change WpG _ _ _ _ _
     refine WpG.seq ?_
     refine WpG.seq ?_
     refine WpG.reg ?_
     refine G.mv rfl ?_
     refine G.call (P := [(0, tbox t s)]) rfl (by repeat (first | exact trivial | refine ⟨rfl, ?_⟩)) rfl rfl (next_ok t s 2 ht hi hs (by omega)) ?_
     rintro _ _ ⟨rfl, rfl⟩
     refine ⟨rfl, ?_⟩
     change WpOpsG _ _ ((113, .v (.int .i64 (nx t s 2))) :: _) ((0, tbox t (na t s 2)) :: _) _
     have ru9 := nx_rng t s 2
     obtain ⟨e, ee, he⟩ : ∃ o, na t s 2 = o ∧ o ≤ t.length := ⟨_, rfl, na_le hs⟩
     rw [ee]
     obtain ⟨u9, fu9⟩ : ∃ o, nx t s 2 = o := ⟨_, rfl⟩
     rw [fu9] at ru9 ⊢
     refine G.mv rfl ?_
     refine WpOpsG.nil ?_
     change WpG _ _ _ _ _
     refine WpG.block ?_
     refine WpG.loop (S := List (List Nd) × Int × Nat) (fun s => [(0, .bptr 0 0), (2, .bptr 10 0), (3, .bptr 11 0), (4, .v (.int .i64 (n : Int))), (12, .v (.int .i64 s.2.1))]) (fun s => [(0, tbox t s.2.2), (10, .box [.v (.slice none 0 0), .v (.slice none 0 0), .v (.slice none 0 0)]), (11, .box [.osl 21, .osl 22, .osl 23]), (21, .arr .yes 11 (X.map encX)), (22, .arr .yes 6 (C.map encC)), (23, .arr .yes 1 (s.1.map encTb))]) (fun s => ((s.1.length : Int) + s.2.1 = u9 ∧ -1 ≤ s.2.1) ∧ (∀ x ∈ s.1, x.length ≤ 2 ^ 20) ∧ s.2.2 ≤ t.length) (fun s => (s.2.1 + 1).toNat) (fun s => ⟨rfl, rfl⟩) ?_ ([], u9, e) ?_ (by repeat (first | exact trivial | refine ⟨rfl, ?_⟩)) (by repeat (first | exact trivial | refine ⟨rfl, ?_⟩)) rfl
     ·rintro ⟨tabs, k9, s2⟩ ⟨hk9, hTs, hs2⟩
      dsimp only at hk9 hTs hs2 ⊢
      refine WpG.seq ?_
      refine WpG.seq ?_
      refine WpG.reg ?_
      refine G.mv rfl ?_
      refine G.bin rfl rfl rfl ?_
      refine WpOpsG.nil ?_
      change WpG _ _ _ _ _
      refine WpG.cond rfl (fun hq7 => ?_) (fun hq7 => ?_)
      ·(try simp only [zN] at hq7)
       refine WpG.skip ?_
       change WpG _ _ _ _ _
       refine WpG.seq ?_
       refine WpG.block ?_
       refine WpG.reg ?_
       refine G.faddrB rfl ?_
       refine G.load1B rfl rfl rfl ?_
       refine G.mv rfl ?_
       refine G.mv rfl ?_
       refine G.ckcall (P := [(0, tbox t s2)]) rfl rfl (by repeat (first | exact trivial | refine ⟨rfl, ?_⟩)) rfl rfl (frame_ok t s2 (n : Int) ht hi hs2 (by omega)) ?_
       rintro _ _ ⟨tb, b2, htb, hb2, rfl, rfl⟩
       change newOk _ _ [(0, tbox t b2)] = true ∧ _
       refine ⟨rfl, ?_⟩
       change WpOpsG _ _ ((122, .fsl 3 (tb.map encD)) :: _) ((0, tbox t b2) :: _) _
       refine G.bsliceF rfl rfl rfl ?_
       change WpOpsG _ _ ((123, .fsl 1 (([tb] : List (List Nd)).map encTb)) :: _) _ _
       refine G.app rfl rfl rfl rfl trivial (by rw [List.length_map]; show (tabs.length + 1) * 24 ≤ 2 ^ 47; omega) ?_
       rw [← List.map_append]
       refine G.faddrB rfl ?_
       refine G.storeB rfl rfl rfl rfl rfl rfl ?_
       refine WpOpsG.nil ?_
       change WpG _ _ _ _ _
       refine WpG.reg ?_
       refine G.mv rfl ?_
       refine G.subI rfl rfl (by omega) ?_
       refine G.mv rfl ?_
       refine WpOpsG.nil ?_
       exact ⟨(tabs ++ [tb], k9 - 1, b2), by show (k9 - 1 + 1).toNat < (k9 + 1).toNat; omega, ⟨by dsimp only; rw [List.length_append]; show ((tabs.length + 1 : Nat) : Int) + (k9 - 1) = u9 ∧ _; omega, tabs_app hTs htb, hb2⟩, ⟨rfl, rfl, rfl, rfl, rfl, trivial⟩, ⟨rfl, rfl, rfl, rfl, rfl, rfl, trivial⟩, rfl⟩
      ·(try simp only [zN] at hq7)
       refine WpG.exit ?_
       change WpG _ _ _ _ _
       refine WpG.seq ?_
       refine WpG.freeze 23 rfl ?_
       have hXl : (X.length : Int) = (n : Int) := by omega
       refine WpG.reg ?_
       refine G.mv rfl ?_
       refine G.loadNB rfl rfl rfl ?_
       refine G.call (P := [(0, tbox t s2), (21, .arr .yes 11 (X.map encX)), (22, .arr .yes 6 (C.map encC))]) rfl (by repeat (first | exact trivial | refine ⟨rfl, ?_⟩)) rfl rfl ((asks_ok t s2 X C tabs ht hi hs2 (by omega) hXs.1 (by omega) (by rw [hXl]; exact hCs.1) (by omega) (by omega) (fun x hx => by have := hTs x hx; omega) hCs.2 hXs.2).ren [(1, 21), (2, 22)]) ?_
       rintro _ _ ⟨_, _, ⟨X2, C2, b2, hX2, hC2, ⟨hb2, hho⟩, rfl, rfl⟩, rfl, rfl⟩
       change newOk _ _ [(0, tbox t b2)] = true ∧ _
       refine ⟨rfl, ?_⟩
       change WpOpsG _ _ ((128, .agg [.fsl 11 (X2.map encX), .fsl 6 (C2.map encC), .fsl 1 (tabs.map encTb)]) :: _) ([(0, tbox t b2)] ++ _) _
       refine G.storeB rfl rfl rfl rfl rfl rfl ?_
       refine WpOpsG.nil ?_
       change WpG _ _ _ _ _
       refine WpG.ret ?_
       refine ⟨_, [(0, tbox t b2)], rfl, (hasP_le (by repeat (first | exact trivial | refine ⟨rfl, ?_⟩))), rfl, rfl, rfl, ?_⟩
       refine ⟨X2, C2, tabs, b2, ⟨⟨by omega, hX2.2⟩, ⟨by omega, ?_⟩, by omega, hTs, hho⟩, hb2, rfl, rfl⟩
       rw [hX2.1]; exact hC2.2
     ·exact ⟨by simp only [List.length_nil]; omega, fun x hx => (by cases hx), he⟩
   ·exact ⟨by simp only [List.length_nil]; omega, ⟨fun x hx => (by cases hx), fun x hx => (by cases hx)⟩, hb⟩
 ·exact ⟨Nat.zero_le _, rfl, ⟨fun c hc => (by cases hc), fun c hc => (by cases hc)⟩, ha1⟩
end Go.AM.L9
