/- Contracts of the functions that the statement reaches. No condition. -/
import Derived.Test.YtnkbbfnloecbcaaC3g
import Derived.Test.YtnkbbfnloecbcaaPL3e
import Derived.Test.YtnkbbfnloecbcaaPLn
set_option linter.all false
set_option maxRecDepth 10000
namespace Go.AM.L3
open Go.AM.PL
theorem table6_ok (t : List Int) (a d : Nat) (parts : Int) (ht : t.length ≤ 2 ^ 50) (hi : ∀ x ∈ t, i64 x) (ha : a ≤ t.length) (hp : 1 ≤ parts ∧ parts ≤ 6) (hd : d ≤ 6) : WpCallG A 8 [.bptr 0 0, .v (.int .i64 parts), .v (.int .i64 (d : Int))] [(0, tbox t a)] (fun v H => ∃ x ks b, Fo.TB d x ks ∧ b ≤ t.length ∧ v = .osl 2 ∧ H = [(2, .arr .yes 3 ((Fo.enc (Fo.one x ks)).map encD)), (0, tbox t b)]) := by
 refine WpCallG.intro g8 rfl rfl ?_
 unfold af8
 change WpG _ _ _ _ _
 refine WpG.seq ?_
 refine WpG.reg ?_
 refine G.mv rfl ?_
 refine WpOpsG.nil ?_
 change WpG _ _ _ _ _
 refine WpG.seq ?_
 refine WpG.reg ?_
 refine G.mv rfl ?_
 refine G.call (P := [(0, tbox t a)]) rfl (by repeat (first | exact trivial | refine ⟨rfl, ?_⟩)) rfl rfl (next_ok t a 7 ht hi ha (by omega)) ?_
 rintro _ _ ⟨rfl, rfl⟩
 refine ⟨rfl, ?_⟩
 change WpOpsG _ _ ((12, .v (.int .i64 (nx t a 7))) :: _) ((0, tbox t (na t a 7)) :: _) _
 have rk := nx_rng t a 7
 obtain ⟨b, eb, hb⟩ : ∃ o, na t a 7 = o ∧ o ≤ t.length := ⟨_, rfl, na_le ha⟩
 rw [eb]
 obtain ⟨k, fk⟩ : ∃ o, nx t a 7 = o := ⟨_, rfl⟩
 rw [fk] at rk ⊢
 refine G.mv rfl ?_
 refine WpOpsG.nil ?_
 change WpG _ _ _ _ _
 refine WpG.seq ?_
 refine WpG.seq ?_
 refine WpG.reg ?_
 refine G.mv rfl ?_
 refine G.bin rfl rfl rfl ?_
 refine G.mv rfl ?_
 apply G.orS rfl rfl rfl rfl rfl rfl
 case hB =>
  intro hs1
  (try simp only [zN] at hs1)
  refine G.mv rfl ?_
  refine G.bin rfl rfl rfl ?_
  refine WpOpsG.nil ?_
  exact ⟨rfl, (by repeat (first | exact LLe.refl _ | refine LLe.cons rfl ?_)), (by repeat (first | exact HLe.refl _ | refine HLe.cons rfl ?_)), rfl⟩
 refine WpOpsG.nil ?_
 change WpG _ _ _ _ _
 refine WpG.cond rfl (fun hq2 => ?_) (fun hq2 => ?_)
 ·(try simp only [zN] at hq2)
  refine WpG.seq ?_
  refine WpG.seq ?_
  refine WpG.reg ?_
  refine G.mv rfl ?_
  refine G.bin rfl rfl rfl ?_
  refine WpOpsG.nil ?_
  change WpG _ _ _ _ _
  refine WpG.cond rfl (fun hq3 => ?_) (fun hq3 => ?_)
  ·(try simp only [zN] at hq3)
   refine WpG.seq ?_
   refine WpG.reg ?_
   refine G.mv rfl ?_
   refine G.call (P := [(0, tbox t b)]) rfl (by repeat (first | exact trivial | refine ⟨rfl, ?_⟩)) rfl rfl (next_ok t b 4 ht hi hb (by omega)) ?_
   rintro _ _ ⟨rfl, rfl⟩
   refine ⟨rfl, ?_⟩
   change WpOpsG _ _ ((22, .v (.int .i64 (nx t b 4))) :: _) ((0, tbox t (na t b 4)) :: _) _
   have ru := nx_rng t b 4
   obtain ⟨c, ec, hc⟩ : ∃ o, na t b 4 = o ∧ o ≤ t.length := ⟨_, rfl, na_le hb⟩
   rw [ec]
   obtain ⟨u, fu⟩ : ∃ o, nx t b 4 = o := ⟨_, rfl⟩
   rw [fu] at ru ⊢
   refine G.addI rfl rfl (by omega) ?_
   refine G.build rfl ?_
   refine G.bslice (g := 2) rfl rfl rfl rfl ?_
   refine G.mv rfl ?_
   refine WpOpsG.nil ?_
   change WpG _ _ _ _ _
   refine WpG.ret ?_
   refine ⟨_, [(2, .arr .yes 3 ([(⟨2, 0, 1 + u⟩ : Nd)].map encD)), (0, tbox t c)], rfl, (hasP_le (by repeat (first | exact trivial | refine ⟨rfl, ?_⟩))), rfl, rfl, rfl, ?_⟩
   exact ⟨(⟨2, 0, 1 + u⟩ : Nd), .nil, c, Fo.tb_leaf d (kid_idle (by omega)) (by dsimp only; omega), hc, rfl, rfl⟩
  ·(try simp only [zN] at hq3)
   refine WpG.skip ?_
   change WpG _ _ _ _ _
   refine WpG.seq ?_
   refine WpG.reg ?_
   refine G.mv rfl ?_
   refine G.mv rfl ?_
   refine G.call (P := [(0, tbox t b)]) rfl (by repeat (first | exact trivial | refine ⟨rfl, ?_⟩)) rfl rfl (next_ok t b parts ht hi hb (by omega)) ?_
   rintro _ _ ⟨rfl, rfl⟩
   refine ⟨rfl, ?_⟩
   change WpOpsG _ _ ((28, .v (.int .i64 (nx t b parts))) :: _) ((0, tbox t (na t b parts)) :: _) _
   have rw := nx_rng t b parts
   obtain ⟨c, ec, hc⟩ : ∃ o, na t b parts = o ∧ o ≤ t.length := ⟨_, rfl, na_le hb⟩
   rw [ec]
   obtain ⟨w, fw⟩ : ∃ o, nx t b parts = o := ⟨_, rfl⟩
   rw [fw] at rw ⊢
   refine G.mv rfl ?_
   refine G.call (P := [(0, tbox t c)]) rfl (by repeat (first | exact trivial | refine ⟨rfl, ?_⟩)) rfl rfl (next_ok t c 4 ht hi hc (by omega)) ?_
   rintro _ _ ⟨rfl, rfl⟩
   refine ⟨rfl, ?_⟩
   change WpOpsG _ _ ((30, .v (.int .i64 (nx t c 4))) :: _) ((0, tbox t (na t c 4)) :: _) _
   have ru := nx_rng t c 4
   obtain ⟨g, eg, hg⟩ : ∃ o, na t c 4 = o ∧ o ≤ t.length := ⟨_, rfl, na_le hc⟩
   rw [eg]
   obtain ⟨u, fu⟩ : ∃ o, nx t c 4 = o := ⟨_, rfl⟩
   rw [fu] at ru ⊢
   refine G.addI rfl rfl (by omega) ?_
   refine G.build rfl ?_
   refine G.bslice (g := 2) rfl rfl rfl rfl ?_
   refine G.mv rfl ?_
   refine WpOpsG.nil ?_
   change WpG _ _ _ _ _
   refine WpG.ret ?_
   refine ⟨_, [(2, .arr .yes 3 ([(⟨1, w, 1 + u⟩ : Nd)].map encD)), (0, tbox t g)], rfl, (hasP_le (by repeat (first | exact trivial | refine ⟨rfl, ?_⟩))), rfl, rfl, rfl, ?_⟩
   exact ⟨(⟨1, w, 1 + u⟩ : Nd), .nil, g, Fo.tb_leaf d (kid_win (by omega) (by omega)) (by dsimp only; omega), hg, rfl, rfl⟩
 ·(try simp only [zN] at hq2)
  refine WpG.skip ?_
  change WpG _ _ _ _ _
  refine WpG.seq ?_
  refine WpG.seq ?_
  refine WpG.reg ?_
  refine G.mv rfl ?_
  refine G.bin rfl rfl rfl ?_
  refine WpOpsG.nil ?_
  change WpG _ _ _ _ _
  refine WpG.cond rfl (fun hq4 => ?_) (fun hq4 => ?_)
  ·(try simp only [zN] at hq4)
   refine WpG.seq ?_
   obtain ⟨e, he⟩ : ∃ e, d = e + 1 := ⟨d - 1, by omega⟩
   rw [show (d : Int) = ((e + 1 : Nat) : Int) by omega]
   refine WpG.reg ?_
   refine G.mv rfl ?_
   refine G.call (P := [(0, tbox t b)]) rfl (by repeat (first | exact trivial | refine ⟨rfl, ?_⟩)) rfl rfl (next_ok t b 3 ht hi hb (by omega)) ?_
   rintro _ _ ⟨rfl, rfl⟩
   refine ⟨rfl, ?_⟩
   change WpOpsG _ _ ((37, .v (.int .i64 (nx t b 3))) :: _) ((0, tbox t (na t b 3)) :: _) _
   have ru := nx_rng t b 3
   obtain ⟨c, ec, hc⟩ : ∃ o, na t b 3 = o ∧ o ≤ t.length := ⟨_, rfl, na_le hb⟩
   rw [ec]
   obtain ⟨u, fu⟩ : ∃ o, nx t b 3 = o := ⟨_, rfl⟩
   rw [fu] at ru ⊢
   refine G.addI rfl rfl (by omega) ?_
   refine G.build rfl ?_
   refine G.bslice (g := 2) rfl rfl rfl rfl ?_
   refine G.mv rfl ?_
   refine G.mv rfl ?_
   refine G.mv rfl ?_
   refine G.subI rfl rfl (by omega) ?_
   rw [show ((e + 1 : Nat) : Int) - 1 = (e : Int) by omega]
   refine G.call (P := [(0, tbox t c)]) rfl (by repeat (first | exact trivial | refine ⟨rfl, ?_⟩)) rfl rfl ((table6_ok t c e parts ht hi hc hp (by omega)).ren [(2, 20)]) ?_
   rintro _ _ ⟨_, _, ⟨x, ks, z, htb, hz, rfl, rfl⟩, rfl, rfl⟩
   change newOk _ _ [(20, _), (0, tbox t z)] = true ∧ _
   refine ⟨rfl, ?_⟩
   change WpOpsG _ _ ((45, .osl 20) :: _) ([(20, .arr .yes 3 ((Fo.enc (Fo.one x ks)).map encD)), (0, tbox t z)] ++ _) _
   have hlen := Fo.tb_len6 htb (by omega)
   refine G.app (ds := (Fo.enc (Fo.one x ks)).map encD) rfl rfl rfl rfl trivial (by simp only [List.length_map, List.length_cons, List.length_nil]; omega) ?_
   refine G.mv rfl ?_
   refine WpOpsG.nil ?_
   change WpG _ _ _ _ _
   refine WpG.ret ?_
   refine ⟨_, [(2, .arr .yes 3 (((⟨4, 0, 1 + u⟩ : Nd) :: Fo.enc (Fo.one x ks)).map encD)), (0, tbox t z)], rfl, (hasP_le (by repeat (first | exact trivial | refine ⟨rfl, ?_⟩))), rfl, rfl, rfl, ?_⟩
   refine ⟨(⟨4, 0, 1 + u⟩ : Nd), Fo.one x ks, z, by rw [he]; exact Fo.tb_rep htb rfl rfl (by dsimp only; omega), hz, rfl, ?_⟩
   rw [show Fo.enc (Fo.one (⟨4, 0, 1 + u⟩ : Nd) (Fo.one x ks)) = (⟨4, 0, 1 + u⟩ : Nd) :: Fo.enc (Fo.one x ks) by simp [Fo.enc, Fo.one]]
  ·(try simp only [zN] at hq4)
   refine WpG.skip ?_
   change WpG _ _ _ _ _
   refine WpG.seq ?_
   obtain ⟨e, he⟩ : ∃ e, d = e + 1 := ⟨d - 1, by omega⟩
   rw [show (d : Int) = ((e + 1 : Nat) : Int) by omega]
   refine WpG.reg ?_
   refine G.mv rfl ?_
   refine G.call (P := [(0, tbox t b)]) rfl (by repeat (first | exact trivial | refine ⟨rfl, ?_⟩)) rfl rfl (next_ok t b 4 ht hi hb (by omega)) ?_
   rintro _ _ ⟨rfl, rfl⟩
   refine ⟨rfl, ?_⟩
   change WpOpsG _ _ ((48, .v (.int .i64 (nx t b 4))) :: _) ((0, tbox t (na t b 4)) :: _) _
   have ru := nx_rng t b 4
   obtain ⟨c, ec, hc⟩ : ∃ o, na t b 4 = o ∧ o ≤ t.length := ⟨_, rfl, na_le hb⟩
   rw [ec]
   obtain ⟨u, fu⟩ : ∃ o, nx t b 4 = o := ⟨_, rfl⟩
   rw [fu] at ru ⊢
   refine G.addI rfl rfl (by omega) ?_
   obtain ⟨nn, hnn⟩ : ∃ nn : Nat, 1 + u = (nn : Int) := ⟨(1 + u).toNat, by omega⟩
   rw [hnn]
   refine G.mv rfl ?_
   refine WpOpsG.nil ?_
   change WpG _ _ _ _ _
   refine WpG.seq ?_
   refine WpG.reg ?_
   refine G.mv rfl ?_
   refine G.build rfl ?_
   refine G.bslice (g := 2) rfl rfl rfl rfl ?_
   refine G.mv rfl ?_
   refine WpOpsG.nil ?_
   change WpG _ _ _ _ _
   refine WpG.seq ?_
   refine WpG.seq ?_
   refine WpG.reg ?_
   refine G.mv rfl ?_
   refine WpOpsG.nil ?_
   change WpG _ _ _ _ _
   refine WpG.block ?_
   refine WpG.loop (S := Nat × Fo × Nat) (fun s => [(0, .bptr 0 0), (1, .v (.int .i64 parts)), (2, .v (.int .i64 ((e + 1 : Nat) : Int))), (8, .v (.int .i64 (nn : Int))), (9, .osl 2), (10, .v (.int .i64 (s.1 : Int)))]) (fun s => [(2, .arr .yes 3 (((⟨3, 0, (nn : Int)⟩ : Nd) :: Fo.enc s.2.1).map encD)), (0, tbox t s.2.2)]) (fun s => s.1 ≤ nn ∧ Fo.FB e s.1 s.2.1 ∧ s.2.2 ≤ t.length) (fun s => nn - s.1) (fun s => ⟨rfl, rfl⟩) ?_ (0, .nil, c) ?_ (by repeat (first | exact trivial | refine ⟨rfl, ?_⟩)) (by repeat (first | exact trivial | refine ⟨rfl, ?_⟩)) rfl
   ·rintro ⟨i, f, s⟩ ⟨hI, hf, hs⟩
    dsimp only at hI hf hs ⊢
    have hfl := hf.2.2.1
    have htl := Fo.tb_bound6 e (by omega)
    have hfm : i * Fo.tl e ≤ 4 * 5461 := Nat.mul_le_mul (by omega) htl
    refine WpG.seq ?_
    refine WpG.seq ?_
    refine WpG.reg ?_
    refine G.mv rfl ?_
    refine G.mv rfl ?_
    refine G.bin rfl rfl rfl ?_
    refine WpOpsG.nil ?_
    change WpG _ _ _ _ _
    refine WpG.cond rfl (fun hq5 => ?_) (fun hq5 => ?_)
    ·(try simp only [zN] at hq5)
     refine WpG.skip ?_
     change WpG _ _ _ _ _
     refine WpG.seq ?_
     refine WpG.block ?_
     refine WpG.reg ?_
     refine G.mv rfl ?_
     refine G.mv rfl ?_
     refine G.mv rfl ?_
     refine G.mv rfl ?_
     refine G.subI rfl rfl (by omega) ?_
     rw [show ((e + 1 : Nat) : Int) - 1 = (e : Int) by omega]
     refine G.call (P := [(0, tbox t s)]) rfl (by repeat (first | exact trivial | refine ⟨rfl, ?_⟩)) rfl rfl ((table6_ok t s e parts ht hi hs hp (by omega)).ren [(2, 20)]) ?_
     rintro _ _ ⟨_, _, ⟨x, ks, z, htb, hz, rfl, rfl⟩, rfl, rfl⟩
     change newOk _ _ [(20, _), (0, tbox t z)] = true ∧ _
     refine ⟨rfl, ?_⟩
     change WpOpsG _ _ ((63, .osl 20) :: _) ([(20, .arr .yes 3 ((Fo.enc (Fo.one x ks)).map encD)), (0, tbox t z)] ++ _) _
     have hlen := Fo.tb_len6 htb (by omega)
     refine G.app (ds := (Fo.enc (Fo.one x ks)).map encD) rfl rfl rfl rfl trivial (by simp only [List.length_map, List.length_cons, List.length_nil]; omega) ?_
     refine G.mv rfl ?_
     refine WpOpsG.nil ?_
     change WpG _ _ _ _ _
     refine WpG.reg ?_
     refine G.mv rfl ?_
     refine G.addI rfl rfl (by omega) ?_
     refine G.mv rfl ?_
     refine WpOpsG.nil ?_
     refine ⟨(i + 1, f.app (Fo.one x ks), z), by show nn - (i + 1) < nn - i; omega, ⟨by dsimp only; omega, Fo.fb_app hf htb, hz⟩, ⟨rfl, rfl, rfl, rfl, rfl, rfl, trivial⟩, ⟨?_, rfl, trivial⟩, rfl⟩
     rw [Fo.enc_app, ← List.cons_append, List.map_append]; rfl
    ·(try simp only [zN] at hq5)
     refine WpG.exit ?_
     change WpG _ _ _ _ _
     refine WpG.seq ?_
     refine WpG.reg ?_
     refine G.mv rfl ?_
     refine G.mv rfl ?_
     refine WpOpsG.nil ?_
     change WpG _ _ _ _ _
     refine WpG.ret ?_
     refine ⟨_, [(2, .arr .yes 3 (((⟨3, 0, (nn : Int)⟩ : Nd) :: Fo.enc f).map encD)), (0, tbox t s)], rfl, (hasP_le (by repeat (first | exact trivial | refine ⟨rfl, ?_⟩))), rfl, rfl, rfl, ?_⟩
     obtain rfl : nn = i := by omega
     refine ⟨(⟨3, 0, (nn : Int)⟩ : Nd), f, s, by rw [he]; exact Fo.tb_seq hf rfl rfl rfl (by omega), hs, rfl, ?_⟩
     rw [show Fo.enc (Fo.one (⟨3, 0, (nn : Int)⟩ : Nd) f) = (⟨3, 0, (nn : Int)⟩ : Nd) :: Fo.enc f by simp [Fo.enc, Fo.one]]
   ·exact ⟨Nat.zero_le _, Fo.fb_nil e, hc⟩
termination_by d
decreasing_by all_goals omega
theorem tape_ok (k : Nat) (hk : k ≤ 1000) : WpCallG A 7 [.v (.int .i64 (k : Int))] [] (fun v H => v = .osl 0 ∧ H = [(0, .arr .yes 1 ((tapeL 23 k 400).map encK))]) := by
 refine WpCallG.intro g7 rfl rfl ?_
 unfold af7
 change WpG _ _ _ _ _
 refine WpG.seq ?_
 refine WpG.reg ?_
 refine G.mv rfl ?_
 refine WpOpsG.nil ?_
 change WpG _ _ _ _ _
 refine WpG.seq ?_
 refine WpG.reg ?_
 refine G.mv rfl ?_
 refine WpOpsG.nil ?_
 change WpG _ _ _ _ _
 refine WpG.seq ?_
 refine WpG.seq ?_
 refine WpG.reg ?_
 refine G.mv rfl ?_
 refine WpOpsG.nil ?_
 change WpG _ _ _ _ _
 refine WpG.block ?_
 refine WpG.ownNil (g := 0) (k := 3) (w := 1) rfl rfl ?_
 refine WpG.loop (S := Nat) (fun i => [(0, .v (.int .i64 (k : Int))), (3, .osl 0), (4, .v (.int .i64 (i : Int)))]) (fun i => [(0, .arr .yes 1 ((tapeL 23 k i).map encK))]) (fun i => i ≤ 400) (fun i => 400 - i) (fun s => ⟨rfl, rfl⟩) ?_ 0 ?_ (by repeat (first | exact trivial | refine ⟨rfl, ?_⟩)) (by repeat (first | exact trivial | refine ⟨rfl, ?_⟩)) rfl
 ·intro i hI
  refine WpG.seq ?_
  refine WpG.seq ?_
  refine WpG.reg ?_
  refine G.mv rfl ?_
  refine G.bin rfl rfl rfl ?_
  refine WpOpsG.nil ?_
  change WpG _ _ _ _ _
  refine WpG.cond rfl (fun hq1 => ?_) (fun hq1 => ?_)
  ·(try simp only [zN] at hq1)
   refine WpG.skip ?_
   change WpG _ _ _ _ _
   refine WpG.seq ?_
   refine WpG.block ?_
   have e1 := mul_le' (a := i) (b := i) (m := 400) (n := 400) (by omega) (by omega)
   have e2 := mul_le' (a := i) (b := k) (m := 400) (n := 1000) (by omega) (by omega)
   refine WpG.reg ?_
   refine G.mv rfl ?_
   refine G.mv rfl ?_
   refine G.mv rfl ?_
   refine G.mulI rfl rfl (by omega) ?_
   refine G.mulI rfl rfl (by omega) ?_
   refine G.mv rfl ?_
   refine G.mulI rfl rfl (by omega) ?_
   refine G.addI rfl rfl (by omega) ?_
   refine G.mv rfl ?_
   refine G.mv rfl ?_
   refine G.mulI rfl rfl (by omega) ?_
   refine G.addI rfl rfl (by omega) ?_
   refine G.remN rfl rfl (by omega) (by omega) ?_
   refine G.bsliceF rfl rfl rfl ?_
   refine G.app rfl rfl rfl rfl trivial (by rw [List.length_map, tapeL_len]; show (i + 1) * 8 ≤ 2 ^ 47; omega) ?_
   refine G.mv rfl ?_
   refine WpOpsG.nil ?_
   change WpG _ _ _ _ _
   refine WpG.reg ?_
   refine G.mv rfl ?_
   refine G.addI rfl rfl (by omega) ?_
   refine G.mv rfl ?_
   refine WpOpsG.nil ?_
   refine ⟨i + 1, by omega, by omega, ⟨rfl, rfl, rfl, trivial⟩, ⟨?_, trivial⟩, rfl⟩
   rw [tapeL_snoc, List.map_append]; rfl
  ·(try simp only [zN] at hq1)
   refine WpG.exit ?_
   change WpG _ _ _ _ _
   refine WpG.seq ?_
   obtain rfl : i = 400 := by omega
   refine WpG.reg ?_
   refine G.mv rfl ?_
   refine G.mv rfl ?_
   refine WpOpsG.nil ?_
   change WpG _ _ _ _ _
   refine WpG.ret ?_
   refine ⟨_, [(0, .arr .yes 1 ((tapeL 23 k 400).map encK))], rfl, (hasP_le (by repeat (first | exact trivial | refine ⟨rfl, ?_⟩))), rfl, rfl, rfl, ?_⟩
   exact ⟨rfl, rfl⟩
 ·exact Nat.zero_le _
theorem nkidsN_ok (l : List Nd) (a : Int) (hl : l.length ≤ 2 ^ 41) (ha : a < 0) (ha2 : -1 ≤ a) : WpCallG A 15 [.fsl 3 (l.map encD), .v (.int .i64 a)] [] (fun v H => v = .osl 0 ∧ H = [(0, .arr .yes 1 (([] : List Nat).map encI))]) := by
 refine WpCallG.intro g15 rfl rfl ?_
 unfold af15
 change WpG _ _ _ _ _
 refine WpG.seq ?_
 refine WpG.reg ?_
 refine G.mv rfl ?_
 refine WpOpsG.nil ?_
 change WpG _ _ _ _ _
 refine WpG.seq ?_
 refine WpG.reg ?_
 refine G.mv rfl ?_
 refine G.mv rfl ?_
 refine G.call0 rfl rfl (nsize_ok l a (by omega) (by unfold i64; omega)) ?_
 rintro _ _ ⟨rfl, rfl⟩
 refine ⟨rfl, ?_⟩
 change WpOpsG _ _ ((10, _) :: _) _ _
 rw [show sizeV l a = 0 from if_pos (.inl ha)]
 refine G.mv rfl ?_
 refine WpOpsG.nil ?_
 change WpG _ _ _ _ _
 refine WpG.seq ?_
 refine WpG.reg ?_
 refine G.mv rfl ?_
 refine WpOpsG.nil ?_
 change WpG _ _ _ _ _
 refine WpG.seq ?_
 refine WpG.seq ?_
 refine WpG.reg ?_
 refine G.mv rfl ?_
 refine G.addI rfl rfl (by omega) ?_
 refine G.mv rfl ?_
 refine WpOpsG.nil ?_
 change WpG _ _ _ _ _
 refine WpG.block ?_
 refine WpG.ownNil (g := 0) (k := 6) (w := 1) rfl rfl ?_
 refine WpG.loop (S := Nat) (fun _ => [(0, .fsl 3 (l.map encD)), (1, .v (.int .i64 a)), (5, .v (.int .i64 0)), (6, .osl 0), (7, .v (.int .i64 (a + 1)))]) (fun _ => [(0, .arr .yes 1 [])]) (fun _ => True) (fun i => i) (fun s => ⟨rfl, rfl⟩) ?_ 0 ?_ (by repeat (first | exact trivial | refine ⟨rfl, ?_⟩)) (by repeat (first | exact trivial | refine ⟨rfl, ?_⟩)) rfl
 ·intro i _
  refine WpG.seq ?_
  refine WpG.seq ?_
  refine WpG.reg ?_
  refine G.mv rfl ?_
  refine G.bin rfl rfl rfl ?_
  refine G.mv rfl ?_
  apply G.andS rfl rfl rfl rfl rfl rfl
  case hB =>
   intro hs1
   (try simp only [zN] at hs1)
   refine G.mv rfl ?_
   refine G.mv rfl ?_
   refine G.mv rfl ?_
   refine G.addI rfl rfl (by omega) ?_
   refine G.bin rfl rfl rfl ?_
   refine WpOpsG.nil ?_
   exact ⟨rfl, (by repeat (first | exact LLe.refl _ | refine LLe.cons rfl ?_)), (by repeat (first | exact HLe.refl _ | refine HLe.cons rfl ?_)), rfl⟩
  refine WpOpsG.nil ?_
  change WpG _ _ _ _ _
  refine WpG.cond rfl (fun hq2 => ?_) (fun hq2 => ?_)
  ·(try simp only [zN] at hq2)
   exfalso; omega
  ·(try simp only [zN] at hq2)
   refine WpG.exit ?_
   change WpG _ _ _ _ _
   refine WpG.seq ?_
   refine WpG.reg ?_
   refine G.mv rfl ?_
   refine G.mv rfl ?_
   refine WpOpsG.nil ?_
   change WpG _ _ _ _ _
   refine WpG.ret ?_
   refine ⟨_, [(0, .arr .yes 1 [])], rfl, (hasP_le (by repeat (first | exact trivial | refine ⟨rfl, ?_⟩))), rfl, rfl, rfl, ?_⟩
   exact ⟨rfl, rfl⟩
 ·trivial
theorem rkidsN_ok (l : List Nd) (a : Int) (hl : l.length ≤ 2 ^ 41) (ha : a < 0) (ha2 : -1 ≤ a) : WpCallG A 25 [.fsl 3 (l.map encD), .v (.int .i64 a)] [] (fun v H => v = .osl 0 ∧ H = [(0, .arr .yes 1 (([] : List Nat).map encI))]) := by
 refine WpCallG.intro g25 rfl rfl ?_
 unfold af25
 change WpG _ _ _ _ _
 refine WpG.seq ?_
 refine WpG.reg ?_
 refine G.mv rfl ?_
 refine WpOpsG.nil ?_
 change WpG _ _ _ _ _
 refine WpG.seq ?_
 refine WpG.reg ?_
 refine G.mv rfl ?_
 refine G.mv rfl ?_
 refine G.call0 rfl rfl (rsize_ok l a (by omega) (by unfold i64; omega)) ?_
 rintro _ _ ⟨rfl, rfl⟩
 refine ⟨rfl, ?_⟩
 change WpOpsG _ _ ((10, _) :: _) _ _
 rw [show sizeV l a = 0 from if_pos (.inl ha)]
 refine G.mv rfl ?_
 refine WpOpsG.nil ?_
 change WpG _ _ _ _ _
 refine WpG.seq ?_
 refine WpG.reg ?_
 refine G.mv rfl ?_
 refine WpOpsG.nil ?_
 change WpG _ _ _ _ _
 refine WpG.seq ?_
 refine WpG.seq ?_
 refine WpG.reg ?_
 refine G.mv rfl ?_
 refine G.addI rfl rfl (by omega) ?_
 refine G.mv rfl ?_
 refine WpOpsG.nil ?_
 change WpG _ _ _ _ _
 refine WpG.block ?_
 refine WpG.ownNil (g := 0) (k := 6) (w := 1) rfl rfl ?_
 refine WpG.loop (S := Nat) (fun _ => [(0, .fsl 3 (l.map encD)), (1, .v (.int .i64 a)), (5, .v (.int .i64 0)), (6, .osl 0), (7, .v (.int .i64 (a + 1)))]) (fun _ => [(0, .arr .yes 1 [])]) (fun _ => True) (fun i => i) (fun s => ⟨rfl, rfl⟩) ?_ 0 ?_ (by repeat (first | exact trivial | refine ⟨rfl, ?_⟩)) (by repeat (first | exact trivial | refine ⟨rfl, ?_⟩)) rfl
 ·intro i _
  refine WpG.seq ?_
  refine WpG.seq ?_
  refine WpG.reg ?_
  refine G.mv rfl ?_
  refine G.mv rfl ?_
  refine G.mv rfl ?_
  refine G.addI rfl rfl (by omega) ?_
  refine G.bin rfl rfl rfl ?_
  refine WpOpsG.nil ?_
  change WpG _ _ _ _ _
  refine WpG.cond rfl (fun hq1 => ?_) (fun hq1 => ?_)
  ·(try simp only [zN] at hq1)
   exfalso; omega
  ·(try simp only [zN] at hq1)
   refine WpG.exit ?_
   change WpG _ _ _ _ _
   refine WpG.seq ?_
   refine WpG.reg ?_
   refine G.mv rfl ?_
   refine G.mv rfl ?_
   refine WpOpsG.nil ?_
   change WpG _ _ _ _ _
   refine WpG.ret ?_
   refine ⟨_, [(0, .arr .yes 1 [])], rfl, (hasP_le (by repeat (first | exact trivial | refine ⟨rfl, ?_⟩))), rfl, rfl, rfl, ?_⟩
   exact ⟨rfl, rfl⟩
 ·trivial
theorem nkidsZ_ok (l : List Nd) (x : Int) (K : List Nat) (hl : l.length ≤ 2 ^ 41) (hx : -1 ≤ x ∧ x ≤ 2 ^ 41) (hK : kidsZ l x K) : WpCallG A 15 [.fsl 3 (l.map encD), .v (.int .i64 x)] [] (fun v H => v = .osl 0 ∧ H = [(0, .arr .yes 1 (K.map encI))]) := by
 by_cases c : 0 ≤ x
 ·have := nkids_ok l x.toNat K hl (by omega) (hK.1 c)
  rwa [Int.toNat_of_nonneg c] at this
 ·rw [hK.2 (by omega)]; exact nkidsN_ok l x hl (by omega) hx.1
theorem rkidsZ_ok (l : List Nd) (x : Int) (K : List Nat) (hl : l.length ≤ 2 ^ 41) (hx : -1 ≤ x ∧ x ≤ 2 ^ 41) (hK : kidsZ l x K) : WpCallG A 25 [.fsl 3 (l.map encD), .v (.int .i64 x)] [] (fun v H => v = .osl 0 ∧ H = [(0, .arr .yes 1 (K.map encI))]) := by
 by_cases c : 0 ≤ x
 ·have := rkids_ok l x.toNat K hl (by omega) (hK.1 c)
  rwa [Int.toNat_of_nonneg c] at this
 ·rw [hK.2 (by omega)]; exact rkidsN_ok l x hl (by omega) hx.1
theorem same3_ok (l : List Nd) (a : Int) (hl : l.length ≤ 2 ^ 40) (ha : -1 ≤ a ∧ a ≤ 2 ^ 40) : WpCallG A 9 [.fsl 3 (l.map encD), .v (.int .i64 a)] [] (fun v H => v = .v (.bool true) ∧ H = []) := by
 refine WpCallG.intro g9 rfl rfl ?_
 unfold af9
 change WpG _ _ _ _ _
 refine WpG.seq ?_
 refine WpG.reg ?_
 refine G.mv rfl ?_
 refine WpOpsG.nil ?_
 change WpG _ _ _ _ _
 refine WpG.seq ?_
 refine WpG.reg ?_
 refine G.mv rfl ?_
 refine G.call0 rfl rfl (nlength_ok l (by omega)) ?_
 rintro _ _ ⟨rfl, rfl⟩
 refine ⟨rfl, ?_⟩
 change WpOpsG _ _ ((13, _) :: _) _ _
 refine G.mv rfl ?_
 refine G.ext rfl rfl ?_
 refine G.ext rfl rfl ?_
 refine G.mv rfl ?_
 refine G.mv rfl ?_
 refine WpOpsG.nil ?_
 change WpG _ _ _ _ _
 refine WpG.seq ?_
 refine WpG.reg ?_
 refine G.mv rfl ?_
 refine G.call0 rfl rfl (rLength_ok l hl) ?_
 rintro _ _ ⟨rfl, rfl⟩
 refine ⟨rfl, ?_⟩
 change WpOpsG _ _ ((18, _) :: _) _ _
 refine G.mv rfl ?_
 refine G.ext rfl rfl ?_
 refine G.ext rfl rfl ?_
 refine G.mv rfl ?_
 refine G.mv rfl ?_
 refine WpOpsG.nil ?_
 change WpG _ _ _ _ _
 refine WpG.seq ?_
 refine WpG.seq ?_
 refine WpG.reg ?_
 refine G.mv rfl ?_
 refine G.mv rfl ?_
 refine G.bin rfl rfl rfl ?_
 rw [bne_self_eq_false]
 refine G.mv rfl ?_
 refine WpOpsG.known 24 false rfl rfl ?_
 refine G.mv rfl ?_
 refine G.mv rfl ?_
 refine G.beq rfl rfl rfl ?_
 rw [beq_self_eq_true]
 refine G.pickF rfl rfl ?_
 refine G.mv rfl ?_
 refine WpOpsG.known 29 false rfl rfl ?_
 refine G.mv rfl ?_
 refine G.call0 rfl rfl (nright_ok l (by omega)) ?_
 rintro _ _ ⟨rfl, rfl⟩
 refine ⟨rfl, ?_⟩
 change WpOpsG _ _ ((31, _) :: _) _ _
 refine G.mv rfl ?_
 refine G.call0 rfl rfl (rRight_ok l hl) ?_
 rintro _ _ ⟨rfl, rfl⟩
 refine ⟨rfl, ?_⟩
 change WpOpsG _ _ ((33, _) :: _) _ _
 refine G.bin rfl rfl rfl ?_
 rw [bne_self_eq_false]
 refine G.pickF rfl rfl ?_
 refine G.mv rfl ?_
 refine WpOpsG.known 36 false rfl rfl ?_
 refine G.mv rfl ?_
 refine G.call0 rfl rfl (ndepth_ok l (by omega)) ?_
 rintro _ _ ⟨rfl, rfl⟩
 refine ⟨rfl, ?_⟩
 change WpOpsG _ _ ((38, _) :: _) _ _
 refine G.mv rfl ?_
 refine G.call0 rfl rfl (rDepth_ok l hl) ?_
 rintro _ _ ⟨rfl, rfl⟩
 refine ⟨rfl, ?_⟩
 change WpOpsG _ _ ((40, _) :: _) _ _
 refine G.bin rfl rfl rfl ?_
 rw [bne_self_eq_false]
 refine G.pickF rfl rfl ?_
 refine WpOpsG.nil ?_
 change WpG _ _ _ _ _
 refine WpG.cond rfl (fun hq1 => absurd hq1 (by decide)) (fun hq1 => ?_)
 refine WpG.skip ?_
 change WpG _ _ _ _ _
 refine WpG.seq ?_
 refine WpG.seq ?_
 refine WpG.reg ?_
 refine G.mv rfl ?_
 refine G.mv rfl ?_
 refine G.lenM rfl ?_
 refine G.subI rfl rfl (by omega) ?_
 refine G.mv rfl ?_
 refine G.lenM rfl ?_
 refine G.bsliceF rfl rfl rfl ?_
 change WpOpsG _ _ ((49, .fsl 1 ((sames3 l a).map encK)) :: _) _ _
 refine G.lenM rfl ?_
 refine G.mv rfl ?_
 refine WpOpsG.nil ?_
 change WpG _ _ _ _ _
 refine WpG.block ?_
 refine WpG.loop (S := Nat) (fun i => [(0, .fsl 3 (l.map encD)), (49, .fsl 1 ((sames3 l a).map encK)), (50, .v (.int .i64 5)), (51, .v (.int .i64 (i : Int)))]) (fun _ => []) (fun i => i ≤ 5) (fun i => 5 - i) (fun s => ⟨rfl, rfl⟩) ?_ 0 ?_ (by repeat (first | exact trivial | refine ⟨rfl, ?_⟩)) (by repeat (first | exact trivial | refine ⟨rfl, ?_⟩)) rfl
 ·intro i hI
  refine WpG.seq ?_
  refine WpG.reg ?_
  refine G.bin rfl rfl rfl ?_
  refine WpOpsG.nil ?_
  change WpG _ _ _ _ _
  refine WpG.seq ?_
  refine WpG.cond rfl (fun hq2 => ?_) (fun hq2 => ?_)
  ·(try simp only [zN] at hq2)
   refine WpG.skip ?_
   change WpG _ _ _ _ _
   refine WpG.seq ?_
   refine WpG.block ?_
   refine WpG.seq ?_
   refine WpG.reg ?_
   refine G.iaddrM rfl rfl (by omega) (gd17 (0 : Int) (by show _ < 5; omega)) ?_
   rw [Int.toNat_natCast]
   refine G.load1F rfl rfl ?_
   have hxr := sames3_rng (l := l) (a := a) (by omega) (by omega) (show i < 5 by omega)
   obtain ⟨x, hx⟩ : ∃ x, (sames3 l a).getD i 0 = x := ⟨_, rfl⟩
   rw [hx] at hxr ⊢
   obtain ⟨K, hK⟩ := kidsZ_ex l x
   refine G.mv rfl ?_
   refine WpOpsG.nil ?_
   change WpG _ _ _ _ _
   refine WpG.seq ?_
   refine WpG.reg ?_
   refine G.mv rfl ?_
   refine G.mv rfl ?_
   refine G.call0 rfl rfl (nsize_ok l x (by omega) (by unfold i64; omega)) ?_
   rintro _ _ ⟨rfl, rfl⟩
   refine ⟨rfl, ?_⟩
   change WpOpsG _ _ ((57, _) :: _) _ _
   refine G.mv rfl ?_
   refine G.mv rfl ?_
   refine G.call0 rfl rfl (rsize_ok l x (by omega) (by unfold i64; omega)) ?_
   rintro _ _ ⟨rfl, rfl⟩
   refine ⟨rfl, ?_⟩
   change WpOpsG _ _ ((60, _) :: _) _ _
   refine G.bin rfl rfl rfl ?_
   rw [bne_self_eq_false]
   refine G.mv rfl ?_
   refine WpOpsG.known 62 false rfl rfl ?_
   refine G.mv rfl ?_
   refine G.mv rfl ?_
   refine G.call0 rfl rfl ((nkidsZ_ok l x K (by omega) (by omega) hK).ren [(0, 20)]) ?_
   rintro _ _ ⟨_, _, ⟨rfl, rfl⟩, rfl, rfl⟩
   change newOk _ _ [(20, _)] = true ∧ _
   refine ⟨rfl, ?_⟩
   change WpOpsG _ _ ((65, .osl 20) :: _) ([(20, .arr .yes 1 (K.map encI))] ++ _) _
   refine G.mv rfl ?_
   refine G.mv rfl ?_
   refine G.call0 rfl rfl ((rkidsZ_ok l x K (by omega) (by omega) hK).ren [(0, 21)]) ?_
   rintro _ _ ⟨_, _, ⟨rfl, rfl⟩, rfl, rfl⟩
   change newOk _ _ [(21, _)] = true ∧ _
   refine ⟨rfl, ?_⟩
   change WpOpsG _ _ ((68, .osl 21) :: _) ([(21, .arr .yes 1 (K.map encI))] ++ _) _
   have hKl : K.length ≤ 2 ^ 50 := kidsZ_len hK (by omega) (by omega)
   refine G.lend rfl rfl (sameI_ok K K hKl hKl) ?_
   rintro _ _ ⟨rfl, rfl⟩
   refine ⟨rfl, trivial, rfl, ?_⟩
   change WpOpsG _ _ ((69, _) :: _) _ _
   rw [decide_eq_true rfl]
   refine G.un rfl rfl ?_
   refine G.pickF rfl rfl ?_
   refine WpOpsG.nil ?_
   change WpG _ _ _ _ _
   refine WpG.cond rfl (fun hq3 => absurd hq3 (by decide)) (fun hq3 => ?_)
   refine WpG.skip ?_
   change WpG _ _ _ _ _
   refine WpG.reg ?_
   refine G.addI rfl rfl (by omega) ?_
   refine G.mv rfl ?_
   refine WpOpsG.nil ?_
   exact ⟨i + 1, by omega, by omega, ⟨rfl, rfl, rfl, rfl, trivial⟩, trivial, rfl⟩
  ·(try simp only [zN] at hq2)
   refine WpG.exit ?_
   change WpG _ _ _ _ _
   refine WpG.seq ?_
   refine WpG.reg ?_
   refine G.mv rfl ?_
   refine G.mv rfl ?_
   refine G.call0 rfl rfl (nsame_ok l l (by omega) (by omega)) ?_
   rintro _ _ ⟨rfl, rfl⟩
   refine ⟨rfl, ?_⟩
   change WpOpsG _ _ ((75, _) :: _) _ _
   rw [decide_eq_true rfl]
   refine G.mv rfl ?_
   refine WpOpsG.nil ?_
   change WpG _ _ _ _ _
   refine WpG.ret ?_
   refine ⟨_, [], rfl, (hasP_le (by repeat (first | exact trivial | refine ⟨rfl, ?_⟩))), rfl, rfl, rfl, ?_⟩
   exact ⟨rfl, rfl⟩
 ·exact Nat.zero_le _
end Go.AM.L3
