/- Contracts of the functions that the statement reaches. No condition. -/
import Derived.Test.YthmcocmhalhbfaaK9b
set_option linter.all false
set_option maxRecDepth 10000
namespace Go.AM.L9
open Go.AM.PL
theorem table_ok (t : List Int) (a d : Nat) (parts : Int) (ht : t.length ≤ 2 ^ 50) (hi : ∀ x ∈ t, i64 x) (ha : a ≤ t.length) (hp : 1 ≤ parts ∧ parts ≤ 6) (hd : d ≤ 4) : WpCallG A 37 [.bptr 0 0, .v (.int .i64 parts), .v (.int .i64 (d : Int))] [(0, tbox t a)] (fun v H => ∃ x ks b, Fo.TB d x ks ∧ b ≤ t.length ∧ v = .osl 2 ∧ H = [(2, .arr .yes 3 ((Fo.enc (Fo.one x ks)).map encD)), (0, tbox t b)]) := by
 refine WpCallG.intro g37 rfl rfl ?_
 unfold af37
 change WpG _ _ _ _ _
 refine WpG.seq ?_
 refine WpG.reg ?_
 refine G.mv rfl ?_
 refine WpOpsG.nil ?_
 change WpG _ _ _ _ _
 refine WpG.seq ?_
 refine WpG.reg ?_
 refine G.mv rfl ?_
 refine G.call (P := [(0, tbox t a)]) rfl (by repeat (first | exact trivial | refine ⟨rfl, ?_⟩)) rfl rfl (next_ok t a 7 ht hi ha (by omega)) ?_
 rintro _ _ ⟨rfl, rfl⟩
 refine ⟨rfl, ?_⟩
 change WpOpsG _ _ ((12, .v (.int .i64 (nx t a 7))) :: _) ((0, tbox t (na t a 7)) :: _) _
 have rk := nx_rng t a 7
 obtain ⟨b, eb, hb⟩ : ∃ o, na t a 7 = o ∧ o ≤ t.length := ⟨_, rfl, na_le ha⟩
 rw [eb]
 obtain ⟨k, fk⟩ : ∃ o, nx t a 7 = o := ⟨_, rfl⟩
 rw [fk] at rk ⊢
 refine G.mv rfl ?_
 refine WpOpsG.nil ?_
 change WpG _ _ _ _ _
 refine WpG.seq ?_
 refine WpG.seq ?_
 refine WpG.reg ?_
 refine G.mv rfl ?_
 refine G.bin rfl rfl rfl ?_
 refine G.mv rfl ?_
 apply G.orS rfl rfl rfl rfl rfl rfl
 case hB =>
  intro hs1
  (try simp only [zN] at hs1)
  refine G.mv rfl ?_
  refine G.bin rfl rfl rfl ?_
  refine WpOpsG.nil ?_
  exact ⟨rfl, (by repeat (first | exact LLe.refl _ | refine LLe.cons rfl ?_)), (by repeat (first | exact HLe.refl _ | refine HLe.cons rfl ?_)), rfl⟩
 refine WpOpsG.nil ?_
 change WpG _ _ _ _ _
 refine WpG.cond rfl (fun hq2 => ?_) (fun hq2 => ?_)
 ·(try simp only [zN] at hq2)
  refine WpG.seq ?_
  refine WpG.seq ?_
  refine WpG.reg ?_
  refine G.mv rfl ?_
  refine G.bin rfl rfl rfl ?_
  refine WpOpsG.nil ?_
  change WpG _ _ _ _ _
  refine WpG.cond rfl (fun hq3 => ?_) (fun hq3 => ?_)
  ·(try simp only [zN] at hq3)
   refine WpG.seq ?_
   refine WpG.reg ?_
   refine G.mv rfl ?_
   refine G.call (P := [(0, tbox t b)]) rfl (by repeat (first | exact trivial | refine ⟨rfl, ?_⟩)) rfl rfl (next_ok t b 4 ht hi hb (by omega)) ?_
   rintro _ _ ⟨rfl, rfl⟩
   refine ⟨rfl, ?_⟩
   change WpOpsG _ _ ((22, .v (.int .i64 (nx t b 4))) :: _) ((0, tbox t (na t b 4)) :: _) _
   have ru := nx_rng t b 4
   obtain ⟨c, ec, hc⟩ : ∃ o, na t b 4 = o ∧ o ≤ t.length := ⟨_, rfl, na_le hb⟩
   rw [ec]
   obtain ⟨u, fu⟩ : ∃ o, nx t b 4 = o := ⟨_, rfl⟩
   rw [fu] at ru ⊢
   refine G.addI rfl rfl (by omega) ?_
   refine G.build rfl ?_
   refine G.bslice (g := 2) rfl rfl rfl rfl ?_
   refine G.mv rfl ?_
   refine WpOpsG.nil ?_
   change WpG _ _ _ _ _
   refine WpG.ret ?_
   refine ⟨_, [(2, .arr .yes 3 ([(⟨2, 0, 1 + u⟩ : Nd)].map encD)), (0, tbox t c)], rfl, (hasP_le (by repeat (first | exact trivial | refine ⟨rfl, ?_⟩))), rfl, rfl, rfl, ?_⟩
   exact ⟨(⟨2, 0, 1 + u⟩ : Nd), .nil, c, Fo.tb_leaf d (kid_idle (by omega)) (by dsimp only; omega), hc, rfl, rfl⟩
  ·(try simp only [zN] at hq3)
   refine WpG.skip ?_
   change WpG _ _ _ _ _
   refine WpG.seq ?_
   refine WpG.reg ?_
   refine G.mv rfl ?_
   refine G.mv rfl ?_
   refine G.call (P := [(0, tbox t b)]) rfl (by repeat (first | exact trivial | refine ⟨rfl, ?_⟩)) rfl rfl (next_ok t b parts ht hi hb (by omega)) ?_
   rintro _ _ ⟨rfl, rfl⟩
   refine ⟨rfl, ?_⟩
   change WpOpsG _ _ ((28, .v (.int .i64 (nx t b parts))) :: _) ((0, tbox t (na t b parts)) :: _) _
   have rw := nx_rng t b parts
   obtain ⟨c, ec, hc⟩ : ∃ o, na t b parts = o ∧ o ≤ t.length := ⟨_, rfl, na_le hb⟩
   rw [ec]
   obtain ⟨w, fw⟩ : ∃ o, nx t b parts = o := ⟨_, rfl⟩
   rw [fw] at rw ⊢
   refine G.mv rfl ?_
   refine G.call (P := [(0, tbox t c)]) rfl (by repeat (first | exact trivial | refine ⟨rfl, ?_⟩)) rfl rfl (next_ok t c 4 ht hi hc (by omega)) ?_
   rintro _ _ ⟨rfl, rfl⟩
   refine ⟨rfl, ?_⟩
   change WpOpsG _ _ ((30, .v (.int .i64 (nx t c 4))) :: _) ((0, tbox t (na t c 4)) :: _) _
   have ru := nx_rng t c 4
   obtain ⟨g, eg, hg⟩ : ∃ o, na t c 4 = o ∧ o ≤ t.length := ⟨_, rfl, na_le hc⟩
   rw [eg]
   obtain ⟨u, fu⟩ : ∃ o, nx t c 4 = o := ⟨_, rfl⟩
   rw [fu] at ru ⊢
   refine G.addI rfl rfl (by omega) ?_
   refine G.build rfl ?_
   refine G.bslice (g := 2) rfl rfl rfl rfl ?_
   refine G.mv rfl ?_
   refine WpOpsG.nil ?_
   change WpG _ _ _ _ _
   refine WpG.ret ?_
   refine ⟨_, [(2, .arr .yes 3 ([(⟨1, w, 1 + u⟩ : Nd)].map encD)), (0, tbox t g)], rfl, (hasP_le (by repeat (first | exact trivial | refine ⟨rfl, ?_⟩))), rfl, rfl, rfl, ?_⟩
   exact ⟨(⟨1, w, 1 + u⟩ : Nd), .nil, g, Fo.tb_leaf d (kid_win (by omega) (by omega)) (by dsimp only; omega), hg, rfl, rfl⟩
 ·(try simp only [zN] at hq2)
  refine WpG.skip ?_
  change WpG _ _ _ _ _
  refine WpG.seq ?_
  refine WpG.seq ?_
  refine WpG.reg ?_
  refine G.mv rfl ?_
  refine G.bin rfl rfl rfl ?_
  refine WpOpsG.nil ?_
  change WpG _ _ _ _ _
  refine WpG.cond rfl (fun hq4 => ?_) (fun hq4 => ?_)
  ·(try simp only [zN] at hq4)
   refine WpG.seq ?_
   obtain ⟨e, he⟩ : ∃ e, d = e + 1 := ⟨d - 1, by omega⟩
   rw [show (d : Int) = ((e + 1 : Nat) : Int) by omega]
   refine WpG.reg ?_
   refine G.mv rfl ?_
   refine G.call (P := [(0, tbox t b)]) rfl (by repeat (first | exact trivial | refine ⟨rfl, ?_⟩)) rfl rfl (next_ok t b 3 ht hi hb (by omega)) ?_
   rintro _ _ ⟨rfl, rfl⟩
   refine ⟨rfl, ?_⟩
   change WpOpsG _ _ ((37, .v (.int .i64 (nx t b 3))) :: _) ((0, tbox t (na t b 3)) :: _) _
   have ru := nx_rng t b 3
   obtain ⟨c, ec, hc⟩ : ∃ o, na t b 3 = o ∧ o ≤ t.length := ⟨_, rfl, na_le hb⟩
   rw [ec]
   obtain ⟨u, fu⟩ : ∃ o, nx t b 3 = o := ⟨_, rfl⟩
   rw [fu] at ru ⊢
   refine G.addI rfl rfl (by omega) ?_
   refine G.build rfl ?_
   refine G.bslice (g := 2) rfl rfl rfl rfl ?_
   refine G.mv rfl ?_
   refine G.mv rfl ?_
   refine G.mv rfl ?_
   refine G.subI rfl rfl (by omega) ?_
   rw [show ((e + 1 : Nat) : Int) - 1 = (e : Int) by omega]
   refine G.call (P := [(0, tbox t c)]) rfl (by repeat (first | exact trivial | refine ⟨rfl, ?_⟩)) rfl rfl ((table_ok t c e parts ht hi hc hp (by omega)).ren [(2, 20)]) ?_
   rintro _ _ ⟨_, _, ⟨x, ks, z, htb, hz, rfl, rfl⟩, rfl, rfl⟩
   change newOk _ _ [(20, _), (0, tbox t z)] = true ∧ _
   refine ⟨rfl, ?_⟩
   change WpOpsG _ _ ((45, .osl 20) :: _) ([(20, .arr .yes 3 ((Fo.enc (Fo.one x ks)).map encD)), (0, tbox t z)] ++ _) _
   have hlen := Fo.tb_len htb (by omega)
   refine G.app (ds := (Fo.enc (Fo.one x ks)).map encD) rfl rfl rfl rfl trivial (by simp only [List.length_map, List.length_cons, List.length_nil]; omega) ?_
   refine G.mv rfl ?_
   refine WpOpsG.nil ?_
   change WpG _ _ _ _ _
   refine WpG.ret ?_
   refine ⟨_, [(2, .arr .yes 3 (((⟨4, 0, 1 + u⟩ : Nd) :: Fo.enc (Fo.one x ks)).map encD)), (0, tbox t z)], rfl, (hasP_le (by repeat (first | exact trivial | refine ⟨rfl, ?_⟩))), rfl, rfl, rfl, ?_⟩
   refine ⟨(⟨4, 0, 1 + u⟩ : Nd), Fo.one x ks, z, by rw [he]; exact Fo.tb_rep htb rfl rfl (by dsimp only; omega), hz, rfl, ?_⟩
   rw [show Fo.enc (Fo.one (⟨4, 0, 1 + u⟩ : Nd) (Fo.one x ks)) = (⟨4, 0, 1 + u⟩ : Nd) :: Fo.enc (Fo.one x ks) by simp [Fo.enc, Fo.one]]
  ·(try simp only [zN] at hq4)
   refine WpG.skip ?_
   change WpG _ _ _ _ _
   refine WpG.seq ?_
   obtain ⟨e, he⟩ : ∃ e, d = e + 1 := ⟨d - 1, by omega⟩
   rw [show (d : Int) = ((e + 1 : Nat) : Int) by omega]
   refine WpG.reg ?_
   refine G.mv rfl ?_
   refine G.call (P := [(0, tbox t b)]) rfl (by repeat (first | exact trivial | refine ⟨rfl, ?_⟩)) rfl rfl (next_ok t b 4 ht hi hb (by omega)) ?_
   rintro _ _ ⟨rfl, rfl⟩
   refine ⟨rfl, ?_⟩
   change WpOpsG _ _ ((48, .v (.int .i64 (nx t b 4))) :: _) ((0, tbox t (na t b 4)) :: _) _
   have ru := nx_rng t b 4
   obtain ⟨c, ec, hc⟩ : ∃ o, na t b 4 = o ∧ o ≤ t.length := ⟨_, rfl, na_le hb⟩
   rw [ec]
   obtain ⟨u, fu⟩ : ∃ o, nx t b 4 = o := ⟨_, rfl⟩
   rw [fu] at ru ⊢
   refine G.addI rfl rfl (by omega) ?_
   obtain ⟨nn, hnn⟩ : ∃ nn : Nat, 1 + u = (nn : Int) := ⟨(1 + u).toNat, by omega⟩
   rw [hnn]
   refine G.mv rfl ?_
   refine WpOpsG.nil ?_
   change WpG _ _ _ _ _
   refine WpG.seq ?_
   refine WpG.reg ?_
   refine G.mv rfl ?_
   refine G.build rfl ?_
   refine G.bslice (g := 2) rfl rfl rfl rfl ?_
   refine G.mv rfl ?_
   refine WpOpsG.nil ?_
   change WpG _ _ _ _ _
   refine WpG.seq ?_
   refine WpG.seq ?_
   refine WpG.reg ?_
   refine G.mv rfl ?_
   refine WpOpsG.nil ?_
   change WpG _ _ _ _ _
   refine WpG.block ?_
   refine WpG.loop (S := Nat × Fo × Nat) (fun s => [(0, .bptr 0 0), (1, .v (.int .i64 parts)), (2, .v (.int .i64 ((e + 1 : Nat) : Int))), (8, .v (.int .i64 (nn : Int))), (9, .osl 2), (10, .v (.int .i64 (s.1 : Int)))]) (fun s => [(2, .arr .yes 3 (((⟨3, 0, (nn : Int)⟩ : Nd) :: Fo.enc s.2.1).map encD)), (0, tbox t s.2.2)]) (fun s => s.1 ≤ nn ∧ Fo.FB e s.1 s.2.1 ∧ s.2.2 ≤ t.length) (fun s => nn - s.1) (fun s => ⟨rfl, rfl⟩) ?_ (0, .nil, c) ?_ (by repeat (first | exact trivial | refine ⟨rfl, ?_⟩)) (by repeat (first | exact trivial | refine ⟨rfl, ?_⟩)) rfl
   ·rintro ⟨i, f, s⟩ ⟨hI, hf, hs⟩
    dsimp only at hI hf hs ⊢
    have hfl := hf.2.2.1
    have htl := Fo.tb_bound e (by omega)
    have hfm : i * Fo.tl e ≤ 4 * 341 := Nat.mul_le_mul (by omega) htl
    refine WpG.seq ?_
    refine WpG.seq ?_
    refine WpG.reg ?_
    refine G.mv rfl ?_
    refine G.mv rfl ?_
    refine G.bin rfl rfl rfl ?_
    refine WpOpsG.nil ?_
    change WpG _ _ _ _ _
    refine WpG.cond rfl (fun hq5 => ?_) (fun hq5 => ?_)
    ·(try simp only [zN] at hq5)
     refine WpG.skip ?_
     change WpG _ _ _ _ _
     refine WpG.seq ?_
     refine WpG.block ?_
     refine WpG.reg ?_
     refine G.mv rfl ?_
     refine G.mv rfl ?_
     refine G.mv rfl ?_
     refine G.mv rfl ?_
     refine G.subI rfl rfl (by omega) ?_
     rw [show ((e + 1 : Nat) : Int) - 1 = (e : Int) by omega]
     refine G.call (P := [(0, tbox t s)]) rfl (by repeat (first | exact trivial | refine ⟨rfl, ?_⟩)) rfl rfl ((table_ok t s e parts ht hi hs hp (by omega)).ren [(2, 20)]) ?_
     rintro _ _ ⟨_, _, ⟨x, ks, z, htb, hz, rfl, rfl⟩, rfl, rfl⟩
     change newOk _ _ [(20, _), (0, tbox t z)] = true ∧ _
     refine ⟨rfl, ?_⟩
     change WpOpsG _ _ ((63, .osl 20) :: _) ([(20, .arr .yes 3 ((Fo.enc (Fo.one x ks)).map encD)), (0, tbox t z)] ++ _) _
     have hlen := Fo.tb_len htb (by omega)
     refine G.app (ds := (Fo.enc (Fo.one x ks)).map encD) rfl rfl rfl rfl trivial (by simp only [List.length_map, List.length_cons, List.length_nil]; omega) ?_
     refine G.mv rfl ?_
     refine WpOpsG.nil ?_
     change WpG _ _ _ _ _
     refine WpG.reg ?_
     refine G.mv rfl ?_
     refine G.addI rfl rfl (by omega) ?_
     refine G.mv rfl ?_
     refine WpOpsG.nil ?_
     refine ⟨(i + 1, f.app (Fo.one x ks), z), by show nn - (i + 1) < nn - i; omega, ⟨by dsimp only; omega, Fo.fb_app hf htb, hz⟩, ⟨rfl, rfl, rfl, rfl, rfl, rfl, trivial⟩, ⟨?_, rfl, trivial⟩, rfl⟩
     rw [Fo.enc_app, ← List.cons_append, List.map_append]; rfl
    ·(try simp only [zN] at hq5)
     refine WpG.exit ?_
     change WpG _ _ _ _ _
     refine WpG.seq ?_
     refine WpG.reg ?_
     refine G.mv rfl ?_
     refine G.mv rfl ?_
     refine WpOpsG.nil ?_
     change WpG _ _ _ _ _
     refine WpG.ret ?_
     refine ⟨_, [(2, .arr .yes 3 (((⟨3, 0, (nn : Int)⟩ : Nd) :: Fo.enc f).map encD)), (0, tbox t s)], rfl, (hasP_le (by repeat (first | exact trivial | refine ⟨rfl, ?_⟩))), rfl, rfl, rfl, ?_⟩
     obtain rfl : nn = i := by omega
     refine ⟨(⟨3, 0, (nn : Int)⟩ : Nd), f, s, by rw [he]; exact Fo.tb_seq hf rfl rfl rfl (by omega), hs, rfl, ?_⟩
     rw [show Fo.enc (Fo.one (⟨3, 0, (nn : Int)⟩ : Nd) f) = (⟨3, 0, (nn : Int)⟩ : Nd) :: Fo.enc f by simp [Fo.enc, Fo.one]]
   ·exact ⟨Nat.zero_le _, Fo.fb_nil e, hc⟩
termination_by d
decreasing_by all_goals omega
end Go.AM.L9
