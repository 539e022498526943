/- Contracts of the functions that the statement reaches. No condition. -/
import Derived.Test.YtabhoinefficpaaC10i
import Derived.Test.YtabhoinefficpaaK10g
import Derived.Test.YtabhoinefficpaaPLp
set_option linter.all false
set_option maxRecDepth 10000
namespace Go.AM.L10
open Go.AM.PL
theorem truns_ok (t : List Int) (a : Nat) (parts most : Int) (ht : t.length ≤ 2 ^ 50) (hi : ∀ x ∈ t, i64 x) (ha : a ≤ t.length) (hp : 0 ≤ parts ∧ parts ≤ 2 ^ 40) (hm : 1 ≤ most ∧ most ≤ 2 ^ 20) : WpCallG A 10 [.bptr 0 0, .v (.int .i64 parts), .v (.int .i64 most)] [(0, tbox t a)] (fun v H => v = .fsl 2 ((tapeRuns t a parts most).1.map encN) ∧ H = [(0, tbox t (tapeRuns t a parts most).2)]) := by
 have h1 := nx_rng t a most
 obtain ⟨kk, hkk⟩ : ∃ kk, kk = (1 + nx t a most).toNat := ⟨_, rfl⟩
 refine WpCallG.intro g10 rfl rfl ?_
 unfold af10
 change WpG _ _ _ _ _
 refine WpG.seq ?_
 refine WpG.reg ?_
 refine G.mv rfl ?_
 refine WpOpsG.nil ?_
 change WpG _ _ _ _ _
 refine WpG.seq ?_
 refine WpG.reg ?_
 refine G.mv rfl ?_
 refine WpOpsG.nil ?_
 change WpG _ _ _ _ _
 refine WpG.seq ?_
 refine WpG.seq ?_
 refine WpG.reg ?_
 refine G.mv rfl ?_
 refine G.mv rfl ?_
 refine G.call (P := [(0, tbox t a)]) rfl (by repeat (first | exact trivial | refine ⟨rfl, ?_⟩)) rfl rfl (next_ok t a most ht hi ha (by omega)) ?_
 rintro _ _ ⟨rfl, rfl⟩
 refine ⟨rfl, ?_⟩
 change WpOpsG _ _ ((11, _) :: _) ((0, tbox t (na t a most)) :: _) _
 refine G.addI rfl rfl (by omega) ?_
 refine G.mv rfl ?_
 refine WpOpsG.nil ?_
 change WpG _ _ _ _ _
 refine WpG.block ?_
 have e8 : 1 + nx t a most = (kk : Int) := by omega
 rw [e8]
 refine WpG.ownNil (g := 30) (k := 7) (w := 2) rfl rfl ?_
 refine WpG.loop (S := Nat × Nat × List Rn) (fun s => [(0, .bptr 0 0), (1, .v (.int .i64 parts)), (7, .osl 30), (8, .v (.int .i64 s.1))]) (fun s => [(30, .arr .yes 2 (s.2.2.map encN)), (0, tbox t s.2.1)]) (fun s => s.2.1 ≤ t.length ∧ s.1 + s.2.2.length = kk ∧ rgo t parts s.1 s.2.1 s.2.2 = tapeRuns t a parts most) (fun s => s.1) (fun s => ⟨rfl, rfl⟩) ?_ (kk, na t a most, []) ?_ (by repeat (first | exact trivial | refine ⟨rfl, ?_⟩)) (by repeat (first | exact trivial | refine ⟨rfl, ?_⟩)) rfl
 ·rintro ⟨k, b, out⟩ ⟨hb, hk, hT⟩
  dsimp only at hb hk hT ⊢
  refine WpG.seq ?_
  refine WpG.seq ?_
  refine WpG.reg ?_
  refine G.mv rfl ?_
  refine G.bin rfl rfl rfl ?_
  refine WpOpsG.nil ?_
  change WpG _ _ _ _ _
  refine WpG.cond rfl (fun hq1 => ?_) (fun hq1 => ?_)
  ·(try simp only [zN] at hq1)
   refine WpG.skip ?_
   change WpG _ _ _ _ _
   refine WpG.seq ?_
   refine WpG.block ?_
   refine WpG.reg ?_
   refine G.mv rfl ?_
   refine G.mv rfl ?_
   refine G.mv rfl ?_
   refine G.addI rfl rfl (by omega) ?_
   refine G.call (P := [(0, tbox t b)]) rfl (by repeat (first | exact trivial | refine ⟨rfl, ?_⟩)) rfl rfl (next_ok t b (parts + 1) ht hi hb (by omega)) ?_
   rintro _ _ ⟨rfl, rfl⟩
   refine ⟨rfl, ?_⟩
   change WpOpsG _ _ ((21, _) :: _) _ _
   have h2 := nx_rng t b (parts + 1)
   have hb1 : na t b (parts + 1) ≤ t.length := na_le hb
   refine G.subI rfl rfl (by omega) ?_
   refine G.mv rfl ?_
   refine G.call (P := [(0, tbox t (na t b (parts + 1)))]) rfl (by repeat (first | exact trivial | refine ⟨rfl, ?_⟩)) rfl rfl (next_ok t (na t b (parts + 1)) 4 ht hi hb1 (by omega)) ?_
   rintro _ _ ⟨rfl, rfl⟩
   refine ⟨rfl, ?_⟩
   change WpOpsG _ _ ((24, _) :: _) _ _
   have h3 := nx_rng t (na t b (parts + 1)) 4
   refine G.addI rfl rfl (by omega) ?_
   refine G.build rfl ?_
   refine G.bsliceF rfl rfl rfl ?_
   refine G.app rfl rfl rfl rfl trivial (by (simp only [List.length_map, List.length_append, List.length_cons, List.length_nil, List.length_replicate, List.length_take, List.length_drop, List.length_set]; omega)) ?_
   refine G.mv rfl ?_
   refine WpOpsG.nil ?_
   change WpG _ _ _ _ _
   refine WpG.reg ?_
   refine G.mv rfl ?_
   refine G.subI rfl rfl (by omega) ?_
   refine G.mv rfl ?_
   refine WpOpsG.nil ?_
   obtain ⟨k, rfl⟩ : ∃ j, k = j + 1 := ⟨k - 1, by omega⟩
   refine ⟨(k, na t (na t b (parts + 1)) 4, out ++ [⟨nx t b (parts + 1) - 1, 1 + nx t (na t b (parts + 1)) 4⟩]), by show k < k + 1; omega, ⟨na_le hb1, ?_, by rw [← hT, rgo]⟩, ⟨rfl, rfl, rfl, ?_, trivial⟩, ⟨?_, rfl, trivial⟩, rfl⟩
   ·show k + (out ++ [_]).length = kk
    rw [List.length_append]; simp only [List.length_cons, List.length_nil]; omega
   ·show some (GV.v (.int .i64 (((k + 1 : Nat) : Int) - 1))) = some (GV.v (.int .i64 (k : Int)))
    congr 3; omega
   ·rw [List.map_append]; rfl
  ·(try simp only [zN] at hq1)
   refine WpG.exit ?_
   change WpG _ _ _ _ _
   refine WpG.seq ?_
   refine WpG.reg ?_
   refine G.mv rfl ?_
   refine G.mv rfl ?_
   refine WpOpsG.nil ?_
   change WpG _ _ _ _ _
   refine WpG.freeze 30 rfl ?_
   refine WpG.ret ?_
   refine ⟨_, [(0, tbox t b)], rfl, (hasP_le (by repeat (first | exact trivial | refine ⟨rfl, ?_⟩))), rfl, rfl, rfl, ?_⟩
   obtain rfl : k = 0 := by omega
   rw [← hT]
   exact ⟨rfl, rfl⟩
 ·refine ⟨na_le ha, by simp, ?_⟩
  subst hkk; rfl
theorem refSame_ok (xs ys : List Rn) (hx : xs.length ≤ 2 ^ 50) (hy : ys.length ≤ 2 ^ 50) : WpCallG A 31 [.fsl 2 (xs.map encN), .fsl 2 (ys.map encN)] [] (fun v H => v = .v (.bool (decide (xs = ys))) ∧ H = []) := by
 refine WpCallG.intro g31 rfl rfl ?_
 unfold af31
 change WpG _ _ _ _ _
 refine WpG.seq ?_
 refine WpG.reg ?_
 refine G.mv rfl ?_
 refine WpOpsG.nil ?_
 change WpG _ _ _ _ _
 refine WpG.seq ?_
 refine WpG.seq ?_
 refine WpG.reg ?_
 refine G.mv rfl ?_
 refine G.lenM rfl ?_
 refine G.mv rfl ?_
 refine G.lenM rfl ?_
 refine G.bin rfl rfl rfl ?_
 refine WpOpsG.nil ?_
 change WpG _ _ _ _ _
 refine WpG.cond rfl (fun hq1 => ?_) (fun hq1 => ?_)
 ·(try simp only [zN] at hq1)
  refine WpG.seq ?_
  refine WpG.reg ?_
  refine G.mv rfl ?_
  refine WpOpsG.nil ?_
  change WpG _ _ _ _ _
  refine WpG.ret ?_
  refine ⟨_, [], rfl, (hasP_le (by repeat (first | exact trivial | refine ⟨rfl, ?_⟩))), rfl, rfl, rfl, ?_⟩
  rw [decide_eq_false (fun h => by subst h; omega)]
  exact ⟨rfl, rfl⟩
 ·(try simp only [zN] at hq1)
  refine WpG.skip ?_
  change WpG _ _ _ _ _
  refine WpG.seq ?_
  refine WpG.seq ?_
  refine WpG.reg ?_
  refine G.mv rfl ?_
  refine G.lenM rfl ?_
  refine G.mv rfl ?_
  refine WpOpsG.nil ?_
  change WpG _ _ _ _ _
  refine WpG.block ?_
  refine WpG.loop (S := Nat) (fun i => [(0, .fsl 2 (xs.map encN)), (1, .fsl 2 (ys.map encN)), (4, .v (.bool false)), (12, .v (.int .i64 xs.length)), (13, .v (.int .i64 i))]) (fun _ => []) (fun i => i ≤ xs.length ∧ xs.take i = ys.take i) (fun i => xs.length - i) (fun s => ⟨rfl, rfl⟩) ?_ 0 ?_ (by repeat (first | exact trivial | refine ⟨rfl, ?_⟩)) (by repeat (first | exact trivial | refine ⟨rfl, ?_⟩)) rfl
  ·rintro i ⟨hI, hT⟩
   refine WpG.seq ?_
   refine WpG.reg ?_
   refine G.bin rfl rfl rfl ?_
   refine WpOpsG.nil ?_
   change WpG _ _ _ _ _
   refine WpG.seq ?_
   refine WpG.cond rfl (fun hq2 => ?_) (fun hq2 => ?_)
   ·(try simp only [zN] at hq2)
    refine WpG.skip ?_
    change WpG _ _ _ _ _
    refine WpG.seq ?_
    refine WpG.block ?_
    refine WpG.seq ?_
    refine WpG.reg ?_
    refine G.mv rfl ?_
    refine G.mv rfl ?_
    refine WpOpsG.nil ?_
    change WpG _ _ _ _ _
    refine WpG.seq ?_
    refine WpG.reg ?_
    refine G.mv rfl ?_
    refine G.mv rfl ?_
    refine G.iaddrN rfl rfl (List.getElem?_eq_getElem (by omega)) ?_
    refine G.loadNF rfl rfl ?_
    refine G.mv rfl ?_
    refine G.mv rfl ?_
    refine G.iaddrN rfl rfl (List.getElem?_eq_getElem (by omega)) ?_
    refine G.loadNF rfl rfl ?_
    refine G.beq rfl rfl rfl ?_
    refine WpOpsG.nil ?_
    change WpG _ _ _ _ _
    refine WpG.cond rfl (fun hq3 => ?_) (fun hq3 => ?_)
    ·(try simp only [zN] at hq3)
     refine WpG.seq ?_
     refine WpG.reg ?_
     refine G.mv rfl ?_
     refine WpOpsG.nil ?_
     change WpG _ _ _ _ _
     refine WpG.ret ?_
     refine ⟨_, [], rfl, (hasP_le (by repeat (first | exact trivial | refine ⟨rfl, ?_⟩))), rfl, rfl, rfl, ?_⟩
     rw [decide_eq_false (fun h => by subst h; exact rn_f hq3 rfl)]
     exact ⟨rfl, rfl⟩
    ·(try simp only [zN] at hq3)
     refine WpG.skip ?_
     change WpG _ _ _ _ _
     refine WpG.reg ?_
     refine G.addI rfl rfl (by omega) ?_
     refine G.mv rfl ?_
     refine WpOpsG.nil ?_
     have he : xs[i] = ys[i] := rn_t hq3
     exact ⟨i + 1, by omega, ⟨by omega, (take_stepG (by omega) (by omega) hT).2 he⟩, ⟨rfl, rfl, rfl, rfl, rfl, trivial⟩, trivial, rfl⟩
   ·(try simp only [zN] at hq2)
    refine WpG.exit ?_
    change WpG _ _ _ _ _
    refine WpG.seq ?_
    refine WpG.reg ?_
    refine G.mv rfl ?_
    refine WpOpsG.nil ?_
    change WpG _ _ _ _ _
    refine WpG.ret ?_
    refine ⟨_, [], rfl, (hasP_le (by repeat (first | exact trivial | refine ⟨rfl, ?_⟩))), rfl, rfl, rfl, ?_⟩
    have he : xs = ys := by
     have e1 : xs.take i = xs := take_allG (by omega)
     have e2 : ys.take i = ys := take_allG (by omega)
     rw [← e1, ← e2]; exact hT
    rw [decide_eq_true he]
    exact ⟨rfl, rfl⟩
  ·exact ⟨Nat.zero_le _, rfl⟩
theorem to10_ok (mi mj : Int) (mr : Bool) : WpCallG A 28 [.agg [.v (.int .i64 mi), .v (.int .i64 mj), .v (.bool mr)]] [] (fun v H => v = .agg [.v (.int .i64 mi), .v (.int .i64 mj), .v (.bool mr)] ∧ H = []) := by
 refine WpCallG.intro g28 rfl rfl ?_
 unfold af28
 change WpG _ _ _ _ _
 refine WpG.seq ?_
 refine WpG.reg ?_
 refine G.box (g := 10) rfl rfl rfl ?_
 refine G.box (g := 11) rfl rfl rfl ?_
 refine WpOpsG.nil ?_
 change WpG _ _ _ _ _
 refine WpG.seq ?_
 refine WpG.reg ?_
 refine G.faddrB rfl ?_
 refine G.load1B rfl rfl rfl ?_
 refine G.faddrB rfl ?_
 refine G.load1B rfl rfl rfl ?_
 refine G.faddrB rfl ?_
 refine G.load1B rfl rfl rfl ?_
 refine G.build rfl ?_
 refine G.storeB rfl rfl rfl rfl rfl rfl ?_
 refine WpOpsG.nil ?_
 change WpG _ _ _ _ _
 refine WpG.ret ?_
 refine ⟨_, [], rfl, (hasP_le (by repeat (first | exact trivial | refine ⟨rfl, ?_⟩))), rfl, rfl, rfl, ?_⟩
 exact ⟨rfl, rfl⟩
set_option maxHeartbeats 1000000 in
theorem same10_ok (P : List Pt) (C : List Ch) (ts : List (List GV)) (l : List Rn) (mi mj : Int) (mr : Bool) (hP : P.length ≤ 2 ^ 30) (hC : C.length ≤ 2 ^ 30) (hPp : ∀ p ∈ P, i64 p.per) (hn : l.length ≤ 4096) (hl : ∀ r ∈ l, okN r) (hw : wlen l ≤ 8192) : WpCallG A 11 [.fsl 2 (l.map encN), .agg [.fsl 11 (P.map encP), .fsl 6 (C.map encC), .fsl 1 ts], .agg [.v (.int .i64 mi), .v (.int .i64 mj), .v (.bool mr)]] [] (fun v H => v = .v (.bool true) ∧ H = []) := by
 refine WpCallG.intro g11 rfl rfl ?_
 unfold af11
 change WpG _ _ _ _ _
 refine WpG.seq ?_
 refine WpG.reg ?_
 refine G.box (g := 10) rfl rfl rfl ?_
 refine G.box (g := 11) rfl rfl rfl ?_
 refine G.mv rfl ?_
 refine WpOpsG.nil ?_
 change WpG _ _ _ _ _
 refine WpG.seq ?_
 refine WpG.reg ?_
 refine G.loadNB rfl rfl rfl ?_
 refine G.call0 rfl rfl (rdep_ok P C ts hP hC) ?_
 rintro _ _ ⟨rfl, rfl⟩
 refine ⟨rfl, ?_⟩
 change WpOpsG _ _ ((12, _) :: _) _ _
 change WpOpsG _ _ ((12, .fsl 1 ((matF P.length (depG P C)).map encBs)) :: _) _ _
 refine G.mv rfl ?_
 refine WpOpsG.nil ?_
 change WpG _ _ _ _ _
 refine WpG.seq ?_
 refine WpG.reg ?_
 refine G.mv rfl ?_
 refine G.mv rfl ?_
 refine G.call0 rfl rfl (all_ok l (matF P.length (depG P C)) (by omega) (by rw [matF_len]; omega) (fun r hr => by rw [matF_rows r hr]; omega)) ?_
 rintro _ _ ⟨rfl, rfl⟩
 refine ⟨rfl, ?_⟩
 change WpOpsG _ _ ((15, _) :: _) _ _
 refine G.mv rfl ?_
 refine G.mv rfl ?_
 refine G.call0 rfl rfl (rall_ok l (matF P.length (depG P C)) (by omega) (by rw [matF_len]; omega) (fun r hr => by rw [matF_rows r hr, matF_len])) ?_
 rintro _ _ ⟨rfl, rfl⟩
 refine ⟨rfl, ?_⟩
 change WpOpsG _ _ ((18, _) :: _) _ _
 have hall := allM_len (l := l) (dep := (matF P.length (depG P C))) l.length
 have hall2 : 2 * l.length * l.length ≤ 2 * 4096 * 4096 := Nat.mul_le_mul (by omega) (by omega)
 have hall3 : (allV l (matF P.length (depG P C))).length ≤ 2 * 4096 * 4096 := Nat.le_trans hall hall2
 obtain ⟨ms, hms⟩ : ∃ ms, (allV l (matF P.length (depG P C))) = ms := ⟨_, rfl⟩
 rw [hms] at hall3 ⊢
 refine G.mv rfl ?_
 refine G.mv rfl ?_
 refine WpOpsG.nil ?_
 change WpG _ _ _ _ _
 refine WpG.seq ?_
 refine WpG.seq ?_
 refine WpG.reg ?_
 refine G.mv rfl ?_
 refine G.lenM rfl ?_
 refine G.mv rfl ?_
 refine G.lenM rfl ?_
 refine G.bin rfl rfl rfl ?_
 rw [bne_self_eq_false]
 refine G.mv rfl ?_
 refine WpOpsG.known 24 false rfl rfl ?_
 refine G.mv rfl ?_
 refine G.mv rfl ?_
 refine G.loadNB rfl rfl rfl ?_
 refine G.loadNB rfl rfl rfl ?_
 refine G.ckcall0 rfl rfl rfl (may_ok l (matF P.length (depG P C)) mi mj mr (by omega) (by rw [matF_len]; omega) (fun r hr => by rw [matF_rows r hr]; omega)) ?_
 rintro _ _ ⟨rfl, rfl⟩
 refine ⟨rfl, ?_⟩
 change WpOpsG _ _ ((28, _) :: _) _ _
 refine G.mv rfl ?_
 refine G.mv rfl ?_
 refine G.call0 rfl rfl (to10_ok mi mj mr) ?_
 rintro _ _ ⟨rfl, rfl⟩
 refine ⟨rfl, ?_⟩
 change WpOpsG _ _ ((32, _) :: _) _ _
 refine G.call0 rfl rfl (rmay_ok l (matF P.length (depG P C)) mi mj mr (by omega) (by rw [matF_len]; omega) (fun r hr => by rw [matF_rows r hr, matF_len])) ?_
 rintro _ _ ⟨rfl, rfl⟩
 refine ⟨rfl, ?_⟩
 change WpOpsG _ _ ((33, _) :: _) _ _
 refine G.beq rfl rfl rfl ?_
 rw [beq_self_eq_true]
 refine G.pickF rfl rfl ?_
 refine G.mv rfl ?_
 refine WpOpsG.known 36 false rfl rfl ?_
 refine G.loadNB rfl rfl rfl ?_
 refine G.mv rfl ?_
 refine G.loadNB rfl rfl rfl ?_
 refine G.loadNB rfl rfl rfl ?_
 refine G.loadNB rfl rfl rfl ?_
 refine G.ckcall0 rfl rfl rfl (fits_ok P C ts l mi mj mr (by omega) (by omega) hPp (by omega) hl hw) ?_
 rintro _ _ ⟨rfl, rfl⟩
 refine ⟨rfl, ?_⟩
 change WpOpsG _ _ ((40, _) :: _) _ _
 refine G.mv rfl ?_
 refine G.ckcall0 rfl rfl rfl (to10_ok mi mj mr) ?_
 rintro _ _ ⟨rfl, rfl⟩
 refine ⟨rfl, ?_⟩
 change WpOpsG _ _ ((44, _) :: _) _ _
 refine G.call0 rfl rfl (rfits_ok P C ts l mi mj mr (by omega) (by omega) hPp (by omega) hl hw) ?_
 rintro _ _ ⟨rfl, rfl⟩
 refine ⟨rfl, ?_⟩
 change WpOpsG _ _ ((45, _) :: _) _ _
 refine G.beq rfl rfl rfl ?_
 rw [beq_self_eq_true]
 refine G.pickF rfl rfl ?_
 refine G.mv rfl ?_
 refine WpOpsG.known 48 false rfl rfl ?_
 refine G.mv rfl ?_
 refine G.loadNB rfl rfl rfl ?_
 refine G.loadNB rfl rfl rfl ?_
 refine G.ckcall0 rfl rfl rfl ((do_ok l mi mj mr (by omega) hl).ren [(0, 20)]) ?_
 rintro _ _ ⟨_, _, ⟨rfl, rfl⟩, rfl, rfl⟩
 change newOk _ _ [(20, _)] = true ∧ _
 refine ⟨rfl, ?_⟩
 change WpOpsG _ _ ((51, .osl 20) :: _) ([(20, .arr .yes 2 ((doV l mi mj mr).map encN))] ++ _) _
 refine WpOpsG.freeze 20 rfl ?_
 refine G.mv rfl ?_
 refine G.call0 rfl rfl (to10_ok mi mj mr) ?_
 rintro _ _ ⟨rfl, rfl⟩
 refine ⟨rfl, ?_⟩
 change WpOpsG _ _ ((54, _) :: _) _ _
 refine G.call0 rfl rfl ((rdo_ok l mi mj mr (by omega) hl).ren [(0, 21)]) ?_
 rintro _ _ ⟨_, _, ⟨rfl, rfl⟩, rfl, rfl⟩
 change newOk _ _ [(21, _)] = true ∧ _
 refine ⟨rfl, ?_⟩
 change WpOpsG _ _ ((55, .osl 21) :: _) ([(21, .arr .yes 2 ((doV l mi mj mr).map encN))] ++ _) _
 refine WpOpsG.freeze 21 rfl ?_
 refine G.call0 rfl rfl (refSame_ok (doV l mi mj mr) (doV l mi mj mr) (by have := do_len (l := l) (i := mi) (j := mj) (r := mr); omega) (by have := do_len (l := l) (i := mi) (j := mj) (r := mr); omega)) ?_
 rintro _ _ ⟨rfl, rfl⟩
 refine ⟨rfl, ?_⟩
 change WpOpsG _ _ ((56, _) :: _) _ _
 rw [decide_eq_true rfl]
 refine G.un rfl rfl ?_
 refine G.pickF rfl rfl ?_
 refine WpOpsG.nil ?_
 change WpG _ _ _ _ _
 refine WpG.cond rfl (fun hq1 => absurd hq1 (by decide)) (fun hq1 => ?_)
 refine WpG.skip ?_
 change WpG _ _ _ _ _
 refine WpG.seq ?_
 refine WpG.seq ?_
 refine WpG.reg ?_
 refine G.mv rfl ?_
 refine G.lenM rfl ?_
 refine G.mv rfl ?_
 refine WpOpsG.nil ?_
 change WpG _ _ _ _ _
 refine WpG.block ?_
 refine WpG.loop (S := Nat) (fun a => [(0, .fsl 2 (l.map encN)), (4, .bptr 10 0), (8, .fsl 3 (ms.map encMv)), (9, .fsl 3 (ms.map encMv)), (60, .v (.int .i64 (ms.length : Int))), (61, .v (.int .i64 ((a : Nat) : Int)))]) (fun _ => [(10, .box [.fsl 11 (P.map encP), .fsl 6 (C.map encC), .fsl 1 ts])]) (fun a => a ≤ ms.length) (fun a => ms.length - a) (fun s => ⟨rfl, rfl⟩) ?_ 0 ?_ (by repeat (first | exact trivial | refine ⟨rfl, ?_⟩)) (by repeat (first | exact trivial | refine ⟨rfl, ?_⟩)) rfl
 ·intro a ha
  refine WpG.seq ?_
  refine WpG.reg ?_
  refine G.bin rfl rfl rfl ?_
  refine WpOpsG.nil ?_
  change WpG _ _ _ _ _
  refine WpG.seq ?_
  refine WpG.cond rfl (fun hq2 => ?_) (fun hq2 => ?_)
  ·(try simp only [zN] at hq2)
   refine WpG.skip ?_
   change WpG _ _ _ _ _
   refine WpG.seq ?_
   refine WpG.block ?_
   refine WpG.seq ?_
   refine WpG.reg ?_
   refine G.mv rfl ?_
   refine G.mv rfl ?_
   refine WpOpsG.nil ?_
   change WpG _ _ _ _ _
   refine WpG.seq ?_
   refine WpG.reg ?_
   refine G.mv rfl ?_
   refine G.mv rfl ?_
   refine G.iaddrN rfl rfl (List.getElem?_eq_getElem (by omega)) ?_
   obtain ⟨⟨ai, aj, ar⟩, hma⟩ : ∃ m, ms[a] = m := ⟨_, rfl⟩
   rw [hma]
   change WpOpsG _ _ ((66, .fptr [.v (.int .i64 ai), .v (.int .i64 aj), .v (.bool ar)] 0) :: _) _ _
   refine G.loadNF rfl rfl ?_
   refine G.mv rfl ?_
   refine G.mv rfl ?_
   refine G.iaddrN rfl rfl (List.getElem?_eq_getElem (by omega)) ?_
   rw [hma]
   change WpOpsG _ _ ((71, .fptr [.v (.int .i64 ai), .v (.int .i64 aj), .v (.bool ar)] 0) :: _) _ _
   refine G.loadNF rfl rfl ?_
   refine G.ckcall0 rfl rfl rfl (to10_ok ai aj ar) ?_
   rintro _ _ ⟨rfl, rfl⟩
   refine ⟨rfl, ?_⟩
   change WpOpsG _ _ ((68, _) :: _) _ _
   refine G.beq rfl rfl rfl ?_
   simp only [beq_self_eq_true, Bool.and_self]
   refine G.mv rfl ?_
   refine WpOpsG.known 74 false rfl rfl ?_
   refine G.mv rfl ?_
   refine G.bin rfl rfl rfl ?_
   refine G.mv rfl ?_
   cases hb77 : decide ((a : Int) < 12)
   ·(try simp only [zN] at hb77)
    refine WpOpsG.known 77 false rfl rfl ?_
    refine G.no rfl (by decide) ?_
    refine G.no rfl (by decide) ?_
    refine G.no rfl (by decide) ?_
    refine G.no rfl (by decide) ?_
    refine G.no rfl (by decide) ?_
    refine G.no rfl (by decide) ?_
    refine G.no rfl (by decide) ?_
    refine G.no rfl (by decide) ?_
    refine G.no rfl (by decide) ?_
    refine G.no rfl (by decide) ?_
    refine G.no rfl (by decide) ?_
    refine G.no rfl (by decide) ?_
    refine G.no rfl (by decide) ?_
    refine G.no rfl (by decide) ?_
    refine G.no rfl (by decide) ?_
    refine G.noT rfl ?_
    refine G.noT rfl ?_
    refine G.noT rfl ?_
    refine G.noT rfl ?_
    refine G.noT rfl ?_
    refine G.noT rfl ?_
    refine G.noT rfl ?_
    refine G.noT rfl ?_
    refine G.noT rfl ?_
    refine G.noT rfl ?_
    refine G.noT rfl ?_
    refine G.noT rfl ?_
    refine G.noT rfl ?_
    refine G.noT rfl ?_
    refine G.noT rfl ?_
    refine G.no rfl (by decide) ?_
    refine G.pickF rfl rfl ?_
    refine G.pickF rfl rfl ?_
    refine WpOpsG.nil ?_
    change WpG _ _ _ _ _
    refine WpG.cond rfl (fun hq3 => absurd hq3 (by decide)) (fun hq3 => ?_)
    refine WpG.skip ?_
    change WpG _ _ _ _ _
    refine WpG.reg ?_
    refine G.addI rfl rfl (by omega) ?_
    refine G.mv rfl ?_
    refine WpOpsG.nil ?_
    exact ⟨a + 1, by omega, by omega, ⟨rfl, rfl, rfl, rfl, rfl, rfl, trivial⟩, ⟨rfl, trivial⟩, rfl⟩
   ·(try simp only [zN] at hb77)
    refine WpOpsG.known 77 true rfl rfl ?_
    refine G.mv rfl ?_
    refine G.mv rfl ?_
    refine G.mv rfl ?_
    refine G.iaddrN rfl rfl (List.getElem?_eq_getElem (by omega)) ?_
    rw [hma]
    change WpOpsG _ _ ((81, .fptr [.v (.int .i64 ai), .v (.int .i64 aj), .v (.bool ar)] 0) :: _) _ _
    refine G.loadNF rfl rfl ?_
    refine G.mv rfl ?_
    refine G.mv rfl ?_
    refine G.iaddrN rfl rfl (List.getElem?_eq_getElem (by omega)) ?_
    rw [hma]
    change WpOpsG _ _ ((87, .fptr [.v (.int .i64 ai), .v (.int .i64 aj), .v (.bool ar)] 0) :: _) _ _
    refine G.loadNF rfl rfl ?_
    refine G.ckcall0 rfl rfl rfl ((do_ok l ai aj ar (by omega) hl).ren [(0, 22)]) ?_
    rintro _ _ ⟨_, _, ⟨rfl, rfl⟩, rfl, rfl⟩
    change newOk _ _ [(22, _)] = true ∧ _
    refine ⟨rfl, ?_⟩
    change WpOpsG _ _ ((83, .osl 22) :: _) ([(22, .arr .yes 2 ((doV l ai aj ar).map encN))] ++ _) _
    refine WpOpsG.freeze 22 rfl ?_
    refine G.mv rfl ?_
    refine G.call0 rfl rfl ((rdo_ok l ai aj ar (by omega) hl).ren [(0, 23)]) ?_
    rintro _ _ ⟨_, _, ⟨rfl, rfl⟩, rfl, rfl⟩
    change newOk _ _ [(23, _)] = true ∧ _
    refine ⟨rfl, ?_⟩
    change WpOpsG _ _ ((89, .osl 23) :: _) ([(23, .arr .yes 2 ((doV l ai aj ar).map encN))] ++ _) _
    refine WpOpsG.freeze 23 rfl ?_
    refine G.call0 rfl rfl (refSame_ok (doV l ai aj ar) (doV l ai aj ar) (by have := do_len (l := l) (i := ai) (j := aj) (r := ar); omega) (by have := do_len (l := l) (i := ai) (j := aj) (r := ar); omega)) ?_
    rintro _ _ ⟨rfl, rfl⟩
    refine ⟨rfl, ?_⟩
    change WpOpsG _ _ ((90, _) :: _) _ _
    rw [decide_eq_true rfl]
    refine G.un rfl rfl ?_
    refine G.mv rfl ?_
    refine WpOpsG.known 92 false rfl rfl ?_
    refine G.loadNB rfl rfl rfl ?_
    refine G.mv rfl ?_
    refine G.mv rfl ?_
    refine G.mv rfl ?_
    refine G.iaddrN rfl rfl (List.getElem?_eq_getElem (by omega)) ?_
    rw [hma]
    change WpOpsG _ _ ((97, .fptr [.v (.int .i64 ai), .v (.int .i64 aj), .v (.bool ar)] 0) :: _) _ _
    refine G.loadNF rfl rfl ?_
    refine G.loadNB rfl rfl rfl ?_
    refine G.mv rfl ?_
    refine G.mv rfl ?_
    refine G.iaddrN rfl rfl (List.getElem?_eq_getElem (by omega)) ?_
    rw [hma]
    change WpOpsG _ _ ((104, .fptr [.v (.int .i64 ai), .v (.int .i64 aj), .v (.bool ar)] 0) :: _) _ _
    refine G.loadNF rfl rfl ?_
    refine G.ckcall0 rfl rfl rfl (fits_ok P C ts l ai aj ar (by omega) (by omega) hPp (by omega) hl hw) ?_
    rintro _ _ ⟨rfl, rfl⟩
    refine ⟨rfl, ?_⟩
    change WpOpsG _ _ ((99, _) :: _) _ _
    refine G.mv rfl ?_
    refine G.call0 rfl rfl (rfits_ok P C ts l ai aj ar (by omega) (by omega) hPp (by omega) hl hw) ?_
    rintro _ _ ⟨rfl, rfl⟩
    refine ⟨rfl, ?_⟩
    change WpOpsG _ _ ((106, _) :: _) _ _
    refine G.beq rfl rfl rfl ?_
    rw [beq_self_eq_true]
    refine G.pickF rfl rfl ?_
    refine G.pickT rfl rfl ?_
    refine G.pickF rfl rfl ?_
    refine WpOpsG.nil ?_
    change WpG _ _ _ _ _
    refine WpG.cond rfl (fun hq4 => absurd hq4 (by decide)) (fun hq4 => ?_)
    refine WpG.skip ?_
    change WpG _ _ _ _ _
    refine WpG.reg ?_
    refine G.addI rfl rfl (by omega) ?_
    refine G.mv rfl ?_
    refine WpOpsG.nil ?_
    exact ⟨a + 1, by omega, by omega, ⟨rfl, rfl, rfl, rfl, rfl, rfl, trivial⟩, ⟨rfl, trivial⟩, rfl⟩
  ·(try simp only [zN] at hq2)
   refine WpG.exit ?_
   change WpG _ _ _ _ _
   refine WpG.seq ?_
   refine WpG.reg ?_
   refine G.mv rfl ?_
   refine WpOpsG.nil ?_
   change WpG _ _ _ _ _
   refine WpG.ret ?_
   refine ⟨_, [], rfl, (hasP_le (by repeat (first | exact trivial | refine ⟨rfl, ?_⟩))), rfl, rfl, rfl, ?_⟩
   exact ⟨rfl, rfl⟩
 ·exact Nat.zero_le _
theorem config_okP (t : List Int) (a0 : Nat) (ht : t.length ≤ 2 ^ 50) (hi : ∀ x ∈ t, i64 x) (ha0 : a0 ≤ t.length) : WpCallG A 9 [.bptr 0 0] [(0, tbox t a0)] (fun v H => ∃ (P : List Pt) (C : List Ch) (tabs : List (List Nd)) (b : Nat), CfgP P C tabs ∧ b ≤ t.length ∧ v = .agg [.fsl 11 (P.map encP), .fsl 6 (C.map encC), .fsl 1 (tabs.map encTb)] ∧ H = [(0, tbox t b)]) := cfgOut (config_ok t a0 ht hi ha0)
theorem tape_ok (k : Nat) (hk : k ≤ 1000) : WpCallG A 8 [.v (.int .i64 (k : Int))] [] (fun v H => v = .osl 0 ∧ H = [(0, .arr .yes 1 ((tapeL 53 k 400).map encK))]) := by
 refine WpCallG.intro g8 rfl rfl ?_
 unfold af8
 change WpG _ _ _ _ _
 refine WpG.seq ?_
 refine WpG.reg ?_
 refine G.mv rfl ?_
 refine WpOpsG.nil ?_
 change WpG _ _ _ _ _
 refine WpG.seq ?_
 refine WpG.reg ?_
 refine G.mv rfl ?_
 refine WpOpsG.nil ?_
 change WpG _ _ _ _ _
 refine WpG.seq ?_
 refine WpG.seq ?_
 refine WpG.reg ?_
 refine G.mv rfl ?_
 refine WpOpsG.nil ?_
 change WpG _ _ _ _ _
 refine WpG.block ?_
 refine WpG.ownNil (g := 0) (k := 3) (w := 1) rfl rfl ?_
 refine WpG.loop (S := Nat) (fun i => [(0, .v (.int .i64 (k : Int))), (3, .osl 0), (4, .v (.int .i64 (i : Int)))]) (fun i => [(0, .arr .yes 1 ((tapeL 53 k i).map encK))]) (fun i => i ≤ 400) (fun i => 400 - i) (fun s => ⟨rfl, rfl⟩) ?_ 0 ?_ (by repeat (first | exact trivial | refine ⟨rfl, ?_⟩)) (by repeat (first | exact trivial | refine ⟨rfl, ?_⟩)) rfl
 ·intro i hI
  refine WpG.seq ?_
  refine WpG.seq ?_
  refine WpG.reg ?_
  refine G.mv rfl ?_
  refine G.bin rfl rfl rfl ?_
  refine WpOpsG.nil ?_
  change WpG _ _ _ _ _
  refine WpG.cond rfl (fun hq1 => ?_) (fun hq1 => ?_)
  ·(try simp only [zN] at hq1)
   refine WpG.skip ?_
   change WpG _ _ _ _ _
   refine WpG.seq ?_
   refine WpG.block ?_
   have e1 := mul_le' (a := i) (b := i) (m := 400) (n := 400) (by omega) (by omega)
   have e2 := mul_le' (a := i) (b := k) (m := 400) (n := 1000) (by omega) (by omega)
   refine WpG.reg ?_
   refine G.mv rfl ?_
   refine G.mv rfl ?_
   refine G.mv rfl ?_
   refine G.mulI rfl rfl (by omega) ?_
   refine G.mulI rfl rfl (by omega) ?_
   refine G.mv rfl ?_
   refine G.mulI rfl rfl (by omega) ?_
   refine G.addI rfl rfl (by omega) ?_
   refine G.mv rfl ?_
   refine G.mv rfl ?_
   refine G.mulI rfl rfl (by omega) ?_
   refine G.addI rfl rfl (by omega) ?_
   refine G.remN rfl rfl (by omega) (by omega) ?_
   refine G.bsliceF rfl rfl rfl ?_
   refine G.app rfl rfl rfl rfl trivial (by rw [List.length_map, tapeL_len]; show (i + 1) * 8 ≤ 2 ^ 47; omega) ?_
   refine G.mv rfl ?_
   refine WpOpsG.nil ?_
   change WpG _ _ _ _ _
   refine WpG.reg ?_
   refine G.mv rfl ?_
   refine G.addI rfl rfl (by omega) ?_
   refine G.mv rfl ?_
   refine WpOpsG.nil ?_
   refine ⟨i + 1, by omega, by omega, ⟨rfl, rfl, rfl, trivial⟩, ⟨?_, trivial⟩, rfl⟩
   rw [tapeL_snoc, List.map_append]; rfl
  ·(try simp only [zN] at hq1)
   refine WpG.exit ?_
   change WpG _ _ _ _ _
   refine WpG.seq ?_
   obtain rfl : i = 400 := by omega
   refine WpG.reg ?_
   refine G.mv rfl ?_
   refine G.mv rfl ?_
   refine WpOpsG.nil ?_
   change WpG _ _ _ _ _
   refine WpG.ret ?_
   refine ⟨_, [(0, .arr .yes 1 ((tapeL 53 k 400).map encK))], rfl, (hasP_le (by repeat (first | exact trivial | refine ⟨rfl, ?_⟩))), rfl, rfl, rfl, ?_⟩
   exact ⟨rfl, rfl⟩
 ·exact Nat.zero_le _
end Go.AM.L10
