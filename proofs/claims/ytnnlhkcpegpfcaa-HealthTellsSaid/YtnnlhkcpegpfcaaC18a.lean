/- Contracts of the functions that the statement reaches. No condition. -/
import Derived.Test.YtnnlhkcpegpfcaaB18
import Derived.Test.YtnnlhkcpegpfcaaPL18
set_option linter.all false
set_option maxRecDepth 10000
namespace Go.AM.L18
open Go.AM.PL
theorem new18_ok (h0 h1 h2 h3 h4 : Int) : WpCallG A 8 [.agg [vI h0, vI h1, vI h2, vI h3, vI h4]] [] (fun v H => v = .bptr 0 0 ∧ H = [(0, .box [vI h0, vI h1, vI h2, vI h3, vI h4, .osl 1, .v (.bool false)]), (1, .arr .yes 3 (([]).map encF18))]) := by
 refine WpCallG.intro g8 rfl rfl ?_
 unfold af8
 change WpG _ _ _ _ _
 refine WpG.seq ?_
 refine WpG.reg ?_
 refine G.box (g := 10) rfl rfl rfl ?_
 refine G.mv rfl ?_
 refine WpOpsG.nil ?_
 change WpG _ _ _ _ _
 refine WpG.seq ?_
 refine WpG.reg ?_
 refine G.loadNB rfl rfl rfl ?_
 refine G.build rfl ?_
 refine G.box (g := 0) rfl rfl rfl ?_
 refine G.mv rfl ?_
 refine WpOpsG.nil ?_
 change WpG _ _ _ _ _
 refine WpG.ownNilB (b := 0) (off := 5) (g := 1) (w := 3) rfl rfl rfl ?_
 refine WpG.ret ?_
 refine ⟨_, [(0, .box [vI h0, vI h1, vI h2, vI h3, vI h4, .osl 1, .v (.bool false)]), (1, .arr .yes 3 (([]).map encF18))], rfl, (hasP_le (by repeat (first | exact trivial | refine ⟨rfl, ?_⟩))), rfl, rfl, rfl, ?_⟩
 exact ⟨rfl, rfl⟩
theorem stopped18_ok (h0 h1 h2 h3 h4 : Int) (l : List Flt) (st : Bool) : WpCallG A 9 [.fptr [vI h0, vI h1, vI h2, vI h3, vI h4, .fsl 3 (l.map encF18), .v (.bool st)] 0] [] (fun v H => v = .v (.bool st) ∧ H = []) := by
 refine WpCallG.intro g9 rfl rfl ?_
 unfold af9
 change WpG _ _ _ _ _
 refine WpG.seq ?_
 refine WpG.reg ?_
 refine G.mv rfl ?_
 refine WpOpsG.nil ?_
 change WpG _ _ _ _ _
 refine WpG.seq ?_
 refine WpG.reg ?_
 refine G.mv rfl ?_
 refine G.nilcF rfl ?_
 refine G.faddrF rfl ?_
 refine G.load1F rfl rfl ?_
 refine G.mv rfl ?_
 refine WpOpsG.nil ?_
 change WpG _ _ _ _ _
 refine WpG.ret ?_
 refine ⟨_, [], rfl, (hasP_le (by repeat (first | exact trivial | refine ⟨rfl, ?_⟩))), rfl, rfl, rfl, ?_⟩
 exact ⟨rfl, rfl⟩
theorem action18_ok (h0 h1 h2 h3 h4 : Int) (l : List Flt) (st : Bool) (k : Int) (hk : i64 k) : WpCallG A 13 [.fptr [vI h0, vI h1, vI h2, vI h3, vI h4, .fsl 3 (l.map encF18), .v (.bool st)] 0, .v (.int .i64 k)] [] (fun v H => v = .v (.int .i64 (act h0 h1 h2 h3 h4 k)) ∧ H = []) := by
 unfold i64 at hk
 refine WpCallG.intro g13 rfl rfl ?_
 unfold af13
 change WpG _ _ _ _ _
 refine WpG.seq ?_
 refine WpG.reg ?_
 refine G.mv rfl ?_
 refine WpOpsG.nil ?_
 change WpG _ _ _ _ _
 refine WpG.seq ?_
 refine WpG.seq ?_
 refine WpG.reg ?_
 refine G.mv rfl ?_
 refine G.bin rfl rfl rfl ?_
 refine G.mv rfl ?_
 apply G.orS rfl rfl rfl rfl rfl rfl
 case hB =>
  intro hs1
  (try simp only [zN] at hs1)
  refine G.mv rfl ?_
  refine G.bin rfl rfl rfl ?_
  refine WpOpsG.nil ?_
  exact ⟨rfl, (by repeat (first | exact LLe.refl _ | refine LLe.cons rfl ?_)), (by repeat (first | exact HLe.refl _ | refine HLe.cons rfl ?_)), rfl⟩
 refine WpOpsG.nil ?_
 change WpG _ _ _ _ _
 refine WpG.cond rfl (fun hq2 => ?_) (fun hq2 => ?_)
 ·(try simp only [zN] at hq2)
  refine WpG.seq ?_
  refine WpG.reg ?_
  refine G.mv rfl ?_
  refine WpOpsG.nil ?_
  change WpG _ _ _ _ _
  refine WpG.ret ?_
  refine ⟨_, [], rfl, (hasP_le (by repeat (first | exact trivial | refine ⟨rfl, ?_⟩))), rfl, rfl, rfl, ?_⟩
  rw [act_out (by omega)]; exact ⟨rfl, rfl⟩
 ·(try simp only [zN] at hq2)
  refine WpG.skip ?_
  change WpG _ _ _ _ _
  refine WpG.seq ?_
  refine WpG.seq ?_
  refine WpG.reg ?_
  refine G.mv rfl ?_
  refine G.mv rfl ?_
  refine G.subI rfl rfl (by omega) ?_
  refine G.nilcF rfl ?_
  refine G.faddrF rfl ?_
  refine G.aaddrF rfl rfl (by omega) (by omega) ?_
  refine G.load1F rfl (hL_at h0 h1 h2 h3 h4 [_, _] (k - 1) (by omega) (by omega)) ?_
  refine G.mv rfl ?_
  refine WpOpsG.nil ?_
  change WpG _ _ _ _ _
  refine WpG.seq ?_
  refine WpG.reg ?_
  refine G.mv rfl ?_
  refine G.bin rfl rfl rfl ?_
  refine G.mv rfl ?_
  apply G.orS rfl rfl rfl rfl rfl rfl
  case hB =>
   intro hs3
   (try simp only [zN] at hs3)
   refine G.mv rfl ?_
   refine G.bin rfl rfl rfl ?_
   refine WpOpsG.nil ?_
   exact ⟨rfl, (by repeat (first | exact LLe.refl _ | refine LLe.cons rfl ?_)), (by repeat (first | exact HLe.refl _ | refine HLe.cons rfl ?_)), rfl⟩
  refine WpOpsG.nil ?_
  change WpG _ _ _ _ _
  refine WpG.cond rfl (fun hq4 => ?_) (fun hq4 => ?_)
  ·(try simp only [zN] at hq4)
   refine WpG.seq ?_
   refine WpG.reg ?_
   refine G.mv rfl ?_
   refine G.mv rfl ?_
   refine WpOpsG.nil ?_
   change WpG _ _ _ _ _
   refine WpG.ret ?_
   refine ⟨_, [], rfl, (hasP_le (by repeat (first | exact trivial | refine ⟨rfl, ?_⟩))), rfl, rfl, rfl, ?_⟩
   rw [act_in (by omega) (by omega)]; exact ⟨rfl, rfl⟩
  ·(try simp only [zN] at hq4)
   refine WpG.skip ?_
   change WpG _ _ _ _ _
   refine WpG.seq ?_
   refine WpG.reg ?_
   refine G.mv rfl ?_
   refine WpOpsG.nil ?_
   change WpG _ _ _ _ _
   refine WpG.ret ?_
   refine ⟨_, [], rfl, (hasP_le (by repeat (first | exact trivial | refine ⟨rfl, ?_⟩))), rfl, rfl, rfl, ?_⟩
   rw [act_no (by omega)]; exact ⟨rfl, rfl⟩
theorem count18_ok (h0 h1 h2 h3 h4 : Int) (l : List Flt) (st : Bool) (kd : Int) (hl : l.length ≤ 2 ^ 40) : WpCallG A 11 [.fptr [vI h0, vI h1, vI h2, vI h3, vI h4, .fsl 3 (l.map encF18), .v (.bool st)] 0, .v (.int .i64 kd)] [] (fun v H => v = .v (.int .i64 (cnt18 kd l : Int)) ∧ H = []) := by
 refine WpCallG.intro g11 rfl rfl ?_
 unfold af11
 change WpG _ _ _ _ _
 refine WpG.seq ?_
 refine WpG.reg ?_
 refine G.mv rfl ?_
 refine WpOpsG.nil ?_
 change WpG _ _ _ _ _
 refine WpG.seq ?_
 refine WpG.reg ?_
 refine G.mv rfl ?_
 refine WpOpsG.nil ?_
 change WpG _ _ _ _ _
 refine WpG.seq ?_
 refine WpG.seq ?_
 refine WpG.reg ?_
 refine G.mv rfl ?_
 refine G.nilcF rfl ?_
 refine G.faddrF rfl ?_
 refine G.load1F rfl rfl ?_
 refine G.lenM rfl ?_
 refine G.mv rfl ?_
 refine WpOpsG.nil ?_
 change WpG _ _ _ _ _
 refine WpG.block ?_
 refine WpG.loop (S := Nat) (fun i => [(1, .v (.int .i64 kd)), (5, .v (.int .i64 (cnt18 kd (l.take i) : Int))), (11, .fsl 3 (l.map encF18)), (12, .v (.int .i64 (l.length : Int))), (13, .v (.int .i64 (i : Int)))]) (fun _ => []) (fun i => i ≤ l.length) (fun i => l.length - i) (fun s => ⟨rfl, rfl⟩) ?_ 0 ?_ (by repeat (first | exact trivial | refine ⟨rfl, ?_⟩)) (by repeat (first | exact trivial | refine ⟨rfl, ?_⟩)) rfl
 ·intro i hI
  have hc := cnt_le kd (l.take i)
  rw [List.length_take] at hc
  refine WpG.seq ?_
  refine WpG.reg ?_
  refine G.bin rfl rfl rfl ?_
  refine WpOpsG.nil ?_
  change WpG _ _ _ _ _
  refine WpG.seq ?_
  refine WpG.cond rfl (fun hq1 => ?_) (fun hq1 => ?_)
  ·(try simp only [zN] at hq1)
   refine WpG.skip ?_
   change WpG _ _ _ _ _
   refine WpG.seq ?_
   refine WpG.block ?_
   refine WpG.seq ?_
   refine WpG.reg ?_
   refine G.iaddrN rfl rfl (List.getElem?_eq_getElem (by omega)) ?_
   refine G.loadNF rfl rfl ?_
   refine G.box (g := 10) rfl rfl rfl ?_
   refine G.storeB rfl rfl rfl rfl rfl rfl ?_
   refine WpOpsG.nil ?_
   change WpG _ _ _ _ _
   refine WpG.seq ?_
   refine WpG.reg ?_
   refine G.faddrB rfl ?_
   refine G.load1B rfl rfl rfl ?_
   refine G.mv rfl ?_
   refine G.bin rfl rfl rfl ?_
   refine WpOpsG.nil ?_
   change WpG _ _ _ _ _
   refine WpG.cond rfl (fun hq2 => ?_) (fun hq2 => ?_)
   ·(try simp only [zN] at hq2)
    have hct := cnt_take kd l i (by omega)
    rw [if_pos hq2] at hct
    refine WpG.reg ?_
    refine G.mv rfl ?_
    refine G.addI rfl rfl (by omega) ?_
    refine G.mv rfl ?_
    refine WpOpsG.nil ?_
    change WpG _ _ _ _ _
    refine WpG.reg ?_
    refine G.addI rfl rfl (by omega) ?_
    refine G.mv rfl ?_
    refine WpOpsG.nil ?_
    refine ⟨i + 1, by omega, by omega, ⟨rfl, ?_, rfl, rfl, rfl, trivial⟩, trivial, rfl⟩
    rw [hct]; rfl
   ·(try simp only [zN] at hq2)
    have hct := cnt_take kd l i (by omega)
    rw [if_neg hq2] at hct
    refine WpG.skip ?_
    change WpG _ _ _ _ _
    refine WpG.reg ?_
    refine G.addI rfl rfl (by omega) ?_
    refine G.mv rfl ?_
    refine WpOpsG.nil ?_
    refine ⟨i + 1, by omega, by omega, ⟨rfl, ?_, rfl, rfl, rfl, trivial⟩, trivial, rfl⟩
    rw [hct]; rfl
  ·(try simp only [zN] at hq1)
   refine WpG.exit ?_
   change WpG _ _ _ _ _
   refine WpG.seq ?_
   refine WpG.reg ?_
   refine G.mv rfl ?_
   refine G.mv rfl ?_
   refine WpOpsG.nil ?_
   change WpG _ _ _ _ _
   refine WpG.ret ?_
   refine ⟨_, [], rfl, (hasP_le (by repeat (first | exact trivial | refine ⟨rfl, ?_⟩))), rfl, rfl, rfl, ?_⟩
   rw [List.take_of_length_le (by omega)]; exact ⟨rfl, rfl⟩
 ·exact Nat.zero_le _
theorem clone18_ok (l : List Flt) (hl : l.length * 24 ≤ 2 ^ 47) : WpCallG A 14 [.fsl 3 (l.map encF18)] [] (fun v H => v = .osl 0 ∧ H = [(0, .arr .yes 3 (l.map encF18))]) := by
 refine WpCallG.intro g14 rfl rfl ?_
 unfold af14
 change WpG _ _ _ _ _
 refine WpG.seq ?_
 refine WpG.reg ?_
 refine G.mv rfl ?_
 refine WpOpsG.nil ?_
 change WpG _ _ _ _ _
 refine WpG.seq ?_
 refine WpG.seq ?_
 refine WpG.reg ?_
 refine G.mv rfl ?_
 refine G.eqnilF rfl (fun hnil4 hnil4_e => ?_)
 refine WpOpsG.nil ?_
 change WpG _ _ _ _ _
 refine WpG.cond rfl (fun hq1 => ?_) (fun hq1 => ?_)
 ·(try simp only [zN] at hq1)
  refine WpG.seq ?_
  refine WpG.reg ?_
  refine G.mv rfl ?_
  refine WpOpsG.nil ?_
  change WpG _ _ _ _ _
  refine WpG.ownNil (g := 0) (k := 2) (w := 3) rfl rfl ?_
  refine WpG.ret ?_
  refine ⟨_, [(0, .arr .yes 3 [])], rfl, (hasP_le (by repeat (first | exact trivial | refine ⟨rfl, ?_⟩))), rfl, rfl, rfl, ?_⟩
  have e : l = [] := List.map_eq_nil_iff.1 (hnil4_e (by simpa using hq1))
  rw [e]; exact ⟨rfl, rfl⟩
 ·(try simp only [zN] at hq1)
  refine WpG.skip ?_
  change WpG _ _ _ _ _
  refine WpG.seq ?_
  refine WpG.reg ?_
  refine G.bslice (g := 0) rfl rfl rfl rfl ?_
  refine G.mv rfl ?_
  refine G.app rfl rfl rfl rfl trivial (by (simp only [List.length_map, List.length_append, List.length_cons, List.length_nil, List.length_replicate, List.length_take, List.length_drop, List.length_set]; omega)) ?_
  refine G.mv rfl ?_
  refine WpOpsG.nil ?_
  change WpG _ _ _ _ _
  refine WpG.ret ?_
  refine ⟨_, [(0, .arr .yes 3 (l.map encF18))], rfl, (hasP_le (by repeat (first | exact trivial | refine ⟨rfl, ?_⟩))), rfl, rfl, rfl, ?_⟩
  exact ⟨rfl, rfl⟩
theorem all18_ok (h0 h1 h2 h3 h4 : Int) (l : List Flt) (st : Bool) (hl : l.length ≤ 2 ^ 40) : WpCallG A 12 [.fptr [vI h0, vI h1, vI h2, vI h3, vI h4, .fsl 3 (l.map encF18), .v (.bool st)] 0] [] (fun v H => v = .osl 0 ∧ H = [(0, .arr .yes 3 (l.map encF18))]) := by
 refine WpCallG.intro g12 rfl rfl ?_
 unfold af12
 change WpG _ _ _ _ _
 refine WpG.seq ?_
 refine WpG.reg ?_
 refine G.mv rfl ?_
 refine WpOpsG.nil ?_
 change WpG _ _ _ _ _
 refine WpG.seq ?_
 refine WpG.reg ?_
 refine G.mv rfl ?_
 refine G.nilcF rfl ?_
 refine G.faddrF rfl ?_
 refine G.load1F rfl rfl ?_
 refine G.call0 rfl rfl (clone18_ok l (by omega)) ?_
 rintro _ _ ⟨rfl, rfl⟩
 refine ⟨rfl, ?_⟩
 change WpOpsG _ _ ((7, .osl 0) :: _) ([(0, .arr .yes 3 (l.map encF18))] ++ _) _
 refine G.mv rfl ?_
 refine WpOpsG.nil ?_
 change WpG _ _ _ _ _
 refine WpG.ret ?_
 refine ⟨_, [(0, .arr .yes 3 (l.map encF18))], rfl, (hasP_le (by repeat (first | exact trivial | refine ⟨rfl, ?_⟩))), rfl, rfl, rfl, ?_⟩
 exact ⟨rfl, rfl⟩
theorem tell18_ok (h0 h1 h2 h3 h4 : Int) (l : List Flt) (st : Bool) (t p k : Int) (hk : i64 k) (hl : l.length ≤ 2 ^ 40) : WpCallG A 10 [.bptr 0 0, .v (.int .i64 t), .v (.int .i64 p), .v (.int .i64 k)] [(0, .box [vI h0, vI h1, vI h2, vI h3, vI h4, .osl 1, .v (.bool st)]), (1, .arr .yes 3 ((l).map encF18))] (fun v H => v = .v (.int .i64 (bif st then -1 else act h0 h1 h2 h3 h4 k)) ∧ H = [(0, .box [vI h0, vI h1, vI h2, vI h3, vI h4, .osl 1, .v (.bool (bif st then true else act h0 h1 h2 h3 h4 k == 2))]), (1, .arr .yes 3 ((tellL st l (⟨t, p, k⟩ : Flt)).map encF18))]) := by
 refine WpCallG.intro g10 rfl rfl ?_
 unfold af10
 change WpG _ _ _ _ _
 refine WpG.seq ?_
 refine WpG.reg ?_
 refine G.mv rfl ?_
 refine WpOpsG.nil ?_
 change WpG _ _ _ _ _
 refine WpG.seq ?_
 refine WpG.seq ?_
 refine WpG.reg ?_
 refine G.mv rfl ?_
 refine G.nilcB rfl ?_
 refine G.faddrB rfl ?_
 refine G.load1B rfl rfl rfl ?_
 refine WpOpsG.nil ?_
 change WpG _ _ _ _ _
 refine WpG.cond rfl (fun hq1 => ?_) (fun hq1 => ?_)
 ·(try simp only [zN] at hq1)
  subst hq1
  refine WpG.seq ?_
  refine WpG.reg ?_
  refine G.mv rfl ?_
  refine WpOpsG.nil ?_
  change WpG _ _ _ _ _
  refine WpG.ret ?_
  refine ⟨_, [(0, .box [vI h0, vI h1, vI h2, vI h3, vI h4, .osl 1, .v (.bool true)]), (1, .arr .yes 3 ((l).map encF18))], rfl, (hasP_le (by repeat (first | exact trivial | refine ⟨rfl, ?_⟩))), rfl, rfl, rfl, ?_⟩
  exact ⟨rfl, rfl⟩
 ·(try simp only [zN] at hq1)
  subst hq1
  refine WpG.skip ?_
  change WpG _ _ _ _ _
  refine WpG.seq ?_
  refine WpG.reg ?_
  refine G.mv rfl ?_
  refine G.mv rfl ?_
  refine G.nilcB rfl ?_
  refine G.faddrB rfl ?_
  refine G.load1B rfl rfl rfl ?_
  refine G.mv rfl ?_
  refine G.mv rfl ?_
  refine G.mv rfl ?_
  refine G.build rfl ?_
  refine G.bsliceF rfl rfl rfl ?_
  change WpOpsG _ _ ((23, .fsl 3 (([(⟨t, p, k⟩ : Flt)] : List Flt).map encF18)) :: _) _ _
  refine G.app rfl rfl rfl rfl trivial (by rw [List.length_map]; show (l.length + 1) * 24 ≤ 2 ^ 47; omega) ?_
  rw [← List.map_append]
  refine G.nilcB rfl ?_
  refine G.faddrB rfl ?_
  refine G.storeB rfl rfl rfl rfl rfl rfl ?_
  refine WpOpsG.nil ?_
  change WpG _ _ _ _ _
  refine WpG.seq ?_
  refine WpG.reg ?_
  refine G.mv rfl ?_
  refine G.mv rfl ?_
  refine G.lend rfl rfl (action18_ok h0 h1 h2 h3 h4 (l ++ [(⟨t, p, k⟩ : Flt)]) false k hk) ?_
  rintro _ _ ⟨rfl, rfl⟩
  refine ⟨rfl, trivial, rfl, ?_⟩
  change WpOpsG _ _ ((29, _) :: _) _ _
  refine G.mv rfl ?_
  refine WpOpsG.nil ?_
  change WpG _ _ _ _ _
  refine WpG.seq ?_
  refine WpG.reg ?_
  refine G.mv rfl ?_
  refine G.mv rfl ?_
  refine G.bin rfl rfl rfl ?_
  refine G.nilcB rfl ?_
  refine G.faddrB rfl ?_
  refine G.storeB rfl rfl rfl rfl rfl rfl ?_
  refine WpOpsG.nil ?_
  change WpG _ _ _ _ _
  refine WpG.seq ?_
  refine WpG.reg ?_
  refine G.mv rfl ?_
  refine G.mv rfl ?_
  refine WpOpsG.nil ?_
  change WpG _ _ _ _ _
  refine WpG.ret ?_
  refine ⟨_, [(0, .box [vI h0, vI h1, vI h2, vI h3, vI h4, .osl 1, .v (.bool (act h0 h1 h2 h3 h4 k == 2))]), (1, .arr .yes 3 ((l ++ [(⟨t, p, k⟩ : Flt)]).map encF18))], rfl, (hasP_le (by repeat (first | exact trivial | refine ⟨rfl, ?_⟩))), rfl, rfl, rfl, ?_⟩
  exact ⟨rfl, rfl⟩
end Go.AM.L18
