/- Contracts of the functions that the statement reaches. No condition. -/
import Derived.Test.YtabhoinefficpaaC10a
import Derived.Test.YtabhoinefficpaaK10b
set_option linter.all false
set_option maxRecDepth 10000
namespace Go.AM.L10
open Go.AM.PL
theorem cloneN_ok (l : List Rn) (hl : l.length * 16 ≤ 2 ^ 47) : WpCallG A 38 [.fsl 2 (l.map encN)] [] (fun v H => v = .osl 0 ∧ H = [(0, .arr .yes 2 (l.map encN))]) := by
 refine WpCallG.intro g38 rfl rfl ?_
 unfold af38
 change WpG _ _ _ _ _
 refine WpG.seq ?_
 refine WpG.reg ?_
 refine G.mv rfl ?_
 refine WpOpsG.nil ?_
 change WpG _ _ _ _ _
 refine WpG.seq ?_
 refine WpG.seq ?_
 refine WpG.reg ?_
 refine G.mv rfl ?_
 refine G.eqnilF rfl (fun hnil4 hnil4_e => ?_)
 refine WpOpsG.nil ?_
 change WpG _ _ _ _ _
 refine WpG.cond rfl (fun hq1 => ?_) (fun hq1 => ?_)
 ·(try simp only [zN] at hq1)
  refine WpG.seq ?_
  refine WpG.reg ?_
  refine G.mv rfl ?_
  refine WpOpsG.nil ?_
  change WpG _ _ _ _ _
  refine WpG.ownNil (g := 0) (k := 2) (w := 2) rfl rfl ?_
  refine WpG.ret ?_
  refine ⟨_, [(0, .arr .yes 2 [])], rfl, (hasP_le (by repeat (first | exact trivial | refine ⟨rfl, ?_⟩))), rfl, rfl, rfl, ?_⟩
  have e : l = [] := List.map_eq_nil_iff.1 (hnil4_e (by simpa using hq1))
  rw [e]; exact ⟨rfl, rfl⟩
 ·(try simp only [zN] at hq1)
  refine WpG.skip ?_
  change WpG _ _ _ _ _
  refine WpG.seq ?_
  refine WpG.reg ?_
  refine G.bslice (g := 0) rfl rfl rfl rfl ?_
  refine G.mv rfl ?_
  refine G.app rfl rfl rfl rfl trivial (by (simp only [List.length_map, List.length_append, List.length_cons, List.length_nil, List.length_replicate, List.length_take, List.length_drop, List.length_set]; omega)) ?_
  refine G.mv rfl ?_
  refine WpOpsG.nil ?_
  change WpG _ _ _ _ _
  refine WpG.ret ?_
  refine ⟨_, [(0, .arr .yes 2 (l.map encN))], rfl, (hasP_le (by repeat (first | exact trivial | refine ⟨rfl, ?_⟩))), rfl, rfl, rfl, ?_⟩
  exact ⟨rfl, rfl⟩
theorem add_ok (a b : Int) (ha : i64 a) (hb : i64 b) : WpCallG A 40 [.v (.int .i64 a), .v (.int .i64 b)] [] (fun v H => v = .v (.int .i64 (sadd a b)) ∧ H = []) := by
 unfold i64 at ha hb
 refine WpCallG.intro g40 rfl rfl ?_
 unfold af40
 change WpG _ _ _ _ _
 refine WpG.seq ?_
 refine WpG.reg ?_
 refine G.mv rfl ?_
 refine WpOpsG.nil ?_
 change WpG _ _ _ _ _
 refine WpG.seq ?_
 refine WpG.reg ?_
 refine G.mv rfl ?_
 refine G.mx rfl rfl ?_
 refine G.mv rfl ?_
 refine G.mx rfl rfl ?_
 refine G.mv rfl ?_
 refine G.mv rfl ?_
 refine WpOpsG.nil ?_
 change WpG _ _ _ _ _
 refine WpG.seq ?_
 refine WpG.seq ?_
 refine WpG.reg ?_
 refine G.mv rfl ?_
 refine G.mv rfl ?_
 refine G.subI rfl rfl (by omega) ?_
 refine G.bin rfl rfl rfl ?_
 refine WpOpsG.nil ?_
 change WpG _ _ _ _ _
 refine WpG.cond rfl (fun hq1 => ?_) (fun hq1 => ?_)
 ·(try simp only [zN] at hq1)
  refine WpG.seq ?_
  refine WpG.reg ?_
  refine G.mv rfl ?_
  refine WpOpsG.nil ?_
  change WpG _ _ _ _ _
  refine WpG.ret ?_
  refine ⟨_, [], rfl, (hasP_le (by repeat (first | exact trivial | refine ⟨rfl, ?_⟩))), rfl, rfl, rfl, ?_⟩
  have e : sadd a b = 9223372036854775807 := by unfold sadd; rw [if_pos (by omega)]
  rw [e]; exact ⟨rfl, rfl⟩
 ·(try simp only [zN] at hq1)
  refine WpG.skip ?_
  change WpG _ _ _ _ _
  refine WpG.seq ?_
  refine WpG.reg ?_
  refine G.mv rfl ?_
  refine G.mv rfl ?_
  refine G.addI rfl rfl (by omega) ?_
  refine G.mv rfl ?_
  refine WpOpsG.nil ?_
  change WpG _ _ _ _ _
  refine WpG.ret ?_
  refine ⟨_, [], rfl, (hasP_le (by repeat (first | exact trivial | refine ⟨rfl, ?_⟩))), rfl, rfl, rfl, ?_⟩
  have e : sadd a b = max a 0 + max b 0 := by unfold sadd; rw [if_neg (by omega)]
  rw [e]; first | exact ⟨rfl, rfl⟩ | (refine ⟨?_, rfl⟩; show GV.v (.int .i64 _) = GV.v (.int .i64 _); congr 2; omega)
theorem clipN_ok (l : List Rn) : WpCallG A 58 [.osl 0] [(0, .arr .yes 2 (l.map encN))] (fun v H => v = .osl 0 ∧ H = [(0, .arr .yes 2 (l.map encN))]) := by
 refine WpCallG.intro g58 rfl rfl ?_
 unfold af58
 change WpG _ _ _ _ _
 refine WpG.seq ?_
 refine WpG.reg ?_
 refine G.mv rfl ?_
 refine WpOpsG.nil ?_
 change WpG _ _ _ _ _
 refine WpG.seq ?_
 refine WpG.reg ?_
 refine G.mv rfl ?_
 refine G.mv rfl ?_
 refine G.lenOM rfl rfl ?_
 refine G.mv rfl ?_
 refine G.lenOM rfl rfl ?_
 refine G.sl3O (n := l.length) rfl rfl rfl rfl (by rw [List.length_map]) ?_
 refine G.mv rfl ?_
 refine WpOpsG.nil ?_
 change WpG _ _ _ _ _
 refine WpG.ret ?_
 refine ⟨_, [(0, .arr .yes 2 (l.map encN))], rfl, (hasP_le (by repeat (first | exact trivial | refine ⟨rfl, ?_⟩))), rfl, rfl, rfl, ?_⟩
 exact ⟨rfl, rfl⟩
theorem tidyN_ok (l : List Rn) (hn : l.length ≤ 2 ^ 40) (hl : ∀ r ∈ l, okN r) : WpCallG A 41 [.fsl 2 (l.map encN)] [] (fun v H => v = .osl 0 ∧ H = [(0, .arr .yes 2 ((tidyV l).map encN))]) := by
 refine WpCallG.intro g41 rfl rfl ?_
 unfold af41
 change WpG _ _ _ _ _
 refine WpG.seq ?_
 refine WpG.reg ?_
 refine G.mv rfl ?_
 refine WpOpsG.nil ?_
 change WpG _ _ _ _ _
 refine WpG.seq ?_
 refine WpG.reg ?_
 refine G.mv rfl ?_
 refine WpOpsG.nil ?_
 change WpG _ _ _ _ _
 refine WpG.seq ?_
 refine WpG.seq ?_
 refine WpG.reg ?_
 refine G.mv rfl ?_
 refine G.lenM rfl ?_
 refine G.mv rfl ?_
 refine WpOpsG.nil ?_
 change WpG _ _ _ _ _
 refine WpG.block ?_
 refine WpG.ownNil (g := 0) (k := 3) (w := 2) rfl rfl ?_
 refine WpG.loop (S := Nat) (fun i => [(3, .osl 0), (7, .fsl 2 (l.map encN)), (8, .v (.int .i64 (l.length : Int))), (9, .v (.int .i64 (i : Int)))]) (fun i => [(0, .arr .yes 2 ((tidyV (l.take i)).map encN))]) (fun i => i ≤ l.length) (fun i => l.length - i) (fun s => ⟨rfl, rfl⟩) ?_ 0 ?_ (by repeat (first | exact trivial | refine ⟨rfl, ?_⟩)) (by repeat (first | exact trivial | refine ⟨rfl, ?_⟩)) rfl
 ·intro i hI
  refine WpG.seq ?_
  refine WpG.reg ?_
  refine G.bin rfl rfl rfl ?_
  refine WpOpsG.nil ?_
  change WpG _ _ _ _ _
  refine WpG.seq ?_
  refine WpG.cond rfl (fun hq1 => ?_) (fun hq1 => ?_)
  ·(try simp only [zN] at hq1)
   refine WpG.skip ?_
   change WpG _ _ _ _ _
   refine WpG.seq ?_
   refine WpG.block ?_
   refine WpG.seq ?_
   have hlt : i < l.length := by omega
   have hr := hl l[i] (List.getElem_mem hlt)
   obtain ⟨R, hR⟩ : ∃ R, tidyR (l.take i) = R := ⟨_, rfl⟩
   have hRo := tidyR_ok (l.take i) (fun r hr => hl r (List.mem_of_mem_take hr))
   rw [show tidyV (l.take i) = R.reverse by unfold tidyV; rw [hR]]
   rw [hR] at hRo
   have hRl : R.length ≤ i := by have := tidyR_len (l.take i); rw [hR, List.length_take] at this; omega
   have hrv := List.length_reverse (as := R)
   refine WpG.reg ?_
   refine G.iaddrN rfl rfl (List.getElem?_eq_getElem (by omega)) ?_
   refine G.loadNF rfl rfl ?_
   refine G.box (g := 10) rfl rfl rfl ?_
   refine G.storeB rfl rfl rfl rfl rfl rfl ?_
   refine WpOpsG.nil ?_
   change WpG _ _ _ _ _
   refine WpG.seq ?_
   refine WpG.reg ?_
   refine G.mv rfl ?_
   refine G.lenOM rfl rfl ?_
   rw [hrv]
   refine G.mv rfl ?_
   refine WpOpsG.nil ?_
   change WpG _ _ _ _ _
   refine WpG.block ?_
   refine WpG.seq ?_
   refine WpG.reg ?_
   refine G.faddrB rfl ?_
   refine G.load1B rfl rfl rfl ?_
   refine G.bin rfl rfl rfl ?_
   refine G.mv rfl ?_
   refine WpOpsG.nil ?_
   change WpG _ _ _ _ _
   refine WpG.cond rfl (fun hq2 => ?_) (fun hq2 => ?_)
   ·(try simp only [zN] at hq2)
    refine WpG.skip ?_
    change WpG _ _ _ _ _
    refine WpG.reg ?_
    refine G.addI rfl rfl (by omega) ?_
    refine G.mv rfl ?_
    refine WpOpsG.nil ?_
    refine ⟨i + 1, by omega, by omega, ⟨rfl, rfl, rfl, rfl, trivial⟩, ⟨?_, trivial⟩, rfl⟩
    rw [show tidyV (l.take (i + 1)) = (tstep R l[i]).reverse by unfold tidyV; rw [tidyR_snoc hlt, hR]]
    first
     | (rw [tstep_0 (by omega)]; rfl)
     | (rw [tstep_T (by omega) (by omega) (by omega), ← rset (by omega)]; rfl)
     | (rw [tstep_F (by omega) (by omega), List.reverse_cons, List.map_append]; rfl)
   ·(try simp only [zN] at hq2)
    refine WpG.seq ?_
    refine WpG.reg ?_
    refine G.mv rfl ?_
    refine G.bin rfl rfl rfl ?_
    refine G.mv rfl ?_
    apply G.andS rfl rfl rfl rfl rfl rfl
    case hB =>
     intro hs3
     (try simp only [zN] at hs3)
     refine G.mv rfl ?_
     refine G.mv rfl ?_
     refine G.subI rfl rfl (by omega) ?_
     rw [show (R.length : Int) - 1 = ((R.length - 1 : Nat) : Int) by omega]
     refine G.iaddrO rfl rfl rfl (by omega) (by rw [List.length_map]; omega) ?_
     refine G.faddrE rfl ?_
     refine G.load1EM rfl rfl (rtop (by omega)) rfl ?_
     refine G.faddrB rfl ?_
     refine G.load1B rfl rfl rfl ?_
     refine G.bin rfl rfl rfl ?_
     refine WpOpsG.nil ?_
     exact ⟨rfl, (by repeat (first | exact LLe.refl _ | refine LLe.cons rfl ?_)), (by repeat (first | exact HLe.refl _ | refine HLe.cons rfl ?_)), rfl⟩
    refine G.mv rfl ?_
    refine WpOpsG.nil ?_
    change WpG _ _ _ _ _
    refine WpG.cond rfl (fun hq4 => ?_) (fun hq4 => ?_)
    ·(try simp only [zN] at hq4)
     refine WpG.reg ?_
     refine G.mv rfl ?_
     refine G.mv rfl ?_
     refine G.subI rfl rfl (by omega) ?_
     rw [show (R.length : Int) - 1 = ((R.length - 1 : Nat) : Int) by omega]
     refine G.mv rfl ?_
     refine G.mv rfl ?_
     refine G.subI rfl rfl (by omega) ?_
     rw [show (R.length : Int) - 1 = ((R.length - 1 : Nat) : Int) by omega]
     refine G.iaddrO rfl rfl rfl (by omega) (by rw [List.length_map]; omega) ?_
     refine G.faddrE rfl ?_
     refine G.load1EM rfl rfl (rtop (by omega)) rfl ?_
     refine G.faddrB rfl ?_
     refine G.load1B rfl rfl rfl ?_
     refine G.call0 rfl rfl (add_ok (hdR R).n l[i].n (hRo _ (hdR_mem (by omega))).1.2 hr.2) ?_
     rintro _ _ ⟨rfl, rfl⟩
     refine ⟨rfl, ?_⟩
     change WpOpsG _ _ ((48, _) :: _) _ _
     refine G.iaddrO rfl rfl rfl (by omega) (by rw [List.length_map]; omega) ?_
     refine G.faddrE rfl ?_
     refine G.storeEM ⟨(hdR R).p, sadd (hdR R).n l[i].n⟩ rfl rfl rfl (rtop (by omega)) rfl rfl rfl rfl ?_
     refine WpOpsG.nil ?_
     change WpG _ _ _ _ _
     refine WpG.reg ?_
     refine G.addI rfl rfl (by omega) ?_
     refine G.mv rfl ?_
     refine WpOpsG.nil ?_
     refine ⟨i + 1, by omega, by omega, ⟨rfl, rfl, rfl, rfl, trivial⟩, ⟨?_, trivial⟩, rfl⟩
     rw [show tidyV (l.take (i + 1)) = (tstep R l[i]).reverse by unfold tidyV; rw [tidyR_snoc hlt, hR]]
     first
      | (rw [tstep_0 (by omega)]; rfl)
      | (rw [tstep_T (by omega) (by omega) (by omega), ← rset (by omega)]; rfl)
      | (rw [tstep_F (by omega) (by omega), List.reverse_cons, List.map_append]; rfl)
    ·(try simp only [zN] at hq4)
     refine WpG.reg ?_
     refine G.mv rfl ?_
     refine G.loadNB rfl rfl rfl ?_
     refine G.bsliceF rfl rfl rfl ?_
     refine G.app rfl rfl rfl rfl trivial (by rw [List.length_map, List.length_reverse]; show (R.length + 1) * 16 ≤ 2 ^ 47; omega) ?_
     refine G.mv rfl ?_
     refine WpOpsG.nil ?_
     change WpG _ _ _ _ _
     refine WpG.reg ?_
     refine G.addI rfl rfl (by omega) ?_
     refine G.mv rfl ?_
     refine WpOpsG.nil ?_
     refine ⟨i + 1, by omega, by omega, ⟨rfl, rfl, rfl, rfl, trivial⟩, ⟨?_, trivial⟩, rfl⟩
     rw [show tidyV (l.take (i + 1)) = (tstep R l[i]).reverse by unfold tidyV; rw [tidyR_snoc hlt, hR]]
     first
      | (rw [tstep_0 (by omega)]; rfl)
      | (rw [tstep_T (by omega) (by omega) (by omega), ← rset (by omega)]; rfl)
      | (rw [tstep_F (by omega) (by omega), List.reverse_cons, List.map_append]; rfl)
  ·(try simp only [zN] at hq1)
   refine WpG.exit ?_
   change WpG _ _ _ _ _
   refine WpG.seq ?_
   rw [show l.take i = l from take_all (by omega)]
   refine WpG.reg ?_
   refine G.mv rfl ?_
   refine G.call (P := [(0, .arr .yes 2 ((tidyV l).map encN))]) rfl (by repeat (first | exact trivial | refine ⟨rfl, ?_⟩)) rfl rfl (clipN_ok (tidyV l)) ?_
   rintro _ _ ⟨rfl, rfl⟩
   refine ⟨rfl, ?_⟩
   change WpOpsG _ _ ((53, .osl 0) :: _) ((0, .arr .yes 2 ((tidyV l).map encN)) :: _) _
   refine G.mv rfl ?_
   refine WpOpsG.nil ?_
   change WpG _ _ _ _ _
   refine WpG.ret ?_
   refine ⟨_, [(0, .arr .yes 2 ((tidyV l).map encN))], rfl, (hasP_le (by repeat (first | exact trivial | refine ⟨rfl, ?_⟩))), rfl, rfl, rfl, ?_⟩
   exact ⟨rfl, rfl⟩
 ·exact Nat.zero_le _
theorem to_ok (dep : List (List Bool)) (a b : Int) (hd : dep.length ≤ 2 ^ 50) (hd2 : ∀ r ∈ dep, r.length ≤ 2 ^ 50) : WpCallG A 60 [.fsl 1 (dep.map encBs), .v (.int .i64 a), .v (.int .i64 b)] [] (fun v H => v = .v (.bool (toV dep a b)) ∧ H = []) := by
 refine WpCallG.intro g60 rfl rfl ?_
 unfold af60
 change WpG _ _ _ _ _
 refine WpG.seq ?_
 refine WpG.reg ?_
 refine G.mv rfl ?_
 refine WpOpsG.nil ?_
 change WpG _ _ _ _ _
 refine WpG.seq ?_
 refine WpG.reg ?_
 refine G.mv rfl ?_
 refine G.bin rfl rfl rfl ?_
 refine G.mv rfl ?_
 apply G.andS rfl rfl rfl rfl rfl rfl
 case hB =>
  intro hs1
  (try simp only [zN] at hs1)
  refine G.mv rfl ?_
  refine G.bin rfl rfl rfl ?_
  refine WpOpsG.nil ?_
  exact ⟨rfl, (by repeat (first | exact LLe.refl _ | refine LLe.cons rfl ?_)), (by repeat (first | exact HLe.refl _ | refine HLe.cons rfl ?_)), rfl⟩
 refine G.mv rfl ?_
 apply G.andS rfl rfl rfl rfl rfl rfl
 case hB =>
  intro hs2
  (try simp only [zN] at hs2)
  refine G.mv rfl ?_
  refine G.mv rfl ?_
  refine G.lenM rfl ?_
  refine G.bin rfl rfl rfl ?_
  refine WpOpsG.nil ?_
  exact ⟨rfl, (by repeat (first | exact LLe.refl _ | refine LLe.cons rfl ?_)), (by repeat (first | exact HLe.refl _ | refine HLe.cons rfl ?_)), rfl⟩
 refine G.mv rfl ?_
 apply G.andS rfl rfl rfl rfl rfl rfl
 case hB =>
  intro hs3
  (try simp only [zN] at hs3)
  refine G.mv rfl ?_
  refine G.mv rfl ?_
  refine G.mv rfl ?_
  refine G.iaddrM rfl rfl (by omega) (gd8 [] (by omega)) ?_
  refine G.load1F rfl rfl ?_
  refine G.lenM rfl ?_
  refine G.bin rfl rfl rfl ?_
  refine WpOpsG.nil ?_
  exact ⟨rfl, (by repeat (first | exact LLe.refl _ | refine LLe.cons rfl ?_)), (by repeat (first | exact HLe.refl _ | refine HLe.cons rfl ?_)), rfl⟩
 refine G.mv rfl ?_
 apply G.andS rfl rfl rfl rfl rfl rfl
 case hB =>
  intro hs4
  (try simp only [zN] at hs4)
  refine G.mv rfl ?_
  refine G.mv rfl ?_
  refine G.iaddrM rfl rfl (by omega) (gd8 [] (by omega)) ?_
  refine G.load1F rfl rfl ?_
  refine G.mv rfl ?_
  refine G.iaddrM rfl rfl (by omega) (gd8 false (by omega)) ?_
  refine G.load1F rfl rfl ?_
  refine WpOpsG.nil ?_
  exact ⟨rfl, (by repeat (first | exact LLe.refl _ | refine LLe.cons rfl ?_)), (by repeat (first | exact HLe.refl _ | refine HLe.cons rfl ?_)), rfl⟩
 refine G.mv rfl ?_
 refine WpOpsG.nil ?_
 change WpG _ _ _ _ _
 refine WpG.ret ?_
 refine ⟨_, [], rfl, (hasP_le (by repeat (first | exact trivial | refine ⟨rfl, ?_⟩))), rfl, rfl, rfl, ?_⟩
 exact ⟨rfl, rfl⟩
theorem depends_ok (dep : List (List Bool)) (a b : Int) (hd : dep.length ≤ 2 ^ 50) (hd2 : ∀ r ∈ dep, r.length ≤ 2 ^ 50) : WpCallG A 44 [.fsl 1 (dep.map encBs), .v (.int .i64 a), .v (.int .i64 b)] [] (fun v H => v = .v (.bool (depV8 dep a b)) ∧ H = []) := by
 refine WpCallG.intro g44 rfl rfl ?_
 unfold af44
 change WpG _ _ _ _ _
 refine WpG.seq ?_
 refine WpG.reg ?_
 refine G.mv rfl ?_
 refine WpOpsG.nil ?_
 change WpG _ _ _ _ _
 refine WpG.seq ?_
 refine WpG.reg ?_
 refine G.mv rfl ?_
 refine G.mv rfl ?_
 refine G.bin rfl rfl rfl ?_
 refine G.mv rfl ?_
 apply G.orS rfl rfl rfl rfl rfl rfl
 case hB =>
  intro hs1
  (try simp only [zN] at hs1)
  refine G.mv rfl ?_
  refine G.mv rfl ?_
  refine G.mv rfl ?_
  refine G.call0 rfl rfl (to_ok dep a b hd hd2) ?_
  rintro _ _ ⟨rfl, rfl⟩
  refine ⟨rfl, ?_⟩
  change WpOpsG _ _ ((14, _) :: _) _ _
  refine WpOpsG.nil ?_
  exact ⟨rfl, (by repeat (first | exact LLe.refl _ | refine LLe.cons rfl ?_)), (by repeat (first | exact HLe.refl _ | refine HLe.cons rfl ?_)), rfl⟩
 refine G.mv rfl ?_
 apply G.orS rfl rfl rfl rfl rfl rfl
 case hB =>
  intro hs2
  (try simp only [zN] at hs2)
  refine G.mv rfl ?_
  refine G.mv rfl ?_
  refine G.mv rfl ?_
  refine G.call0 rfl rfl (to_ok dep b a hd hd2) ?_
  rintro _ _ ⟨rfl, rfl⟩
  refine ⟨rfl, ?_⟩
  change WpOpsG _ _ ((20, _) :: _) _ _
  refine WpOpsG.nil ?_
  exact ⟨rfl, (by repeat (first | exact LLe.refl _ | refine LLe.cons rfl ?_)), (by repeat (first | exact HLe.refl _ | refine HLe.cons rfl ?_)), rfl⟩
 refine G.mv rfl ?_
 refine WpOpsG.nil ?_
 change WpG _ _ _ _ _
 refine WpG.ret ?_
 refine ⟨_, [], rfl, (hasP_le (by repeat (first | exact trivial | refine ⟨rfl, ?_⟩))), rfl, rfl, rfl, ?_⟩
 exact ⟨rfl, rfl⟩
theorem rdepends_ok (dep : List (List Bool)) (a b : Int) (hd : dep.length ≤ 2 ^ 50) (hsq : ∀ r ∈ dep, r.length = dep.length) : WpCallG A 51 [.fsl 1 (dep.map encBs), .v (.int .i64 a), .v (.int .i64 b)] [] (fun v H => v = .v (.bool (depV8 dep a b)) ∧ H = []) := by
 have hrow : ∀ i : Nat, i < dep.length → (dep.getD i []).length = dep.length := fun i hi => hsq _ (by rw [List.getD_eq_getElem?_getD, List.getElem?_eq_getElem hi]; exact List.getElem_mem hi)
 refine WpCallG.intro g51 rfl rfl ?_
 unfold af51
 change WpG _ _ _ _ _
 refine WpG.seq ?_
 refine WpG.reg ?_
 refine G.mv rfl ?_
 refine WpOpsG.nil ?_
 change WpG _ _ _ _ _
 refine WpG.seq ?_
 refine WpG.seq ?_
 refine WpG.reg ?_
 refine G.mv rfl ?_
 refine G.mv rfl ?_
 refine G.bin rfl rfl rfl ?_
 refine WpOpsG.nil ?_
 change WpG _ _ _ _ _
 refine WpG.cond rfl (fun hq1 => ?_) (fun hq1 => ?_)
 ·(try simp only [zN] at hq1)
  refine WpG.seq ?_
  refine WpG.reg ?_
  refine G.mv rfl ?_
  refine WpOpsG.nil ?_
  change WpG _ _ _ _ _
  refine WpG.ret ?_
  refine ⟨_, [], rfl, (hasP_le (by repeat (first | exact trivial | refine ⟨rfl, ?_⟩))), rfl, rfl, rfl, ?_⟩
  have e : depV8 dep a b = true := by unfold depV8; rw [show a = b by omega]; simp
  rw [e]; exact ⟨rfl, rfl⟩
 ·(try simp only [zN] at hq1)
  refine WpG.skip ?_
  change WpG _ _ _ _ _
  refine WpG.seq ?_
  refine WpG.reg ?_
  refine G.mv rfl ?_
  refine G.bin rfl rfl rfl ?_
  refine G.mv rfl ?_
  apply G.andS rfl rfl rfl rfl rfl rfl
  case hB =>
   intro hs2
   (try simp only [zN] at hs2)
   refine G.mv rfl ?_
   refine G.bin rfl rfl rfl ?_
   refine WpOpsG.nil ?_
   exact ⟨rfl, (by repeat (first | exact LLe.refl _ | refine LLe.cons rfl ?_)), (by repeat (first | exact HLe.refl _ | refine HLe.cons rfl ?_)), rfl⟩
  refine G.mv rfl ?_
  apply G.andS rfl rfl rfl rfl rfl rfl
  case hB =>
   intro hs3
   (try simp only [zN] at hs3)
   refine G.mv rfl ?_
   refine G.mv rfl ?_
   refine G.lenM rfl ?_
   refine G.bin rfl rfl rfl ?_
   refine WpOpsG.nil ?_
   exact ⟨rfl, (by repeat (first | exact LLe.refl _ | refine LLe.cons rfl ?_)), (by repeat (first | exact HLe.refl _ | refine HLe.cons rfl ?_)), rfl⟩
  refine G.mv rfl ?_
  apply G.andS rfl rfl rfl rfl rfl rfl
  case hB =>
   intro hs4
   (try simp only [zN] at hs4)
   refine G.mv rfl ?_
   refine G.mv rfl ?_
   refine G.lenM rfl ?_
   refine G.bin rfl rfl rfl ?_
   refine WpOpsG.nil ?_
   exact ⟨rfl, (by repeat (first | exact LLe.refl _ | refine LLe.cons rfl ?_)), (by repeat (first | exact HLe.refl _ | refine HLe.cons rfl ?_)), rfl⟩
  refine G.mv rfl ?_
  apply G.andS rfl rfl rfl rfl rfl rfl
  case hB =>
   intro hs5
   (try simp only [zN] at hs5)
   refine G.mv rfl ?_
   refine G.mv rfl ?_
   refine G.iaddrM rfl rfl (by omega) (gd8 [] (by omega)) ?_
   refine G.load1F rfl rfl ?_
   refine G.mv rfl ?_
   refine G.iaddrM rfl rfl (by omega) (gd8 false (by rw [hrow _ (by omega)]; omega)) ?_
   refine G.load1F rfl rfl ?_
   refine G.mv rfl ?_
   apply G.orS rfl rfl rfl rfl rfl rfl
   case hB =>
    intro hs6
    (try simp only [zN] at hs6)
    refine G.mv rfl ?_
    refine G.mv rfl ?_
    refine G.iaddrM rfl rfl (by omega) (gd8 [] (by omega)) ?_
    refine G.load1F rfl rfl ?_
    refine G.mv rfl ?_
    refine G.iaddrM rfl rfl (by omega) (gd8 false (by rw [hrow _ (by omega)]; omega)) ?_
    refine G.load1F rfl rfl ?_
    refine WpOpsG.nil ?_
    exact ⟨rfl, (by repeat (first | exact LLe.refl _ | refine LLe.cons rfl ?_)), (by repeat (first | exact HLe.refl _ | refine HLe.cons rfl ?_)), rfl⟩
   refine WpOpsG.nil ?_
   exact ⟨rfl, (by repeat (first | exact LLe.refl _ | refine LLe.cons rfl ?_)), (by repeat (first | exact HLe.refl _ | refine HLe.cons rfl ?_)), rfl⟩
  refine G.mv rfl ?_
  refine WpOpsG.nil ?_
  change WpG _ _ _ _ _
  refine WpG.ret ?_
  refine ⟨_, [], rfl, (hasP_le (by repeat (first | exact trivial | refine ⟨rfl, ?_⟩))), rfl, rfl, rfl, ?_⟩
  rw [← rdep_val hsq (by omega)]; exact ⟨rfl, rfl⟩
end Go.AM.L10
