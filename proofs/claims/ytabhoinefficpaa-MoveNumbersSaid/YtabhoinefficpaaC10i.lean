/- Contracts of the functions that the statement reaches. No condition. -/
import Derived.Test.YtabhoinefficpaaC10h
import Derived.Test.YtabhoinefficpaaC10e
import Derived.Test.YtabhoinefficpaaK10d
set_option linter.all false
set_option maxRecDepth 10000
namespace Go.AM.L10
open Go.AM.PL
theorem fits_ok (P : List Pt) (C : List Ch) (ts : List (List GV)) (l : List Rn) (mi mj : Int) (mr : Bool) (hP : P.length ≤ 2 ^ 30) (hC : C.length ≤ 2 ^ 30) (hPp : ∀ p ∈ P, i64 p.per) (hn : l.length ≤ 4096) (hl : ∀ r ∈ l, okN r) (hw : wlen l ≤ 8192) : WpCallG A 29 [.agg [.fsl 11 (P.map encP), .fsl 6 (C.map encC), .fsl 1 ts], .fsl 2 (l.map encN), .agg [.v (.int .i64 mi), .v (.int .i64 mj), .v (.bool mr)]] [] (fun v H => v = .v (.bool (fitV P C l mi mj mr)) ∧ H = []) := by
 refine WpCallG.intro g29 rfl rfl ?_
 unfold af29
 change WpG _ _ _ _ _
 refine WpG.seq ?_
 refine WpG.reg ?_
 refine G.box (g := 10) rfl rfl rfl ?_
 refine G.box (g := 11) rfl rfl rfl ?_
 refine G.mv rfl ?_
 refine WpOpsG.nil ?_
 change WpG _ _ _ _ _
 refine WpG.seq ?_
 refine WpG.reg ?_
 refine G.mv rfl ?_
 refine G.loadNB rfl rfl rfl ?_
 refine G.loadNB rfl rfl rfl ?_
 refine G.ckcall0 rfl rfl rfl (gdep_ok P C ts hP hC) ?_
 rintro _ _ ⟨rfl, rfl⟩
 refine ⟨rfl, ?_⟩
 change WpOpsG _ _ ((9, _) :: _) _ _
 refine G.call0 rfl rfl (may_ok l (matF P.length (depG P C)) mi mj mr (by omega) (by rw [matF_len]; omega) (fun r hr => by rw [matF_rows r hr]; omega)) ?_
 rintro _ _ ⟨rfl, rfl⟩
 refine ⟨rfl, ?_⟩
 change WpOpsG _ _ ((11, _) :: _) _ _
 refine G.mv rfl ?_
 apply G.andS rfl rfl rfl rfl rfl rfl
 case hB =>
  intro hs1
  (try simp only [zN] at hs1)
  refine G.loadNB rfl rfl rfl ?_
  refine G.mv rfl ?_
  have hD := do_wlen (r := mr) (may_plc hs1) hl hw
  refine G.loadNB rfl rfl rfl ?_
  refine G.ckcall0 rfl rfl rfl ((do_ok l mi mj mr (by omega) hl).ren [(0, 20)]) ?_
  rintro _ _ ⟨_, _, ⟨rfl, rfl⟩, rfl, rfl⟩
  change newOk _ _ [(20, _)] = true ∧ _
  refine ⟨rfl, ?_⟩
  change WpOpsG _ _ ((16, .osl 20) :: _) ([(20, .arr .yes 2 ((doV l mi mj mr).map encN))] ++ _) _
  refine WpOpsG.freeze 20 rfl ?_
  refine G.call0 rfl rfl (holds_ok C P ts (doV l mi mj mr) (by omega) (by omega) hPp (by omega) hD.2.1 hD.2.2.1 (by omega)) ?_
  rintro _ _ ⟨rfl, rfl⟩
  refine ⟨rfl, ?_⟩
  change WpOpsG _ _ ((17, _) :: _) _ _
  refine G.bin rfl rfl rfl ?_
  refine WpOpsG.nil ?_
  exact ⟨rfl, (by repeat (first | exact LLe.refl _ | refine LLe.cons rfl ?_)), (by repeat (first | exact HLe.refl _ | refine HLe.cons rfl ?_)), rfl⟩
 refine G.mv rfl ?_
 refine WpOpsG.nil ?_
 change WpG _ _ _ _ _
 refine WpG.ret ?_
 refine ⟨_, [], rfl, (hasP_le (by repeat (first | exact trivial | refine ⟨rfl, ?_⟩))), rfl, rfl, rfl, ?_⟩
 exact ⟨rfl, rfl⟩
theorem rfits_ok (P : List Pt) (C : List Ch) (ts : List (List GV)) (l : List Rn) (mi mj : Int) (mr : Bool) (hP : P.length ≤ 2 ^ 30) (hC : C.length ≤ 2 ^ 30) (hPp : ∀ p ∈ P, i64 p.per) (hn : l.length ≤ 4096) (hl : ∀ r ∈ l, okN r) (hw : wlen l ≤ 8192) : WpCallG A 30 [.agg [.fsl 11 (P.map encP), .fsl 6 (C.map encC), .fsl 1 ts], .fsl 2 (l.map encN), .agg [.v (.int .i64 mi), .v (.int .i64 mj), .v (.bool mr)]] [] (fun v H => v = .v (.bool (fitV P C l mi mj mr)) ∧ H = []) := by
 refine WpCallG.intro g30 rfl rfl ?_
 unfold af30
 change WpG _ _ _ _ _
 refine WpG.seq ?_
 refine WpG.reg ?_
 refine G.box (g := 10) rfl rfl rfl ?_
 refine G.box (g := 11) rfl rfl rfl ?_
 refine G.mv rfl ?_
 refine WpOpsG.nil ?_
 change WpG _ _ _ _ _
 refine WpG.seq ?_
 refine WpG.reg ?_
 refine G.mv rfl ?_
 refine G.loadNB rfl rfl rfl ?_
 refine G.loadNB rfl rfl rfl ?_
 refine G.ckcall0 rfl rfl rfl (rdep_ok P C ts hP hC) ?_
 rintro _ _ ⟨rfl, rfl⟩
 refine ⟨rfl, ?_⟩
 change WpOpsG _ _ ((9, _) :: _) _ _
 refine G.call0 rfl rfl (rmay_ok l (matF P.length (depG P C)) mi mj mr (by omega) (by rw [matF_len]; omega) (fun r hr => by rw [matF_rows r hr, matF_len])) ?_
 rintro _ _ ⟨rfl, rfl⟩
 refine ⟨rfl, ?_⟩
 change WpOpsG _ _ ((11, _) :: _) _ _
 refine G.mv rfl ?_
 apply G.andS rfl rfl rfl rfl rfl rfl
 case hB =>
  intro hs1
  (try simp only [zN] at hs1)
  refine G.loadNB rfl rfl rfl ?_
  refine G.mv rfl ?_
  have hD := do_wlen (r := mr) (may_plc hs1) hl hw
  refine G.loadNB rfl rfl rfl ?_
  refine G.ckcall0 rfl rfl rfl ((rdo_ok l mi mj mr (by omega) hl).ren [(0, 20)]) ?_
  rintro _ _ ⟨_, _, ⟨rfl, rfl⟩, rfl, rfl⟩
  change newOk _ _ [(20, _)] = true ∧ _
  refine ⟨rfl, ?_⟩
  change WpOpsG _ _ ((16, .osl 20) :: _) ([(20, .arr .yes 2 ((doV l mi mj mr).map encN))] ++ _) _
  refine WpOpsG.freeze 20 rfl ?_
  refine G.call0 rfl rfl (rholds_ok C P ts (doV l mi mj mr) (by omega) (by omega) hPp (by omega) hD.2.2.1 (by omega)) ?_
  rintro _ _ ⟨rfl, rfl⟩
  refine ⟨rfl, ?_⟩
  change WpOpsG _ _ ((17, _) :: _) _ _
  refine G.bin rfl rfl rfl ?_
  refine WpOpsG.nil ?_
  exact ⟨rfl, (by repeat (first | exact LLe.refl _ | refine LLe.cons rfl ?_)), (by repeat (first | exact HLe.refl _ | refine HLe.cons rfl ?_)), rfl⟩
 refine G.mv rfl ?_
 refine WpOpsG.nil ?_
 change WpG _ _ _ _ _
 refine WpG.ret ?_
 refine ⟨_, [], rfl, (hasP_le (by repeat (first | exact trivial | refine ⟨rfl, ?_⟩))), rfl, rfl, rfl, ?_⟩
 exact ⟨rfl, rfl⟩
theorem known10_ok  : WpCallG A 12 [] [] (fun v H => v = .v (.bool true) ∧ H = []) := by
 refine WpCallG.intro g12 rfl rfl ?_
 unfold af12
 change WpG _ _ _ _ _
 refine WpG.seq ?_
 refine WpG.reg ?_
 refine G.mv rfl ?_
 refine WpOpsG.nil ?_
 change WpG _ _ _ _ _
 refine WpG.seq ?_
 refine WpG.reg ?_
 refine G.build rfl ?_
 refine G.build rfl ?_
 refine G.build rfl ?_
 refine G.bsliceF rfl rfl rfl ?_
 change WpOpsG _ _ ((9, .fsl 2 (kl10.map encN)) :: _) _ _
 refine G.mv rfl ?_
 refine WpOpsG.nil ?_
 change WpG _ _ _ _ _
 refine WpG.seq ?_
 refine WpG.reg ?_
 refine G.mv rfl ?_
 refine G.call0 rfl rfl (nil2 (all_ok kl10 [] (by decide) (by decide) (by decide))) ?_
 rintro _ _ ⟨rfl, rfl⟩
 refine ⟨rfl, ?_⟩
 change WpOpsG _ _ ((11, _) :: _) _ _
 rw [show allV kl10 [] = [⟨0, 2, false⟩, ⟨0, 2, true⟩] by decide +kernel]
 refine G.mv rfl ?_
 refine WpOpsG.nil ?_
 change WpG _ _ _ _ _
 refine WpG.seq ?_
 refine WpG.reg ?_
 refine G.mv rfl ?_
 refine G.build rfl ?_
 refine G.call0 rfl rfl ((do_ok kl10 0 2 false (by decide) (fun r hr => (kl10_ok r hr).1)).ren [(0, 20)]) ?_
 rintro _ _ ⟨_, _, ⟨rfl, rfl⟩, rfl, rfl⟩
 change newOk _ _ [(20, _)] = true ∧ _
 rw [show doV kl10 0 2 false = ([⟨0, 4⟩, ⟨1, 2⟩] : List Rn) by decide +kernel]
 refine ⟨rfl, ?_⟩
 change WpOpsG _ _ ((14, .osl 20) :: _) ([(20, .arr .yes 2 ((([⟨0, 4⟩, ⟨1, 2⟩] : List Rn)).map encN))] ++ _) _
 refine WpOpsG.freeze 20 rfl ?_
 refine G.mv rfl ?_
 refine WpOpsG.nil ?_
 change WpG _ _ _ _ _
 refine WpG.seq ?_
 refine WpG.reg ?_
 refine G.mv rfl ?_
 refine G.build rfl ?_
 refine G.call0 rfl rfl ((do_ok kl10 0 2 true (by decide) (fun r hr => (kl10_ok r hr).1)).ren [(0, 21)]) ?_
 rintro _ _ ⟨_, _, ⟨rfl, rfl⟩, rfl, rfl⟩
 change newOk _ _ [(21, _)] = true ∧ _
 rw [show doV kl10 0 2 true = ([⟨1, 2⟩, ⟨0, 4⟩] : List Rn) by decide +kernel]
 refine ⟨rfl, ?_⟩
 change WpOpsG _ _ ((17, .osl 21) :: _) ([(21, .arr .yes 2 ((([⟨1, 2⟩, ⟨0, 4⟩] : List Rn)).map encN))] ++ _) _
 refine WpOpsG.freeze 21 rfl ?_
 refine G.mv rfl ?_
 refine WpOpsG.nil ?_
 change WpG _ _ _ _ _
 refine WpG.seq ?_
 refine WpG.reg ?_
 refine G.mkslice (g := 30) rfl rfl (by omega) (by omega) (by omega) (by omega) rfl rfl rfl rfl ?_
 refine WpOpsG.anyO 30 5 rfl ?_
 change WpOpsG _ _ _ ((30, .arr .yes 11 (zP2.map encP)) :: _) _
 refine WpOpsG.freeze 30 rfl ?_
 refine G.build rfl ?_
 refine G.box (g := 10) rfl rfl rfl ?_
 refine G.storeB rfl rfl rfl rfl rfl rfl ?_
 refine WpOpsG.nil ?_
 change WpG _ _ _ _ _
 refine WpG.seq ?_
 refine WpG.reg ?_
 refine G.mv rfl ?_
 refine G.lenM rfl ?_
 refine G.bin rfl rfl rfl ?_
 refine G.mv rfl ?_
 refine WpOpsG.known 23 true rfl rfl ?_
 refine G.mv rfl ?_
 refine G.iaddrN rfl rfl (List.getElem?_eq_getElem (by (simp only [List.length_map, List.length_append, List.length_cons, List.length_nil, List.length_replicate, List.length_take, List.length_drop, List.length_set]; omega))) ?_
 refine G.faddrF rfl ?_
 refine G.load1F rfl rfl ?_
 refine G.un rfl rfl ?_
 refine G.pickT rfl rfl ?_
 refine G.mv rfl ?_
 refine WpOpsG.known 30 true rfl rfl ?_
 refine G.mv rfl ?_
 refine G.iaddrN rfl rfl (List.getElem?_eq_getElem (by (simp only [List.length_map, List.length_append, List.length_cons, List.length_nil, List.length_replicate, List.length_take, List.length_drop, List.length_set]; omega))) ?_
 refine G.faddrF rfl ?_
 refine G.load1F rfl rfl ?_
 refine G.pickT rfl rfl ?_
 refine G.mv rfl ?_
 refine WpOpsG.known 36 true rfl rfl ?_
 refine G.mv rfl ?_
 refine G.lenM rfl ?_
 refine G.bin rfl rfl rfl ?_
 refine G.pickT rfl rfl ?_
 refine G.mv rfl ?_
 refine WpOpsG.known 41 true rfl rfl ?_
 refine G.mv rfl ?_
 refine G.iaddrN rfl rfl (List.getElem?_eq_getElem (by (simp only [List.length_map, List.length_append, List.length_cons, List.length_nil, List.length_replicate, List.length_take, List.length_drop, List.length_set]; omega))) ?_
 refine G.loadNF rfl rfl ?_
 refine G.build rfl ?_
 refine G.beq rfl rfl rfl ?_
 refine G.pickT rfl rfl ?_
 refine G.mv rfl ?_
 refine WpOpsG.known 48 true rfl rfl ?_
 refine G.mv rfl ?_
 refine G.iaddrN rfl rfl (List.getElem?_eq_getElem (by (simp only [List.length_map, List.length_append, List.length_cons, List.length_nil, List.length_replicate, List.length_take, List.length_drop, List.length_set]; omega))) ?_
 refine G.loadNF rfl rfl ?_
 refine G.build rfl ?_
 refine G.beq rfl rfl rfl ?_
 refine G.pickT rfl rfl ?_
 refine G.mv rfl ?_
 refine WpOpsG.known 55 true rfl rfl ?_
 refine G.mv rfl ?_
 refine G.slF rfl (bndG_some rfl (by decide)) rfl ?_
 change WpOpsG _ _ ((57, .fsl 2 (([⟨0, 1⟩] : List Rn).map encN)) :: _) _ _
 refine G.call0 rfl rfl (nil2 (all_ok [⟨0, 1⟩] [] (by decide) (by decide) (by decide))) ?_
 rintro _ _ ⟨rfl, rfl⟩
 refine ⟨rfl, ?_⟩
 change WpOpsG _ _ ((58, _) :: _) _ _
 rw [show allV [⟨0, 1⟩] [] = [] by decide +kernel]
 refine G.lenM rfl ?_
 refine G.bin rfl rfl rfl ?_
 refine G.pickT rfl rfl ?_
 refine G.mv rfl ?_
 refine WpOpsG.known 62 true rfl rfl ?_
 refine G.mv rfl ?_
 refine G.build rfl ?_
 refine G.call0 rfl rfl (nil2 (may_ok kl10 [] 0 0 false (by decide) (by decide) (by decide))) ?_
 rintro _ _ ⟨rfl, rfl⟩
 refine ⟨rfl, ?_⟩
 change WpOpsG _ _ ((65, _) :: _) _ _
 rw [show mayV kl10 [] 0 0 = false by decide +kernel]
 refine G.un rfl rfl ?_
 refine G.pickT rfl rfl ?_
 refine G.mv rfl ?_
 refine WpOpsG.known 68 true rfl rfl ?_
 refine G.mv rfl ?_
 refine G.bsliceF rfl rfl rfl ?_
 refine G.bsliceF rfl rfl rfl ?_
 refine G.bsliceF rfl rfl rfl ?_
 change WpOpsG _ _ ((72, .fsl 1 (([[true, true], [true, true]] : List (List Bool)).map encBs)) :: _) _ _
 refine G.mv rfl ?_
 refine G.iaddrN rfl rfl (List.getElem?_eq_getElem (by (simp only [List.length_map, List.length_append, List.length_cons, List.length_nil, List.length_replicate, List.length_take, List.length_drop, List.length_set]; omega))) ?_
 refine G.loadNF rfl rfl ?_
 refine G.call0 rfl rfl ((may_ok kl10 [[true, true], [true, true]] 0 2 false (by decide) (by decide) (by decide))) ?_
 rintro _ _ ⟨rfl, rfl⟩
 refine ⟨rfl, ?_⟩
 change WpOpsG _ _ ((76, _) :: _) _ _
 rw [show mayV kl10 [[true, true], [true, true]] 0 2 = false by decide +kernel]
 refine G.un rfl rfl ?_
 refine G.pickT rfl rfl ?_
 refine G.mv rfl ?_
 refine WpOpsG.known 79 true rfl rfl ?_
 refine G.mv rfl ?_
 refine G.build rfl ?_
 refine G.call0 rfl rfl ((do_ok kl10 5 9 false (by decide) (fun r hr => (kl10_ok r hr).1)).ren [(0, 22)]) ?_
 rintro _ _ ⟨_, _, ⟨rfl, rfl⟩, rfl, rfl⟩
 change newOk _ _ [(22, _)] = true ∧ _
 rw [show doV kl10 5 9 false = kl10 by decide +kernel]
 refine ⟨rfl, ?_⟩
 change WpOpsG _ _ ((82, .osl 22) :: _) ([(22, .arr .yes 2 ((kl10).map encN))] ++ _) _
 refine WpOpsG.freeze 22 rfl ?_
 refine G.lenM rfl ?_
 refine G.bin rfl rfl rfl ?_
 refine G.pickT rfl rfl ?_
 refine G.mv rfl ?_
 refine WpOpsG.known 86 true rfl rfl ?_
 refine G.loadNB rfl rfl rfl ?_
 refine G.mv rfl ?_
 refine G.mv rfl ?_
 refine G.iaddrN rfl rfl (List.getElem?_eq_getElem (by (simp only [List.length_map, List.length_append, List.length_cons, List.length_nil, List.length_replicate, List.length_take, List.length_drop, List.length_set]; omega))) ?_
 refine G.loadNF rfl rfl ?_
 refine G.call0 rfl rfl (cfgNil (fits_ok zP2 [] [] kl10 0 2 false (by decide) (by decide) (by unfold i64; decide) (by decide) (fun r hr => (kl10_ok r hr).1) (by decide +kernel))) ?_
 rintro _ _ ⟨rfl, rfl⟩
 refine ⟨rfl, ?_⟩
 change WpOpsG _ _ ((92, _) :: _) _ _
 rw [show fitV zP2 [] kl10 0 2 false = true by decide +kernel]
 refine G.pickT rfl rfl ?_
 refine G.mv rfl ?_
 refine WpOpsG.nil ?_
 change WpG _ _ _ _ _
 refine WpG.ret ?_
 refine ⟨_, [], rfl, (hasP_le (by repeat (first | exact trivial | refine ⟨rfl, ?_⟩))), rfl, rfl, rfl, ?_⟩
 exact ⟨rfl, rfl⟩
end Go.AM.L10
