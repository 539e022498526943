/- Contracts of the functions that the statement reaches. No condition. -/
import Derived.Test.YtabhoinefficpaaC10j
set_option linter.all false
set_option maxRecDepth 10000
namespace Go.AM.L10
open Go.AM.PL
set_option maxHeartbeats 1000000 in
theorem moveTells_ok (t : List Int) (i j : Int) (right : Bool) (ht : t.length ≤ 2 ^ 50) (hi : ∀ x ∈ t, i64 x) : WpCallG A 4 [.fsl 1 (t.map encK), .v (.int .i64 i), .v (.int .i64 j), .v (.bool right)] [] (fun v H => v = .v (.bool true) ∧ H = []) := by
 refine WpCallG.intro g4 rfl rfl ?_
 unfold af4
 change WpG _ _ _ _ _
 refine WpG.seq ?_
 refine WpG.reg ?_
 refine G.mv rfl ?_
 refine WpOpsG.nil ?_
 change WpG _ _ _ _ _
 refine WpG.seq ?_
 refine WpG.reg ?_
 refine G.mv rfl ?_
 refine G.build rfl ?_
 refine G.box (g := 11) rfl rfl rfl ?_
 change WpOpsG _ _ _ ((11, tbox t 0) :: _) _
 refine G.mv rfl ?_
 refine WpOpsG.nil ?_
 change WpG _ _ _ _ _
 refine WpG.seq ?_
 refine WpG.reg ?_
 refine G.mv rfl ?_
 refine G.call (P := [(11, tbox t 0)]) rfl (by repeat (first | exact trivial | refine ⟨rfl, ?_⟩)) rfl rfl ((config_okP t 0 ht hi (Nat.zero_le _)).ren [(0, 11)]) ?_
 rintro _ _ ⟨_, _, ⟨P, C, tabs, b0, hcf, hb0, rfl, rfl⟩, rfl, rfl⟩
 change newOk _ _ [(11, tbox t b0)] = true ∧ _
 refine ⟨rfl, ?_⟩
 change WpOpsG _ _ ((18, .agg [.fsl 11 (P.map encP), .fsl 6 (C.map encC), .fsl 1 (tabs.map encTb)]) :: _) ([(11, tbox t b0)] ++ _) _
 obtain ⟨⟨⟨hP1, hP4⟩, hPp⟩, ⟨hC20, hCs⟩, ⟨hT1, hT3⟩, hTs⟩ := hcf
 refine G.box (g := 12) rfl rfl rfl ?_
 refine G.storeB rfl rfl rfl rfl rfl rfl ?_
 refine WpOpsG.nil ?_
 change WpG _ _ _ _ _
 refine WpG.seq ?_
 refine WpG.reg ?_
 refine G.mv rfl ?_
 refine G.faddrB rfl ?_
 refine G.load1B rfl rfl rfl ?_
 refine G.lenM rfl ?_
 refine G.call (P := [(11, tbox t b0)]) rfl (by repeat (first | exact trivial | refine ⟨rfl, ?_⟩)) rfl rfl ((truns_ok t b0 (P.length : Int) 14 ht hi hb0 (by omega) (by decide)).ren [(0, 11)]) ?_
 rintro _ _ ⟨_, _, ⟨rfl, rfl⟩, rfl, rfl⟩
 change newOk _ _ [(11, tbox t _)] = true ∧ _
 refine ⟨rfl, ?_⟩
 change WpOpsG _ _ ((23, .fsl 2 ((tapeRuns t b0 (P.length : Int) 14).1.map encN)) :: _) ([(11, tbox t _)] ++ _) _
 have hr := tapeRuns_ok t b0 (P.length : Int) 14 (by omega) (by decide) hb0
 obtain ⟨rs, hrs⟩ : ∃ rs, rs = (tapeRuns t b0 (P.length : Int) 14).1 := ⟨_, rfl⟩
 rw [← hrs] at hr ⊢
 have hrl : rs.length ≤ 14 := by have := hr.2.2.1; omega
 have hrN : ∀ r ∈ rs, okN r := fun r hr2 => by
  have := hr.1 r hr2
  unfold okT at this
  unfold okN i64; omega
 have hrw : wlen rs ≤ 8192 := runs_wlen hr.1 (by omega)
 refine G.mv rfl ?_
 refine WpOpsG.nil ?_
 change WpG _ _ _ _ _
 refine WpG.seq ?_
 refine WpG.reg ?_
 refine G.faddrB rfl ?_
 refine G.load1B rfl rfl rfl ?_
 refine G.iaddrM rfl rfl (by omega) (gd17 [] (by show 0 < _; omega)) ?_
 refine G.load1F rfl rfl ?_
 have htb : (tabs.getD 0 []).length ≤ 2 ^ 20 := by
  have hx := List.getElem?_eq_getElem (l := tabs) (i := 0) (by omega)
  have hy := gd17 (l := tabs) (i := 0) [] (by omega)
  rw [Option.some.inj (hy.symm.trans hx)]
  exact hTs _ (List.getElem_mem _)
 obtain ⟨tb, htbe⟩ : ∃ tb, tabs.getD 0 [] = tb := ⟨_, rfl⟩
 rw [show tabs.getD (Int.toNat 0) [] = tb from htbe]
 rw [htbe] at htb
 change WpOpsG _ _ ((28, .fsl 3 (tb.map encD)) :: _) _ _
 refine G.call0 rfl rfl (of_ok tb (by omega)) ?_
 rintro _ _ ⟨r, e, rfl, rfl, hg⟩
 refine ⟨rfl, ?_⟩
 change WpOpsG _ _ ((29, _) :: _) _ _
 have hg2 := hg.2
 refine G.mv rfl ?_
 refine G.ext rfl rfl ?_
 refine G.ext rfl rfl ?_
 refine G.mv rfl ?_
 refine G.mv rfl ?_
 refine WpOpsG.nil ?_
 change WpG _ _ _ _ _
 refine WpG.seq ?_
 refine WpG.reg ?_
 refine G.mv rfl ?_
 refine G.loadNB rfl rfl rfl ?_
 refine G.mv rfl ?_
 refine G.andK rfl rfl ?_
 refine G.mv rfl ?_
 refine G.andK rfl rfl ?_
 refine G.mv rfl ?_
 refine G.build rfl ?_
 refine G.call0 rfl rfl (same10_ok P C (tabs.map encTb) rs _ _ _ (by omega) (by omega) hPp (by omega) hrN hrw) ?_
 rintro _ _ ⟨rfl, rfl⟩
 refine ⟨rfl, ?_⟩
 change WpOpsG _ _ ((40, _) :: _) _ _
 refine G.mv rfl ?_
 refine WpOpsG.known 41 true rfl rfl ?_
 refine G.mv rfl ?_
 refine G.loadNB rfl rfl rfl ?_
 refine G.mv rfl ?_
 refine G.mv rfl ?_
 refine G.mv rfl ?_
 refine G.build rfl ?_
 refine G.call0 rfl rfl (same10_ok P C (tabs.map encTb) rs _ _ _ (by omega) (by omega) hPp (by omega) hrN hrw) ?_
 rintro _ _ ⟨rfl, rfl⟩
 refine ⟨rfl, ?_⟩
 change WpOpsG _ _ ((48, _) :: _) _ _
 refine G.pickT rfl rfl ?_
 refine G.mv rfl ?_
 refine WpOpsG.known 50 true rfl rfl ?_
 refine G.mv rfl ?_
 refine G.loadNB rfl rfl rfl ?_
 refine G.mv rfl ?_
 refine G.andK rfl rfl ?_
 obtain ⟨p, ep, hp⟩ := and_rng1 i 3 (by decide)
 rw [show andI .i64 i 3 = (p : Int) from ep]
 refine G.mv rfl ?_
 refine G.andK rfl rfl ?_
 rw [show andI .i64 i 3 = (p : Int) from ep]
 refine G.addI rfl rfl (by omega) ?_
 refine G.mv rfl ?_
 refine G.andK rfl rfl ?_
 obtain ⟨q, eq, hq⟩ := and_rng1 j 7 (by decide)
 rw [show andI .i64 j 7 = (q : Int) from eq]
 refine G.addI rfl rfl (by omega) ?_
 refine G.mv rfl ?_
 refine G.build rfl ?_
 refine G.call0 rfl rfl (same10_ok P C (tabs.map encTb) r _ _ _ (by omega) (by omega) hPp (by omega) (fun x hx => (hg.1 x hx).1) (by omega)) ?_
 rintro _ _ ⟨rfl, rfl⟩
 refine ⟨rfl, ?_⟩
 change WpOpsG _ _ ((63, _) :: _) _ _
 refine G.pickT rfl rfl ?_
 refine G.mv rfl ?_
 refine WpOpsG.known 65 true rfl rfl ?_
 refine G.call0 rfl rfl (known10_ok) ?_
 rintro _ _ ⟨rfl, rfl⟩
 refine ⟨rfl, ?_⟩
 change WpOpsG _ _ ((66, _) :: _) _ _
 refine G.pickT rfl rfl ?_
 refine G.mv rfl ?_
 refine WpOpsG.nil ?_
 change WpG _ _ _ _ _
 refine WpG.ret ?_
 refine ⟨_, [], rfl, (hasP_le (by repeat (first | exact trivial | refine ⟨rfl, ?_⟩))), rfl, rfl, rfl, ?_⟩
 exact ⟨rfl, rfl⟩
end Go.AM.L10
