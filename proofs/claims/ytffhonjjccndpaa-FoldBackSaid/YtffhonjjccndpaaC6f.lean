/- Contracts of the functions that the statement reaches. No condition. -/
import Derived.Test.YtffhonjjccndpaaC6e
import Derived.Test.YtffhonjjccndpaaK6b
import Derived.Test.YtffhonjjccndpaaPL6d
set_option linter.all false
set_option maxRecDepth 10000
namespace Go.AM.L6
open Go.AM.PL
theorem known6_ok  : WpCallG A 11 [] [] (fun v H => v = .v (.bool true) ∧ H = []) := by
 have hkl : kl6.length = 6 := rfl
 refine WpCallG.intro g11 rfl rfl ?_
 unfold af11
 change WpG _ _ _ _ _
 refine WpG.seq ?_
 refine WpG.reg ?_
 refine G.mv rfl ?_
 refine WpOpsG.nil ?_
 change WpG _ _ _ _ _
 refine WpG.seq ?_
 refine WpG.reg ?_
 refine G.build rfl ?_
 refine G.build rfl ?_
 refine G.build rfl ?_
 refine G.build rfl ?_
 refine G.build rfl ?_
 refine G.build rfl ?_
 refine G.bsliceF rfl rfl rfl ?_
 change WpOpsG _ _ ((12, .fsl 2 (kl6.map encN)) :: _) _ _
 refine G.mv rfl ?_
 refine WpOpsG.nil ?_
 change WpG _ _ _ _ _
 refine WpG.seq ?_
 refine WpG.reg ?_
 refine G.call0 rfl rfl (nil1 (best6_ok [] (by decide))) ?_
 rintro _ _ ⟨rfl, rfl⟩
 refine ⟨rfl, ?_⟩
 change WpOpsG _ _ ((14, _) :: _) _ _
 rw [show bestR [] = (⟨0, 0, 0, 0⟩ : Ft) by decide +kernel]
 refine G.mv rfl ?_
 refine G.ext rfl rfl ?_
 refine G.ext rfl rfl ?_
 refine G.ext rfl rfl ?_
 refine G.mv rfl ?_
 refine G.mv rfl ?_
 refine G.mv rfl ?_
 refine WpOpsG.nil ?_
 change WpG _ _ _ _ _
 refine WpG.seq ?_
 refine WpG.reg ?_
 refine G.mv rfl ?_
 refine G.call0 rfl rfl (table6_ok kl6 (by decide)) ?_
 rintro _ _ ⟨rfl, rfl⟩
 refine ⟨rfl, ?_⟩
 change WpOpsG _ _ ((19, _) :: _) _ _
 rw [show tableV kl6 = k6t by decide +kernel]
 refine G.mv rfl ?_
 refine WpOpsG.nil ?_
 change WpG _ _ _ _ _
 refine WpG.seq ?_
 refine WpG.reg ?_
 refine G.mv rfl ?_
 refine G.call0 rfl rfl (period6_ok kl6 (by decide)) ?_
 rintro _ _ ⟨rfl, rfl⟩
 refine ⟨rfl, ?_⟩
 change WpOpsG _ _ ((21, _) :: _) _ _
 rw [show perV kl6 = 2 by decide +kernel]
 refine G.bin rfl rfl rfl ?_
 refine G.mv rfl ?_
 refine WpOpsG.known 23 true rfl rfl ?_
 refine G.mv rfl ?_
 refine G.bin rfl rfl rfl ?_
 refine G.pickT rfl rfl ?_
 refine G.mv rfl ?_
 refine WpOpsG.known 27 true rfl rfl ?_
 refine G.mv rfl ?_
 refine G.bin rfl rfl rfl ?_
 refine G.pickT rfl rfl ?_
 refine G.mv rfl ?_
 refine WpOpsG.known 31 true rfl rfl ?_
 refine G.mv rfl ?_
 refine G.bin rfl rfl rfl ?_
 refine G.pickT rfl rfl ?_
 refine G.mv rfl ?_
 refine WpOpsG.known 35 true rfl rfl ?_
 refine G.mv rfl ?_
 refine G.lenM rfl ?_
 refine G.bin rfl rfl rfl ?_
 refine G.pickT rfl rfl ?_
 refine G.mv rfl ?_
 refine WpOpsG.known 40 true rfl rfl ?_
 refine G.mv rfl ?_
 refine G.iaddrF rfl rfl (by omega) rfl ?_
 refine G.loadNF rfl rfl ?_
 refine G.build rfl ?_
 refine G.beq rfl rfl rfl ?_
 refine G.pickT rfl rfl ?_
 refine G.mv rfl ?_
 refine WpOpsG.known 47 true rfl rfl ?_
 refine G.mv rfl ?_
 refine G.slTake (n := 4) rfl rfl (by omega) ?_
 refine G.call0 rfl rfl (table6_ok (kl6.take 4) (by decide)) ?_
 rintro _ _ ⟨rfl, rfl⟩
 refine ⟨rfl, ?_⟩
 change WpOpsG _ _ ((50, _) :: _) _ _
 rw [show tableV (kl6.take 4) = ([⟨3, 0, 4⟩, ⟨1, 0, 1⟩, ⟨1, 1, 1⟩, ⟨1, 0, 1⟩, ⟨1, 1, 1⟩] : List Nd) by decide +kernel]
 refine G.lenM rfl ?_
 refine G.bin rfl rfl rfl ?_
 refine G.pickT rfl rfl ?_
 refine G.mv rfl ?_
 refine WpOpsG.known 54 true rfl rfl ?_
 refine G.mv rfl ?_
 refine G.slTake (n := 1) rfl rfl (by omega) ?_
 refine G.call0 rfl rfl (table6_ok (kl6.take 1) (by decide)) ?_
 rintro _ _ ⟨rfl, rfl⟩
 refine ⟨rfl, ?_⟩
 change WpOpsG _ _ ((57, _) :: _) _ _
 rw [show tableV (kl6.take 1) = ([⟨1, 0, 1⟩] : List Nd) by decide +kernel]
 refine G.lenM rfl ?_
 refine G.bin rfl rfl rfl ?_
 refine G.pickT rfl rfl ?_
 refine G.mv rfl ?_
 refine WpOpsG.known 61 true rfl rfl ?_
 refine G.mv rfl ?_
 refine G.call0 rfl rfl (plain6_ok kl6 (by decide)) ?_
 rintro _ _ ⟨rfl, rfl⟩
 refine ⟨rfl, ?_⟩
 change WpOpsG _ _ ((63, _) :: _) _ _
 rw [show plainV kl6 = ([⟨3, 0, 6⟩, ⟨1, 0, 1⟩, ⟨1, 1, 1⟩, ⟨1, 0, 1⟩, ⟨1, 1, 1⟩, ⟨1, 0, 1⟩, ⟨1, 1, 1⟩] : List Nd) by decide +kernel]
 refine G.lenM rfl ?_
 refine G.bin rfl rfl rfl ?_
 refine G.pickT rfl rfl ?_
 refine G.mv rfl ?_
 refine WpOpsG.known 67 true rfl rfl ?_
 refine G.call0 rfl rfl (nil1 (plain6_ok [] (by decide))) ?_
 rintro _ _ ⟨rfl, rfl⟩
 refine ⟨rfl, ?_⟩
 change WpOpsG _ _ ((68, _) :: _) _ _
 rw [show plainV [] = ([] : List Nd) by decide +kernel]
 refine G.lenM rfl ?_
 refine G.bin rfl rfl rfl ?_
 refine G.pickT rfl rfl ?_
 refine G.mv rfl ?_
 refine WpOpsG.known 72 true rfl rfl ?_
 refine G.call0 rfl rfl (nil1 (period6_ok [] (by decide))) ?_
 rintro _ _ ⟨rfl, rfl⟩
 refine ⟨rfl, ?_⟩
 change WpOpsG _ _ ((73, _) :: _) _ _
 rw [show perV [] = 0 by decide +kernel]
 refine G.bin rfl rfl rfl ?_
 refine G.pickT rfl rfl ?_
 refine G.mv rfl ?_
 refine WpOpsG.nil ?_
 change WpG _ _ _ _ _
 refine WpG.ret ?_
 refine ⟨_, [], rfl, (hasP_le (by repeat (first | exact trivial | refine ⟨rfl, ?_⟩))), rfl, rfl, rfl, ?_⟩
 exact ⟨rfl, rfl⟩
theorem foldBack_ok (t : List Int) (n : Int) (ht : t.length ≤ 2 ^ 50) (hi : ∀ x ∈ t, i64 x) : WpCallG A 3 [.fsl 1 (t.map encK), .v (.int .i64 n)] [] (fun v H => v = .v (.bool true) ∧ H = []) := by
 refine WpCallG.intro g3 rfl rfl ?_
 unfold af3
 change WpG _ _ _ _ _
 refine WpG.seq ?_
 refine WpG.reg ?_
 refine G.mv rfl ?_
 refine WpOpsG.nil ?_
 change WpG _ _ _ _ _
 refine WpG.seq ?_
 refine WpG.reg ?_
 refine G.mv rfl ?_
 refine G.build rfl ?_
 refine G.box (g := 11) rfl rfl rfl ?_
 change WpOpsG _ _ _ ((11, tbox t 0) :: _) _
 refine G.mv rfl ?_
 refine WpOpsG.nil ?_
 change WpG _ _ _ _ _
 refine WpG.seq ?_
 refine WpG.reg ?_
 refine G.mv rfl ?_
 refine G.call (P := [(11, tbox t 0)]) rfl (by repeat (first | exact trivial | refine ⟨rfl, ?_⟩)) rfl rfl ((truns_ok t 0 3 6 ht hi (Nat.zero_le _) (by decide) (by decide)).ren [(0, 11)]) ?_
 rintro _ _ ⟨_, _, ⟨rfl, rfl⟩, rfl, rfl⟩
 change newOk _ _ [(11, tbox t _)] = true ∧ _
 refine ⟨rfl, ?_⟩
 change WpOpsG _ _ ((19, .fsl 2 ((tapeRuns t 0 3 6).1.map encN)) :: _) ([(11, tbox t _)] ++ _) _
 have hA := tapeRuns_ok t 0 3 6 (by decide) (by decide) (Nat.zero_le _)
 obtain ⟨A, hAs⟩ : ∃ rs, rs = (tapeRuns t 0 3 6).1 := ⟨_, rfl⟩
 rw [← hAs] at hA ⊢
 have hAl : A.length ≤ 6 := by have := hA.2.2.1; omega
 refine G.mv rfl ?_
 refine G.call (P := [(11, tbox t (tapeRuns t 0 3 6).2)]) rfl (by repeat (first | exact trivial | refine ⟨rfl, ?_⟩)) rfl rfl ((truns_ok t (tapeRuns t 0 3 6).2 3 6 ht hi hA.2.2.2 (by decide) (by decide)).ren [(0, 11)]) ?_
 rintro _ _ ⟨_, _, ⟨rfl, rfl⟩, rfl, rfl⟩
 change newOk _ _ [(11, tbox t _)] = true ∧ _
 refine ⟨rfl, ?_⟩
 change WpOpsG _ _ ((21, .fsl 2 ((tapeRuns t (tapeRuns t 0 3 6).2 3 6).1.map encN)) :: _) ([(11, tbox t _)] ++ _) _
 have hL := tapeRuns_ok t (tapeRuns t 0 3 6).2 3 6 (by decide) (by decide) hA.2.2.2
 obtain ⟨L, hLs⟩ : ∃ rs, rs = (tapeRuns t (tapeRuns t 0 3 6).2 3 6).1 := ⟨_, rfl⟩
 rw [← hLs] at hL ⊢
 have hLl : L.length ≤ 6 := by have := hL.2.2.1; omega
 refine G.mv rfl ?_
 refine G.mv rfl ?_
 refine WpOpsG.nil ?_
 change WpG _ _ _ _ _
 refine WpG.seq ?_
 refine WpG.reg ?_
 refine G.mv rfl ?_
 refine G.mv rfl ?_
 refine G.mv rfl ?_
 refine G.mv rfl ?_
 refine G.andK rfl rfl ?_
 obtain ⟨q, eq, hq⟩ := and_rng1 n 7 (by decide)
 rw [show andI .i64 n 7 = (q : Int) from eq]
 refine G.addI rfl rfl (by omega) ?_
 refine G.call0 rfl rfl ((again6_ok A L A (1 + (q : Int)) (by omega) (by omega) (by omega) (by omega)).ren [(0, 20)]) ?_
 rintro _ _ ⟨_, _, ⟨m, hag, rfl, rfl⟩, rfl, rfl⟩
 change newOk _ _ [(20, _)] = true ∧ _
 refine ⟨rfl, ?_⟩
 change WpOpsG _ _ ((28, .osl 20) :: _) ([(20, .arr .yes 2 ((A ++ repR m L ++ A).map encN))] ++ _) _
 refine WpOpsG.freeze 20 rfl ?_
 have hbr := back_row hA.1 hL.1 hAl hLl hag
 obtain ⟨row0, hrow0⟩ : ∃ r, (A ++ repR m L ++ A) = r := ⟨_, rfl⟩
 rw [hrow0] at hbr ⊢
 change WpOpsG _ _ ((28, .fsl 2 (row0.map encN)) :: _) _ _
 refine G.call0 rfl rfl ((rtidy_ok row0 (by omega) hbr.1).ren [(0, 21)]) ?_
 rintro _ _ ⟨_, _, ⟨rfl, rfl⟩, rfl, rfl⟩
 change newOk _ _ [(21, _)] = true ∧ _
 refine ⟨rfl, ?_⟩
 change WpOpsG _ _ ((29, .osl 21) :: _) ([(21, .arr .yes 2 ((tidyV row0).map encN))] ++ _) _
 refine WpOpsG.freeze 21 rfl ?_
 have hll := tidyV_len row0
 have hts := tidy_idem hbr.1
 obtain ⟨row, hrow⟩ : ∃ r, tidyV row0 = r := ⟨_, rfl⟩
 rw [hrow] at hll hts ⊢
 change WpOpsG _ _ ((29, .fsl 2 (row.map encN)) :: _) _ _
 refine G.mv rfl ?_
 refine WpOpsG.nil ?_
 change WpG _ _ _ _ _
 refine WpG.seq ?_
 refine WpG.seq ?_
 refine WpG.reg ?_
 refine G.mv rfl ?_
 refine G.call0 rfl rfl (refRuns_ok row (by omega)) ?_
 rintro _ _ ⟨rfl, rfl⟩
 refine ⟨rfl, ?_⟩
 change WpOpsG _ _ ((31, _) :: _) _ _
 refine G.un rfl rfl ?_
 refine WpOpsG.nil ?_
 change WpG _ _ _ _ _
 refine WpG.cond rfl (fun hq1 => ?_) (fun hq1 => ?_)
 ·(try simp only [zN] at hq1)
  have hno := hq1
  refine WpG.seq ?_
  refine WpG.reg ?_
  refine G.mv rfl ?_
  refine G.call0 rfl rfl (table6_ok row (by omega)) ?_
  rintro _ _ ⟨rfl, rfl⟩
  refine ⟨rfl, ?_⟩
  change WpOpsG _ _ ((34, _) :: _) _ _
  rw [table_no (by rw [hno]; decide)]
  refine G.lenM rfl ?_
  refine G.bin rfl rfl rfl ?_
  refine G.mv rfl ?_
  refine WpOpsG.known 37 true rfl rfl ?_
  refine G.call0 rfl rfl (known6_ok) ?_
  rintro _ _ ⟨rfl, rfl⟩
  refine ⟨rfl, ?_⟩
  change WpOpsG _ _ ((38, _) :: _) _ _
  refine G.pickT rfl rfl ?_
  refine G.mv rfl ?_
  refine WpOpsG.nil ?_
  change WpG _ _ _ _ _
  refine WpG.ret ?_
  refine ⟨_, [], rfl, (hasP_le (by repeat (first | exact trivial | refine ⟨rfl, ?_⟩))), rfl, rfl, rfl, ?_⟩
  exact ⟨rfl, rfl⟩
 ·(try simp only [zN] at hq1)
  have hyes := hq1
  have hb := fold_back hyes hts
  have hb3 := hb.2.2.1
  have hb4 := hb.2.2.2
  refine WpG.skip ?_
  change WpG _ _ _ _ _
  refine WpG.seq ?_
  refine WpG.reg ?_
  refine G.mv rfl ?_
  refine G.call0 rfl rfl (table6_ok row (by omega)) ?_
  rintro _ _ ⟨rfl, rfl⟩
  refine ⟨rfl, ?_⟩
  change WpOpsG _ _ ((41, _) :: _) _ _
  refine G.mv rfl ?_
  refine WpOpsG.nil ?_
  change WpG _ _ _ _ _
  refine WpG.seq ?_
  refine WpG.reg ?_
  refine G.mv rfl ?_
  refine G.call0 rfl rfl (plain6_ok row (by omega)) ?_
  rintro _ _ ⟨rfl, rfl⟩
  refine ⟨rfl, ?_⟩
  change WpOpsG _ _ ((43, _) :: _) _ _
  refine G.mv rfl ?_
  refine WpOpsG.nil ?_
  change WpG _ _ _ _ _
  refine WpG.seq ?_
  refine WpG.reg ?_
  refine G.mv rfl ?_
  refine G.call0 rfl rfl (ofX_ok (tableV row) (by omega)) ?_
  rintro _ _ ⟨rfl, rfl⟩
  refine ⟨rfl, ?_⟩
  change WpOpsG _ _ ((46, _) :: _) _ _
  rw [hb.1.1, hb.1.2]
  refine G.mv rfl ?_
  refine G.ext rfl rfl ?_
  refine G.ext rfl rfl ?_
  refine G.mv rfl ?_
  refine G.mv rfl ?_
  refine WpOpsG.nil ?_
  change WpG _ _ _ _ _
  refine WpG.seq ?_
  refine WpG.reg ?_
  refine G.mv rfl ?_
  refine G.call0 rfl rfl (ofX_ok (plainV row) (by omega)) ?_
  rintro _ _ ⟨rfl, rfl⟩
  refine ⟨rfl, ?_⟩
  change WpOpsG _ _ ((51, _) :: _) _ _
  rw [hb.2.1.1, hb.2.1.2]
  refine G.mv rfl ?_
  refine G.ext rfl rfl ?_
  refine G.ext rfl rfl ?_
  refine G.mv rfl ?_
  refine G.mv rfl ?_
  refine WpOpsG.nil ?_
  change WpG _ _ _ _ _
  refine WpG.seq ?_
  refine WpG.reg ?_
  refine G.mv rfl ?_
  refine G.bin rfl rfl rfl ?_
  refine G.mv rfl ?_
  refine WpOpsG.known 56 true rfl rfl ?_
  refine G.mv rfl ?_
  refine G.bin rfl rfl rfl ?_
  refine G.pickT rfl rfl ?_
  refine G.mv rfl ?_
  refine WpOpsG.known 60 true rfl rfl ?_
  refine G.mv rfl ?_
  refine G.mv rfl ?_
  refine G.call0 rfl rfl (refSame_ok row row (by omega) (by omega)) ?_
  rintro _ _ ⟨rfl, rfl⟩
  refine ⟨rfl, ?_⟩
  change WpOpsG _ _ ((63, _) :: _) _ _
  rw [decide_eq_true rfl]
  refine G.pickT rfl rfl ?_
  refine G.mv rfl ?_
  refine WpOpsG.known 65 true rfl rfl ?_
  refine G.mv rfl ?_
  refine G.mv rfl ?_
  refine G.call0 rfl rfl (refSame_ok row row (by omega) (by omega)) ?_
  rintro _ _ ⟨rfl, rfl⟩
  refine ⟨rfl, ?_⟩
  change WpOpsG _ _ ((68, _) :: _) _ _
  rw [decide_eq_true rfl]
  refine G.pickT rfl rfl ?_
  refine G.mv rfl ?_
  refine WpOpsG.known 70 true rfl rfl ?_
  refine G.mv rfl ?_
  refine G.lenM rfl ?_
  refine G.mv rfl ?_
  refine G.lenM rfl ?_
  refine G.bin rfl rfl rfl ?_
  rw [decide_eq_true (by have := hb.2.2.1; omega)]
  refine G.pickT rfl rfl ?_
  refine G.mv rfl ?_
  refine WpOpsG.known 77 true rfl rfl ?_
  refine G.mv rfl ?_
  refine G.lenM rfl ?_
  refine G.mv rfl ?_
  refine G.lenM rfl ?_
  refine G.addI rfl rfl (by omega) ?_
  refine G.bin rfl rfl rfl ?_
  rw [decide_eq_true (by have := hb.2.2.2; omega)]
  refine G.pickT rfl rfl ?_
  refine G.mv rfl ?_
  refine WpOpsG.known 85 true rfl rfl ?_
  refine G.call0 rfl rfl (known6_ok) ?_
  rintro _ _ ⟨rfl, rfl⟩
  refine ⟨rfl, ?_⟩
  change WpOpsG _ _ ((86, _) :: _) _ _
  refine G.pickT rfl rfl ?_
  refine G.mv rfl ?_
  refine WpOpsG.nil ?_
  change WpG _ _ _ _ _
  refine WpG.ret ?_
  refine ⟨_, [], rfl, (hasP_le (by repeat (first | exact trivial | refine ⟨rfl, ?_⟩))), rfl, rfl, rfl, ?_⟩
  exact ⟨rfl, rfl⟩
end Go.AM.L6
