/- Contracts of the functions that the statement reaches. No condition. -/
import Derived.Test.YtffhonjjccndpaaC6e
import Derived.Test.YtffhonjjccndpaaK6b
import Derived.Test.YtffhonjjccndpaaPL6d
set_option linter.all false
set_option maxRecDepth 10000
namespace Go.AM.L6
open Go.AM.PL
theorem known6_ok  : WpCallG A 11 [] [] (fun v H => v = .v (.bool true) ∧ H = []) := by
 have hkl : kl6.length = 6 := rfl
 refine WpCallG.intro g11 rfl rfl ?_
 unfold af11
 change WpG _ _ _ _ _
 refine WpG.seq ?_
 refine WpG.reg ?_
 refine G.mv rfl ?_
 refine WpOpsG.nil ?_
 change WpG _ _ _ _ _
 refine WpG.seq ?_
 refine WpG.reg ?_
 refine G.build rfl ?_
 refine G.build rfl ?_
 refine G.build rfl ?_
 refine G.build rfl ?_
 refine G.build rfl ?_
 refine G.build rfl ?_
 refine G.bsliceF rfl rfl rfl ?_
 change WpOpsG _ _ ((12, .fsl 2 (kl6.map encN)) :: _) _ _
 refine G.mv rfl ?_
 refine WpOpsG.nil ?_
 change WpG _ _ _ _ _
 refine WpG.seq ?_
 refine WpG.reg ?_
 refine G.call0 rfl rfl (nil1 (best6_ok [] (by decide))) ?_
 rintro _ _ ⟨rfl, rfl⟩
 refine ⟨rfl, ?_⟩
 change WpOpsG _ _ ((14, _) :: _) _ _
 rw [show bestR [] = (⟨0, 0, 0, 0⟩ : Ft) by decide +kernel]
 refine G.mv rfl ?_
 refine G.ext rfl rfl ?_
 refine G.ext rfl rfl ?_
 refine G.ext rfl rfl ?_
 refine G.mv rfl ?_
 refine G.mv rfl ?_
 refine G.mv rfl ?_
 refine WpOpsG.nil ?_
 change WpG _ _ _ _ _
 refine WpG.seq ?_
 refine WpG.reg ?_
 refine G.mv rfl ?_
 refine G.call0 rfl rfl (table6_ok kl6 (by decide)) ?_
 rintro _ _ ⟨rfl, rfl⟩
 refine ⟨rfl, ?_⟩
 change WpOpsG _ _ ((19, _) :: _) _ _
 rw [show tableV kl6 = k6t by decide +kernel]
 refine G.mv rfl ?_
 refine WpOpsG.nil ?_
 change WpG _ _ _ _ _
 refine WpG.seq ?_
 refine WpG.reg ?_
 refine G.mv rfl ?_
 refine G.call0 rfl rfl (period6_ok kl6 (by decide)) ?_
 rintro _ _ ⟨rfl, rfl⟩
 refine ⟨rfl, ?_⟩
 change WpOpsG _ _ ((21, _) :: _) _ _
 rw [show perV kl6 = 2 by decide +kernel]
 refine G.bin rfl rfl rfl ?_
 refine G.mv rfl ?_
 refine WpOpsG.known 23 true rfl rfl ?_
 refine G.mv rfl ?_
 refine G.bin rfl rfl rfl ?_
 refine G.pickT rfl rfl ?_
 refine G.mv rfl ?_
 refine WpOpsG.known 27 true rfl rfl ?_
 refine G.mv rfl ?_
 refine G.bin rfl rfl rfl ?_
 refine G.pickT rfl rfl ?_
 refine G.mv rfl ?_
 refine WpOpsG.known 31 true rfl rfl ?_
 refine G.mv rfl ?_
 refine G.bin rfl rfl rfl ?_
 refine G.pickT rfl rfl ?_
 refine G.mv rfl ?_
 refine WpOpsG.known 35 true rfl rfl ?_
 refine G.mv rfl ?_
 refine G.lenM rfl ?_
 refine G.bin rfl rfl rfl ?_
 refine G.pickT rfl rfl ?_
 refine G.mv rfl ?_
 refine WpOpsG.known 40 true rfl rfl ?_
 refine G.mv rfl ?_
 refine G.iaddrF rfl rfl (by omega) rfl ?_
 refine G.loadNF rfl rfl ?_
 refine G.build rfl ?_
 refine G.beq rfl rfl rfl ?_
 refine G.pickT rfl rfl ?_
 refine G.mv rfl ?_
 refine WpOpsG.known 47 true rfl rfl ?_
 refine G.mv rfl ?_
 refine G.slTake (n := 4) rfl rfl (by omega) ?_
 refine G.call0 rfl rfl (table6_ok (kl6.take 4) (by decide)) ?_
 rintro _ _ ⟨rfl, rfl⟩
 refine ⟨rfl, ?_⟩
 change WpOpsG _ _ ((50, _) :: _) _ _
 rw [show tableV (kl6.take 4) = ([⟨3, 0, 4⟩, ⟨1, 0, 1⟩, ⟨1, 1, 1⟩, ⟨1, 0, 1⟩, ⟨1, 1, 1⟩] : List Nd) by decide +kernel]
 refine G.lenM rfl ?_
 refine G.bin rfl rfl rfl ?_
 refine G.pickT rfl rfl ?_
 refine G.mv rfl ?_
 refine WpOpsG.known 54 true rfl rfl ?_
 refine G.mv rfl ?_
 refine G.slTake (n := 1) rfl rfl (by omega) ?_
 refine G.call0 rfl rfl (table6_ok (kl6.take 1) (by decide)) ?_
 rintro _ _ ⟨rfl, rfl⟩
 refine ⟨rfl, ?_⟩
 change WpOpsG _ _ ((57, _) :: _) _ _
 rw [show tableV (kl6.take 1) = ([⟨1, 0, 1⟩] : List Nd) by decide +kernel]
 refine G.lenM rfl ?_
 refine G.bin rfl rfl rfl ?_
 refine G.pickT rfl rfl ?_
 refine G.mv rfl ?_
 refine WpOpsG.known 61 true rfl rfl ?_
 refine G.mv rfl ?_
 refine G.call0 rfl rfl (plain6_ok kl6 (by decide)) ?_
 rintro _ _ ⟨rfl, rfl⟩
 refine ⟨rfl, ?_⟩
 change WpOpsG _ _ ((63, _) :: _) _ _
 rw [show plainV kl6 = ([⟨3, 0, 6⟩, ⟨1, 0, 1⟩, ⟨1, 1, 1⟩, ⟨1, 0, 1⟩, ⟨1, 1, 1⟩, ⟨1, 0, 1⟩, ⟨1, 1, 1⟩] : List Nd) by decide +kernel]
 refine G.lenM rfl ?_
 refine G.bin rfl rfl rfl ?_
 refine G.pickT rfl rfl ?_
 refine G.mv rfl ?_
 refine WpOpsG.known 67 true rfl rfl ?_
 refine G.call0 rfl rfl (nil1 (plain6_ok [] (by decide))) ?_
 rintro _ _ ⟨rfl, rfl⟩
 refine ⟨rfl, ?_⟩
 change WpOpsG _ _ ((68, _) :: _) _ _
 rw [show plainV [] = ([] : List Nd) by decide +kernel]
 refine G.lenM rfl ?_
 refine G.bin rfl rfl rfl ?_
 refine G.pickT rfl rfl ?_
 refine G.mv rfl ?_
 refine WpOpsG.known 72 true rfl rfl ?_
 refine G.call0 rfl rfl (nil1 (period6_ok [] (by decide))) ?_
 rintro _ _ ⟨rfl, rfl⟩
 refine ⟨rfl, ?_⟩
 change WpOpsG _ _ ((73, _) :: _) _ _
 rw [show perV [] = 0 by decide +kernel]
 refine G.bin rfl rfl rfl ?_
 refine G.pickT rfl rfl ?_
 refine G.mv rfl ?_
 refine WpOpsG.nil ?_
 change WpG _ _ _ _ _
 refine WpG.ret ?_
 refine ⟨_, [], rfl, (hasP_le (by repeat (first | exact trivial | refine ⟨rfl, ?_⟩))), rfl, rfl, rfl, ?_⟩
 exact ⟨rfl, rfl⟩
theorem foldSaves_ok (t : List Int) (n : Int) (ht : t.length ≤ 2 ^ 50) (hi : ∀ x ∈ t, i64 x) : WpCallG A 5 [.fsl 1 (t.map encK), .v (.int .i64 n)] [] (fun v H => v = .v (.bool true) ∧ H = []) := by
 refine WpCallG.intro g5 rfl rfl ?_
 unfold af5
 change WpG _ _ _ _ _
 refine WpG.seq ?_
 refine WpG.reg ?_
 refine G.mv rfl ?_
 refine WpOpsG.nil ?_
 change WpG _ _ _ _ _
 refine WpG.seq ?_
 refine WpG.reg ?_
 refine G.mv rfl ?_
 refine G.build rfl ?_
 refine G.box (g := 11) rfl rfl rfl ?_
 change WpOpsG _ _ _ ((11, tbox t 0) :: _) _
 refine G.call (P := [(11, tbox t 0)]) rfl (by repeat (first | exact trivial | refine ⟨rfl, ?_⟩)) rfl rfl ((truns_ok t 0 3 6 ht hi (Nat.zero_le _) (by decide) (by decide)).ren [(0, 11)]) ?_
 rintro _ _ ⟨_, _, ⟨rfl, rfl⟩, rfl, rfl⟩
 change newOk _ _ [(11, tbox t _)] = true ∧ _
 refine ⟨rfl, ?_⟩
 change WpOpsG _ _ ((13, .fsl 2 ((tapeRuns t 0 3 6).1.map encN)) :: _) ([(11, tbox t _)] ++ _) _
 have hR := tapeRuns_ok t 0 3 6 (by decide) (by decide) (Nat.zero_le _)
 obtain ⟨rs, hRs⟩ : ∃ rs, rs = (tapeRuns t 0 3 6).1 := ⟨_, rfl⟩
 rw [← hRs] at hR ⊢
 have hRl : rs.length ≤ 6 := by have := hR.2.2.1; omega
 refine G.call0 rfl rfl ((rtidy_ok rs (by omega) (okT_okN (by decide) hR.1)).ren [(0, 20)]) ?_
 rintro _ _ ⟨_, _, ⟨rfl, rfl⟩, rfl, rfl⟩
 change newOk _ _ [(20, _)] = true ∧ _
 refine ⟨rfl, ?_⟩
 change WpOpsG _ _ ((14, .osl 20) :: _) ([(20, .arr .yes 2 ((tidyV rs).map encN))] ++ _) _
 refine WpOpsG.freeze 20 rfl ?_
 have hll := tidyV_len rs
 obtain ⟨l, hl⟩ : ∃ r, tidyV rs = r := ⟨_, rfl⟩
 rw [hl] at hll ⊢
 change WpOpsG _ _ ((14, .fsl 2 (l.map encN)) :: _) _ _
 refine G.mv rfl ?_
 refine WpOpsG.nil ?_
 change WpG _ _ _ _ _
 refine WpG.seq ?_
 refine WpG.seq ?_
 refine WpG.reg ?_
 refine G.mv rfl ?_
 refine G.lenM rfl ?_
 refine G.bin rfl rfl rfl ?_
 refine G.mv rfl ?_
 apply G.orS rfl rfl rfl rfl rfl rfl
 case hB =>
  intro hs1
  (try simp only [zN] at hs1)
  refine G.mv rfl ?_
  refine G.iaddrM rfl rfl (by omega) (gd17 (⟨0, 0⟩ : Rn) (by show 0 < _; omega)) ?_
  rw [show Int.toNat 0 = 0 from rfl]
  refine G.faddrF rfl ?_
  refine G.load1F rfl rfl ?_
  refine G.mv rfl ?_
  refine G.mv rfl ?_
  refine G.lenM rfl ?_
  refine G.subI rfl rfl (by omega) ?_
  rw [show (l.length : Int) - 1 = ((l.length - 1 : Nat) : Int) by omega]
  refine G.iaddrM rfl rfl (by omega) (gd17 (⟨0, 0⟩ : Rn) (by omega)) ?_
  rw [Int.toNat_natCast]
  refine G.faddrF rfl ?_
  refine G.load1F rfl rfl ?_
  refine G.bin rfl rfl rfl ?_
  refine WpOpsG.nil ?_
  exact ⟨rfl, (by repeat (first | exact LLe.refl _ | refine LLe.cons rfl ?_)), (by repeat (first | exact HLe.refl _ | refine HLe.cons rfl ?_)), rfl⟩
 refine WpOpsG.nil ?_
 change WpG _ _ _ _ _
 refine WpG.cond rfl (fun hq2 => ?_) (fun hq2 => ?_)
 ·(try simp only [zN] at hq2)
  refine WpG.seq ?_
  refine WpG.reg ?_
  refine G.call0 rfl rfl (known6_ok) ?_
  rintro _ _ ⟨rfl, rfl⟩
  refine ⟨rfl, ?_⟩
  change WpOpsG _ _ ((32, _) :: _) _ _
  refine G.mv rfl ?_
  refine WpOpsG.nil ?_
  change WpG _ _ _ _ _
  refine WpG.ret ?_
  refine ⟨_, [], rfl, (hasP_le (by repeat (first | exact trivial | refine ⟨rfl, ?_⟩))), rfl, rfl, rfl, ?_⟩
  exact ⟨rfl, rfl⟩
 ·(try simp only [zN] at hq2)
  have hends := hq2.2
  have hl2 := hq2.1
  refine WpG.skip ?_
  change WpG _ _ _ _ _
  refine WpG.seq ?_
  refine WpG.reg ?_
  refine G.mv rfl ?_
  refine G.mv rfl ?_
  refine G.andK rfl rfl ?_
  obtain ⟨q, eq, hq⟩ := and_rng1 n 7 (by decide)
  rw [show andI .i64 n 7 = (q : Int) from eq]
  refine G.addI rfl rfl (by omega) ?_
  refine G.call0 rfl rfl ((nil1 (nil3 (again6_ok [] l [] (2 + (q : Int)) (by decide) (by omega) (by decide) (by omega)))).ren [(0, 21)]) ?_
  rintro _ _ ⟨_, _, ⟨m, hag, rfl, rfl⟩, rfl, rfl⟩
  change newOk _ _ [(21, _)] = true ∧ _
  refine ⟨rfl, ?_⟩
  change WpOpsG _ _ ((37, .osl 21) :: _) ([(21, .arr .yes 2 (([] ++ repR m l ++ []).map encN))] ++ _) _
  rw [List.nil_append, List.append_nil]
  refine WpOpsG.freeze 21 rfl ?_
  have hpr := per_row (by omega) (by omega) (by omega) hag
  have hrl := repR_len l m
  have hsv := saves_ok hR.1 hRl hl (by omega) hends hpr.2 hpr.1
  obtain ⟨row, hrow⟩ : ∃ r, repR m l = r := ⟨_, rfl⟩
  rw [hrow] at hrl hsv ⊢
  have hb := fold_back hsv.1 hsv.2
  have hb3 := hb.2.2.1
  have hb4 := hb.2.2.2
  have htl := table_len (row := l)
  change WpOpsG _ _ ((37, .fsl 2 (row.map encN)) :: _) _ _
  refine G.mv rfl ?_
  refine WpOpsG.nil ?_
  change WpG _ _ _ _ _
  refine WpG.seq ?_
  refine WpG.reg ?_
  refine G.mv rfl ?_
  refine G.call0 rfl rfl (table6_ok row (by omega)) ?_
  rintro _ _ ⟨rfl, rfl⟩
  refine ⟨rfl, ?_⟩
  change WpOpsG _ _ ((39, _) :: _) _ _
  refine G.mv rfl ?_
  refine WpOpsG.nil ?_
  change WpG _ _ _ _ _
  refine WpG.seq ?_
  refine WpG.reg ?_
  refine G.mv rfl ?_
  refine G.call0 rfl rfl (ofX_ok (tableV row) (by omega)) ?_
  rintro _ _ ⟨rfl, rfl⟩
  refine ⟨rfl, ?_⟩
  change WpOpsG _ _ ((42, _) :: _) _ _
  rw [hb.1.1, hb.1.2]
  refine G.mv rfl ?_
  refine G.ext rfl rfl ?_
  refine G.ext rfl rfl ?_
  refine G.mv rfl ?_
  refine G.mv rfl ?_
  refine WpOpsG.nil ?_
  change WpG _ _ _ _ _
  refine WpG.seq ?_
  refine WpG.reg ?_
  refine G.mv rfl ?_
  refine G.bin rfl rfl rfl ?_
  refine G.mv rfl ?_
  refine WpOpsG.known 47 true rfl rfl ?_
  refine G.mv rfl ?_
  refine G.mv rfl ?_
  refine G.call0 rfl rfl (refSame_ok row row (by omega) (by omega)) ?_
  rintro _ _ ⟨rfl, rfl⟩
  refine ⟨rfl, ?_⟩
  change WpOpsG _ _ ((50, _) :: _) _ _
  rw [decide_eq_true rfl]
  refine G.pickT rfl rfl ?_
  refine G.mv rfl ?_
  refine WpOpsG.known 52 true rfl rfl ?_
  refine G.mv rfl ?_
  refine G.lenM rfl ?_
  refine G.mv rfl ?_
  refine G.call0 rfl rfl (plain6_ok row (by omega)) ?_
  rintro _ _ ⟨rfl, rfl⟩
  refine ⟨rfl, ?_⟩
  change WpOpsG _ _ ((56, _) :: _) _ _
  refine G.lenM rfl ?_
  refine G.bin rfl rfl rfl ?_
  rw [decide_eq_true (by omega)]
  refine G.pickT rfl rfl ?_
  refine G.mv rfl ?_
  refine WpOpsG.known 60 true rfl rfl ?_
  refine G.mv rfl ?_
  refine G.call0 rfl rfl (table6_ok l (by omega)) ?_
  rintro _ _ ⟨rfl, rfl⟩
  refine ⟨rfl, ?_⟩
  change WpOpsG _ _ ((62, _) :: _) _ _
  refine G.lenM rfl ?_
  refine G.mv rfl ?_
  refine G.lenM rfl ?_
  refine G.addI rfl rfl (by omega) ?_
  refine G.bin rfl rfl rfl ?_
  rw [decide_eq_true (by omega)]
  refine G.pickT rfl rfl ?_
  refine G.mv rfl ?_
  refine WpOpsG.known 69 true rfl rfl ?_
  refine G.call0 rfl rfl (known6_ok) ?_
  rintro _ _ ⟨rfl, rfl⟩
  refine ⟨rfl, ?_⟩
  change WpOpsG _ _ ((70, _) :: _) _ _
  refine G.pickT rfl rfl ?_
  refine G.mv rfl ?_
  refine WpOpsG.nil ?_
  change WpG _ _ _ _ _
  refine WpG.ret ?_
  refine ⟨_, [], rfl, (hasP_le (by repeat (first | exact trivial | refine ⟨rfl, ?_⟩))), rfl, rfl, rfl, ?_⟩
  exact ⟨rfl, rfl⟩
end Go.AM.L6
