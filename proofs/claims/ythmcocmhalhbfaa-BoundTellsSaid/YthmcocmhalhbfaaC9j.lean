/- Contracts of the functions that the statement reaches. No condition. -/
import Derived.Test.YthmcocmhalhbfaaC9h
import Derived.Test.YthmcocmhalhbfaaK9h
set_option linter.all false
set_option maxRecDepth 10000
namespace Go.AM.L9
open Go.AM.PL
set_option maxHeartbeats 2000000 in
theorem boundTells_ok (t : List Int) (a b per late bud : Int) (ht : t.length ≤ 2 ^ 50) (hi : ∀ x ∈ t, i64 x) (hper : i64 per) : WpCallG A 4 [.fsl 1 (t.map encK), .v (.int .i64 a), .v (.int .i64 b), .v (.int .i64 per), .v (.int .i64 late), .v (.int .i64 bud)] [] (fun v H => v = .v (.bool true) ∧ H = []) := by
 refine WpCallG.intro g4 rfl rfl ?_
 unfold af4
 change WpG _ _ _ _ _
 refine WpG.seq ?_
 refine WpG.reg ?_
 refine G.mv rfl ?_
 refine WpOpsG.nil ?_
 change WpG _ _ _ _ _
 refine WpG.seq ?_
 refine WpG.reg ?_
 refine G.mv rfl ?_
 refine G.build rfl ?_
 refine G.box (g := 11) rfl rfl rfl ?_
 change WpOpsG _ _ _ ((11, tbox t 0) :: _) _
 refine G.mv rfl ?_
 refine WpOpsG.nil ?_
 change WpG _ _ _ _ _
 refine WpG.seq ?_
 refine WpG.reg ?_
 refine G.mv rfl ?_
 refine G.call (P := [(11, tbox t 0)]) rfl (by repeat (first | exact trivial | refine ⟨rfl, ?_⟩)) rfl rfl ((truns_ok t 0 4 14 ht hi (Nat.zero_le _) (by omega) (by decide)).ren [(0, 11)]) ?_
 rintro _ _ ⟨_, _, ⟨rfl, rfl⟩, rfl, rfl⟩
 change newOk _ _ [(11, tbox t _)] = true ∧ _
 refine ⟨rfl, ?_⟩
 change WpOpsG _ _ ((26, .fsl 2 ((tapeRuns t 0 4 14).1.map encN)) :: _) ([(11, tbox t _)] ++ _) _
 have hr := tapeRuns_ok t 0 4 14 (by omega) (by decide) (Nat.zero_le _)
 obtain ⟨rs, hrs⟩ : ∃ rs, rs = (tapeRuns t 0 4 14).1 := ⟨_, rfl⟩
 rw [← hrs] at hr ⊢
 have hrl : rs.length ≤ 14 := by have := hr.2.2.1; omega
 have hrN : ∀ r ∈ rs, okN r := fun r hr2 => by
  have := hr.1 r hr2
  unfold okT at this
  unfold okN i64; omega
 have hrw : wlen rs ≤ 8192 := runs_wlen hr.1 (by omega)
 have hr1 : ∀ r ∈ rs, 1 ≤ r.n := fun r hr2 => (hr.1 r hr2).2.2.1
 refine G.mv rfl ?_
 refine WpOpsG.nil ?_
 change WpG _ _ _ _ _
 refine WpG.seq ?_
 refine WpG.reg ?_
 refine G.mv rfl ?_
 refine G.call (P := [(11, tbox t (tapeRuns t 0 4 14).2)]) rfl (by repeat (first | exact trivial | refine ⟨rfl, ?_⟩)) rfl rfl ((configO_ok t (tapeRuns t 0 4 14).2 ht hi hr.2.2.2).ren [(0, 11), (1, 21), (2, 22)]) ?_
 rintro _ _ ⟨_, _, ⟨X, C, tabs, z0, hcf, hz0, rfl, rfl⟩, rfl, rfl⟩
 change newOk _ _ [(21, _), (22, _), (11, tbox t z0)] = true ∧ _
 refine ⟨rfl, ?_⟩
 change WpOpsG _ _ ((28, .agg [.osl 21, .osl 22, .fsl 1 (tabs.map encTb)]) :: _) ([(21, .arr .yes 11 (X.map encX)), (22, .arr .yes 6 (C.map encC)), (11, tbox t z0)] ++ _) _
 obtain ⟨⟨⟨hP1, hP4⟩, hXs⟩, ⟨hC20, hCs⟩, ⟨hT1, hT3⟩, hTs, hHold⟩ := hcf
 refine WpOpsG.anyO 21 5 rfl ?_
 rw [encX_any]
 have hPp : ∀ p ∈ parts X, i64 p.per := fun p hp => by
  obtain ⟨c, hc, rfl⟩ := List.mem_map.1 hp
  exact (hXs c hc).2.2
 have hPl := parts_len X
 change WpOpsG _ _ _ ((21, .arr .yes 11 ((parts X).map encP)) :: _) _
 refine G.box (g := 12) rfl rfl rfl ?_
 refine G.storeB rfl rfl rfl rfl rfl rfl ?_
 refine WpOpsG.nil ?_
 change WpG _ _ _ _ _
 refine WpG.seq ?_
 refine WpG.reg ?_
 refine G.mv rfl ?_
 refine G.call0 rfl rfl (total_ok rs (by omega) hrN) ?_
 rintro _ _ ⟨rfl, rfl⟩
 refine ⟨rfl, ?_⟩
 change WpOpsG _ _ ((30, _) :: _) _ _
 obtain ⟨N, htot, hN64⟩ := runs_tot hr.1 (by omega)
 rw [htot]
 refine G.mv rfl ?_
 refine WpOpsG.nil ?_
 change WpG _ _ _ _ _
 refine WpG.seq ?_
 refine WpG.seq ?_
 refine WpG.reg ?_
 refine G.faddrB rfl ?_
 refine G.load1B rfl rfl rfl ?_
 refine G.lenOM rfl rfl ?_
 refine G.mv rfl ?_
 refine WpOpsG.nil ?_
 change WpG _ _ _ _ _
 refine WpG.block ?_
 refine WpG.loop (S := List Ch × Nat) (fun s => [(1, .v (.int .i64 a)), (2, .v (.int .i64 b)), (3, .v (.int .i64 per)), (5, .v (.int .i64 bud)), (12, .v (.bool false)), (13, .bptr 11 0), (14, .fsl 2 (rs.map encN)), (15, .bptr 12 0), (16, .v (.int .i64 (N : Int))), (4, .v (.int .i64 late)), (33, .v (.int .i64 (C.length : Int))), (34, .v (.int .i64 (s.2 : Int)))]) (fun s => [(12, .box [.osl 21, .osl 22, .fsl 1 (tabs.map encTb)]), (21, .arr .yes 11 ((parts X).map encP)), (22, .arr .yes 6 (s.1.map encC)), (11, tbox t z0)]) (fun s => s.2 ≤ C.length ∧ s.1.length = C.length) (fun s => C.length - s.2) (fun s => ⟨rfl, rfl⟩) ?_ (C, 0) ?_ (by repeat (first | exact trivial | refine ⟨rfl, ?_⟩)) (by repeat (first | exact trivial | refine ⟨rfl, ?_⟩)) rfl
 ·rintro ⟨D, i⟩ ⟨hI, hDl⟩
  dsimp only at hI hDl ⊢
  refine WpG.seq ?_
  refine WpG.reg ?_
  refine G.bin rfl rfl rfl ?_
  refine WpOpsG.nil ?_
  change WpG _ _ _ _ _
  refine WpG.seq ?_
  refine WpG.cond rfl (fun hq1 => ?_) (fun hq1 => ?_)
  ·(try simp only [zN] at hq1)
   refine WpG.skip ?_
   change WpG _ _ _ _ _
   refine WpG.seq ?_
   refine WpG.block ?_
   refine WpG.seq ?_
   refine WpG.reg ?_
   refine G.mv rfl ?_
   refine G.mv rfl ?_
   refine WpOpsG.nil ?_
   change WpG _ _ _ _ _
   refine WpG.reg ?_
   refine G.faddrB rfl ?_
   refine G.load1B rfl rfl rfl ?_
   refine G.mv rfl ?_
   refine G.mv rfl ?_
   refine G.andK rfl rfl ?_
   refine G.iaddrO rfl rfl rfl (by omega) (by rw [List.length_map]; omega) ?_
   rw [Int.toNat_natCast]
   refine G.faddrE rfl ?_
   refine G.storeEM ({D[i] with late := andI .i64 late 31} : Ch) rfl rfl rfl (List.getElem?_eq_getElem (by omega)) rfl rfl rfl rfl ?_
   refine WpOpsG.nil ?_
   change WpG _ _ _ _ _
   refine WpG.reg ?_
   refine G.addI rfl rfl (by omega) ?_
   refine G.mv rfl ?_
   refine WpOpsG.nil ?_
   exact ⟨(D.set i {D[i] with late := andI .i64 late 31}, i + 1), by show _ - (i + 1) < _ - i; omega, ⟨by dsimp only; omega, by rw [List.length_set]; exact hDl⟩, (by repeat (first | exact trivial | refine ⟨rfl, ?_⟩)), (by repeat (first | exact trivial | refine ⟨rfl, ?_⟩)), rfl⟩
  ·(try simp only [zN] at hq1)
   refine WpG.exit ?_
   change WpG _ _ _ _ _
   refine WpG.seq ?_
   obtain ⟨P, hP⟩ : ∃ P, parts X = P := ⟨_, rfl⟩
   rw [hP] at hPp hPl ⊢
   refine WpG.reg ?_
   refine G.faddrB rfl ?_
   refine G.load1B rfl rfl rfl ?_
   refine G.faddrB rfl ?_
   refine G.load1B rfl rfl rfl ?_
   refine G.mv rfl ?_
   refine G.andK rfl rfl ?_
   refine G.mv rfl ?_
   refine G.andK rfl rfl ?_
   obtain ⟨w, ew, hw⟩ := and_rng1 per 15 (by decide)
   rw [show andI .i64 per 15 = (w : Int) from ew]
   refine G.addI rfl rfl (by omega) ?_
   refine G.iaddrO rfl rfl rfl (by omega) (by rw [List.length_map]; omega) ?_
   rw [show Int.toNat 0 = 0 from rfl]
   refine G.faddrE rfl ?_
   refine G.ckX [(21, .arr .yes 11 (P.map encP))] [(55, .eptr 21 0 1), (50, .v (.int .i64 (andI .i64 bud 7)))] (by repeat (first | exact trivial | refine ⟨rfl, ?_⟩)) (by repeat (first | exact trivial | refine ⟨rfl, ?_⟩)) rfl rfl rfl ?_ ?_
   ·refine G.storeEM ({P[0] with bud := andI .i64 bud 7} : Pt) rfl rfl rfl (List.getElem?_eq_getElem (by omega)) rfl rfl rfl rfl ?_
    exact WpOpsG.nil trivial
   refine G.storeEM ({P[0] with bud := andI .i64 bud 7} : Pt) rfl rfl rfl (List.getElem?_eq_getElem (by omega)) rfl rfl rfl rfl ?_
   refine WpOpsG.nil ?_
   change WpOpsG _ _ _ ((21, _) :: _) _
   refine G.iaddrO rfl rfl rfl (by omega) (by rw [List.length_map, List.length_set]; omega) ?_
   rw [show Int.toNat 0 = 0 from rfl]
   refine G.faddrE rfl ?_
   refine G.storeEM (({P[0] with bud := andI .i64 bud 7, per := 1 + (w : Int)} : Pt)) rfl rfl rfl (List.getElem?_set_self (by omega)) rfl rfl rfl rfl ?_
   rw [List.set_set]
   refine WpOpsG.nil ?_
   change WpG _ _ _ _ _
   refine WpG.seq ?_
   have hQl : (P.set 0 ({P[0] with bud := andI .i64 bud 7, per := 1 + (w : Int)} : Pt)).length = P.length := List.length_set
   have hQp : ∀ p ∈ P.set 0 ({P[0] with bud := andI .i64 bud 7, per := 1 + (w : Int)} : Pt), i64 p.per := fun p hp => by
    rcases List.mem_or_eq_of_mem_set hp with h1 | rfl
    ·exact hPp p h1
    ·show i64 (1 + (w : Int)); unfold i64; omega
   obtain ⟨Q, hQ⟩ : ∃ Q, P.set 0 ({P[0] with bud := andI .i64 bud 7, per := 1 + (w : Int)} : Pt) = Q := ⟨_, rfl⟩
   rw [hQ] at hQl hQp ⊢
   refine WpG.freeze 21 rfl ?_
   refine WpG.freeze 22 rfl ?_
   refine WpG.reg ?_
   refine G.mv rfl ?_
   refine G.call (P := [(11, tbox t z0)]) rfl (by repeat (first | exact trivial | refine ⟨rfl, ?_⟩)) rfl rfl ((configO_ok t z0 ht hi hz0).ren [(0, 11), (1, 23), (2, 24)]) ?_
   rintro _ _ ⟨_, _, ⟨X2, C2, tabs2, z02, hcf2, hz02, rfl, rfl⟩, rfl, rfl⟩
   change newOk _ _ [(23, _), (24, _), (11, tbox t z02)] = true ∧ _
   refine ⟨rfl, ?_⟩
   change WpOpsG _ _ ((59, .agg [.osl 23, .osl 24, .fsl 1 (tabs2.map encTb)]) :: _) ([(23, .arr .yes 11 (X2.map encX)), (24, .arr .yes 6 (C2.map encC)), (11, tbox t z02)] ++ _) _
   obtain ⟨⟨⟨hP12, hP42⟩, hXs2⟩, ⟨hC202, hCs2⟩, ⟨hT12, hT32⟩, hTs2, hHold2⟩ := hcf2
   refine WpOpsG.anyO 23 5 rfl ?_
   rw [encX_any]
   have hPp2 : ∀ p ∈ parts X2, i64 p.per := fun p hp => by
    obtain ⟨c, hc, rfl⟩ := List.mem_map.1 hp
    exact (hXs2 c hc).2.2
   have hPl2 := parts_len X2
   change WpOpsG _ _ _ ((23, .arr .yes 11 ((parts X2).map encP)) :: _) _
   refine G.box (g := 13) rfl rfl rfl ?_
   refine G.storeB rfl rfl rfl rfl rfl rfl ?_
   refine WpOpsG.nil ?_
   change WpG _ _ _ _ _
   refine WpG.seq ?_
   refine WpG.freeze 23 rfl ?_
   refine WpG.freeze 24 rfl ?_
   refine WpG.reg ?_
   refine G.faddrB rfl ?_
   refine G.load1B rfl rfl rfl ?_
   refine G.iaddrM rfl rfl (by omega) (gd17 [] (by show 0 < _; omega)) ?_
   refine G.load1F rfl rfl ?_
   have htb : (tabs2.getD 0 []) ∈ tabs2 := by
    have hx := List.getElem?_eq_getElem (l := tabs2) (i := 0) (by omega)
    have hy := gd17 (l := tabs2) (i := 0) [] (by omega)
    rw [Option.some.inj (hy.symm.trans hx)]
    exact List.getElem_mem _
   have htl := hTs2 _ htb
   have hho := hHold2 _ htb
   obtain ⟨tb, htbe⟩ : ∃ tb, tabs2.getD 0 [] = tb := ⟨_, rfl⟩
   rw [show tabs2.getD (Int.toNat 0) [] = tb from htbe]
   rw [htbe] at htl hho
   change WpOpsG _ _ ((64, .fsl 3 (tb.map encD)) :: _) _ _
   refine G.call0 rfl rfl (ofX_ok tb (by omega)) ?_
   rintro _ _ ⟨rfl, rfl⟩
   refine ⟨rfl, ?_⟩
   change WpOpsG _ _ ((65, _) :: _) _ _
   have hg := of_good (show tb.length ≤ 2 ^ 40 by omega)
   have hg2 := hg.2
   obtain ⟨r, hr0⟩ : ∃ r, ofV tb = r := ⟨_, rfl⟩
   obtain ⟨e, he0⟩ : ∃ e, ofE tb = e := ⟨_, rfl⟩
   rw [hr0] at hg hg2 hho ⊢
   rw [he0]
   refine G.mv rfl ?_
   refine G.ext rfl rfl ?_
   refine G.ext rfl rfl ?_
   refine G.mv rfl ?_
   refine G.mv rfl ?_
   refine WpOpsG.nil ?_
   change WpG _ _ _ _ _
   refine WpG.seq ?_
   refine WpG.reg ?_
   refine G.mv rfl ?_
   refine G.andK rfl rfl ?_
   obtain ⟨u, eu, hu⟩ := and_rng1 per 63 (by decide)
   rw [show andI .i64 per 63 = (u : Int) from eu]
   refine G.addI rfl rfl (by omega) ?_
   rw [show 1 + (u : Int) = ((1 + u : Nat) : Int) by omega]
   refine G.mv rfl ?_
   refine WpOpsG.nil ?_
   change WpG _ _ _ _ _
   refine WpG.seq ?_
   refine WpG.block ?_
   refine WpG.loop (S := Nat) (fun d => [(1, .v (.int .i64 a)), (2, .v (.int .i64 b)), (3, .v (.int .i64 per)), (12, .v (.bool false)), (14, .fsl 2 (rs.map encN)), (15, .bptr 12 0), (16, .v (.int .i64 (N : Int))), (18, .bptr 13 0), (19, .fsl 2 (r.map encN)), (21, .v (.int .i64 (d : Int)))]) (fun _ => [(12, .box [.fsl 11 (Q.map encP), .fsl 6 (D.map encC), .fsl 1 (tabs.map encTb)]), (13, .box [.fsl 11 ((parts X2).map encP), .fsl 6 (C2.map encC), .fsl 1 (tabs2.map encTb)])]) (fun d => 1 ≤ d ∧ d ≤ 64) (fun d => d) (fun s => ⟨rfl, rfl⟩) ?_ (1 + u) ?_ (by repeat (first | exact trivial | refine ⟨rfl, ?_⟩)) (by repeat (first | exact trivial | refine ⟨rfl, ?_⟩)) rfl
   ·rintro d ⟨hd1, hd64⟩
    refine WpG.seq ?_
    refine WpG.seq ?_
    refine WpG.reg ?_
    refine G.mv rfl ?_
    refine G.bin rfl rfl rfl ?_
    refine G.mv rfl ?_
    apply G.andS rfl rfl rfl rfl rfl rfl
    case hB =>
     intro hs2
     (try simp only [zN] at hs2)
     refine G.mv rfl ?_
     refine G.mv rfl ?_
     refine G.remN rfl rfl (by omega) (by omega) ?_
     refine G.bin rfl rfl rfl ?_
     refine WpOpsG.nil ?_
     exact ⟨rfl, (by repeat (first | exact LLe.refl _ | refine LLe.cons rfl ?_)), (by repeat (first | exact HLe.refl _ | refine HLe.cons rfl ?_)), rfl⟩
    refine WpOpsG.nil ?_
    change WpG _ _ _ _ _
    refine WpG.cond rfl (fun hq3 => ?_) (fun hq3 => ?_)
    ·(try simp only [zN] at hq3)
     refine WpG.skip ?_
     change WpG _ _ _ _ _
     refine WpG.block ?_
     refine WpG.reg ?_
     refine G.mv rfl ?_
     refine G.subI rfl rfl (by omega) ?_
     refine G.mv rfl ?_
     refine WpOpsG.nil ?_
     refine ⟨d - 1, by omega, ⟨by omega, by omega⟩, ⟨rfl, rfl, rfl, rfl, rfl, rfl, rfl, rfl, rfl, ?_, trivial⟩, ⟨rfl, rfl, trivial⟩, rfl⟩
     show some (GV.v (.int .i64 _)) = some (GV.v (.int .i64 _))
     congr 3; omega
    ·(try simp only [zN] at hq3)
     refine WpG.exit ?_
     change WpG _ _ _ _ _
     refine WpG.seq ?_
     refine WpG.reg ?_
     refine G.mv rfl ?_
     refine G.mv rfl ?_
     refine G.andK rfl rfl ?_
     obtain ⟨pa, epa, hpa⟩ := and_rng1 a 7 (by decide)
     rw [show andI .i64 a 7 = (pa : Int) from epa]
     refine G.subI rfl rfl (by omega) ?_
     refine G.mv rfl ?_
     refine G.andK rfl rfl ?_
     obtain ⟨pb, epb, hpb⟩ := and_rng1 b 7 (by decide)
     rw [show andI .i64 b 7 = (pb : Int) from epb]
     refine G.subI rfl rfl (by omega) ?_
     refine G.mv rfl ?_
     refine G.call0 rfl rfl (same9_ok rs _ _ _ (by omega) hrN hr1 hrw hper) ?_
     rintro _ _ ⟨rfl, rfl⟩
     refine ⟨rfl, ?_⟩
     change WpOpsG _ _ ((89, _) :: _) _ _
     refine G.mv rfl ?_
     refine WpOpsG.known 90 true rfl rfl ?_
     refine G.mv rfl ?_
     refine G.mv rfl ?_
     refine G.andK rfl rfl ?_
     refine G.mv rfl ?_
     refine G.andK rfl rfl ?_
     refine G.mv rfl ?_
     refine G.call0 rfl rfl (same9_ok rs _ _ _ (by omega) hrN hr1 hrw (by unfold i64; omega)) ?_
     rintro _ _ ⟨rfl, rfl⟩
     refine ⟨rfl, ?_⟩
     change WpOpsG _ _ ((97, _) :: _) _ _
     refine G.pickT rfl rfl ?_
     refine G.mv rfl ?_
     refine WpOpsG.known 99 true rfl rfl ?_
     refine G.loadNB rfl rfl rfl ?_
     refine G.mv rfl ?_
     refine G.loadNB rfl rfl rfl ?_
     refine G.ckcall0 rfl rfl rfl (holds_ok D Q (tabs.map encTb) rs (by omega) (by omega) hQp (by omega) hrN hr1 (by omega)) ?_
     rintro _ _ ⟨rfl, rfl⟩
     refine ⟨rfl, ?_⟩
     change WpOpsG _ _ ((102, _) :: _) _ _
     refine G.mv rfl ?_
     refine G.call0 rfl rfl (rholds_ok D Q (tabs.map encTb) rs (by omega) (by omega) hQp (by omega) hr1 hrw) ?_
     rintro _ _ ⟨rfl, rfl⟩
     refine ⟨rfl, ?_⟩
     change WpOpsG _ _ ((105, _) :: _) _ _
     refine G.bin rfl rfl rfl ?_
     rw [beq_self_eq_true]
     refine G.pickT rfl rfl ?_
     refine G.mv rfl ?_
     refine WpOpsG.known 108 true rfl rfl ?_
     refine G.loadNB rfl rfl rfl ?_
     refine G.mv rfl ?_
     refine G.loadNB rfl rfl rfl ?_
     refine G.ckcall0 rfl rfl rfl (holds_ok D Q (tabs.map encTb) r (by omega) (by omega) hQp (by omega) (fun x hx => (hg.1 x hx).1) (fun x hx => (hg.1 x hx).2) (by omega)) ?_
     rintro _ _ ⟨rfl, rfl⟩
     refine ⟨rfl, ?_⟩
     change WpOpsG _ _ ((111, _) :: _) _ _
     refine G.mv rfl ?_
     refine G.call0 rfl rfl (rholds_ok D Q (tabs.map encTb) r (by omega) (by omega) hQp (by omega) (fun x hx => (hg.1 x hx).2) (by omega)) ?_
     rintro _ _ ⟨rfl, rfl⟩
     refine ⟨rfl, ?_⟩
     change WpOpsG _ _ ((114, _) :: _) _ _
     refine G.bin rfl rfl rfl ?_
     rw [beq_self_eq_true]
     refine G.pickT rfl rfl ?_
     refine G.mv rfl ?_
     refine WpOpsG.known 117 true rfl rfl ?_
     refine G.loadNB rfl rfl rfl ?_
     refine G.mv rfl ?_
     refine G.call0 rfl rfl (holds_ok C2 (parts X2) (tabs2.map encTb) r (by omega) (by omega) hPp2 (by omega) (fun x hx => (hg.1 x hx).1) (fun x hx => (hg.1 x hx).2) (by omega)) ?_
     rintro _ _ ⟨rfl, rfl⟩
     refine ⟨rfl, ?_⟩
     change WpOpsG _ _ ((120, _) :: _) _ _
     rw [show holdV C2 (parts X2) r = 0 from hho]
     refine G.bin rfl rfl rfl ?_
     rw [beq_self_eq_true]
     refine G.pickT rfl rfl ?_
     refine G.mv rfl ?_
     refine WpOpsG.known 123 true rfl rfl ?_
     refine G.call0 rfl rfl (known9_ok) ?_
     rintro _ _ ⟨rfl, rfl⟩
     refine ⟨rfl, ?_⟩
     change WpOpsG _ _ ((124, _) :: _) _ _
     refine G.pickT rfl rfl ?_
     refine G.mv rfl ?_
     refine WpOpsG.nil ?_
     change WpG _ _ _ _ _
     refine WpG.ret ?_
     refine ⟨_, [], rfl, (hasP_le (by repeat (first | exact trivial | refine ⟨rfl, ?_⟩))), rfl, rfl, rfl, ?_⟩
     exact ⟨rfl, rfl⟩
   ·exact ⟨by omega, by omega⟩
 ·exact ⟨Nat.zero_le _, rfl⟩
end Go.AM.L9
