/- Contracts of the functions that the statement reaches. No condition. -/
import Derived.Test.YtomglcfneeelgaaC7g
set_option linter.all false
set_option maxRecDepth 10000
namespace Go.AM.L7
open Go.AM.PL
set_option maxHeartbeats 2000000 in
theorem graphMore_ok (t : List Int) (a b : Int) (queue : Bool) (ht : t.length ≤ 2 ^ 50) (hi : ∀ x ∈ t, i64 x) (ha : i64 a) (hb : i64 b) : WpCallG A 6 [.fsl 1 (t.map encK), .v (.int .i64 a), .v (.int .i64 b), .v (.bool queue)] [] (fun v H => v = .v (.bool true) ∧ H = []) := by
  refine WpCallG.intro g6 rfl rfl ?_
  unfold af6
  change WpG _ _ _ _ _
  refine WpG.seq ?_
  refine WpG.reg ?_
  refine G.mv rfl ?_
  refine WpOpsG.nil ?_
  change WpG _ _ _ _ _
  refine WpG.seq ?_
  refine WpG.reg ?_
  refine G.mv rfl ?_
  refine G.build rfl ?_
  refine G.box (g := 11) rfl rfl rfl ?_
  change WpOpsG _ _ _ ((11, tbox t 0) :: _) _
  refine G.call (P := [(11, tbox t 0)]) rfl (by repeat (first | exact trivial | refine ⟨rfl, ?_⟩)) rfl rfl ((config_okP t 0 ht hi (Nat.zero_le _)).ren [(0, 11)]) ?_
  rintro _ _ ⟨_, _, ⟨P, C, tabs, b0, hcf, hb0, rfl, rfl⟩, rfl, rfl⟩
  change newOk _ _ [(11, tbox t b0)] = true ∧ _
  refine ⟨rfl, ?_⟩
  change WpOpsG _ _ ((25, .agg [.fsl 11 (P.map encP), .fsl 6 (C.map encC), .fsl 1 (tabs.map encTb)]) :: _) ([(11, tbox t b0)] ++ _) _
  obtain ⟨⟨⟨hP1, hP4⟩, hPp⟩, ⟨hC20, hCs⟩, ⟨hT1, hT3⟩, hTs⟩ := hcf
  refine G.box (g := 12) rfl rfl rfl ?_
  refine G.storeB rfl rfl rfl rfl rfl rfl ?_
  refine WpOpsG.nil ?_
  change WpG _ _ _ _ _
  refine WpG.seq ?_
  refine WpG.reg ?_
  refine G.faddrB rfl ?_
  refine G.load1B rfl rfl rfl ?_
  refine G.lenM rfl ?_
  refine G.mv rfl ?_
  refine WpOpsG.nil ?_
  change WpG _ _ _ _ _
  refine WpG.seq ?_
  refine WpG.reg ?_
  refine G.mv rfl ?_
  refine G.mv rfl ?_
  refine G.subI rfl rfl (by omega) ?_
  refine G.call0 rfl rfl (within_ok a 0 ((P.length : Int) - 1) ha (by decide) (by omega) (by omega)) ?_
  rintro _ _ ⟨rfl, rfl⟩
  refine ⟨rfl, ?_⟩
  change WpOpsG _ _ ((32, _) :: _) _ _
  obtain ⟨x, hx, hxb⟩ := within_nat1 a (P.length - 1)
  rw [show (P.length : Int) - 1 = ((P.length - 1 : Nat) : Int) by omega, hx]
  have hxl : x < P.length := by omega
  refine G.mv rfl ?_
  refine G.mv rfl ?_
  refine G.subI rfl rfl (by omega) ?_
  refine G.call0 rfl rfl (within_ok b 0 ((P.length : Int) - 1) hb (by decide) (by omega) (by omega)) ?_
  rintro _ _ ⟨rfl, rfl⟩
  refine ⟨rfl, ?_⟩
  change WpOpsG _ _ ((36, _) :: _) _ _
  obtain ⟨y, hy, hyb⟩ := within_nat1 b (P.length - 1)
  rw [show (P.length : Int) - 1 = ((P.length - 1 : Nat) : Int) by omega, hy]
  have hyl : y < P.length := by omega
  refine G.mv rfl ?_
  refine G.mv rfl ?_
  refine WpOpsG.nil ?_
  change WpG _ _ _ _ _
  refine WpG.seq ?_
  refine WpG.reg ?_
  refine G.loadNB rfl rfl rfl ?_
  refine G.box (g := 13) rfl rfl rfl ?_
  refine G.storeB rfl rfl rfl rfl rfl rfl ?_
  refine WpOpsG.nil ?_
  change WpG _ _ _ _ _
  refine WpG.seq ?_
  refine WpG.reg ?_
  refine G.bslice (g := 20) rfl rfl rfl rfl ?_
  refine G.faddrB rfl ?_
  refine G.load1B rfl rfl rfl ?_
  refine G.app (ds := C.map encC) rfl rfl rfl rfl trivial (by rw [List.length_map]; show (0 + C.length) * 48 ≤ 2 ^ 47; omega) ?_
  refine G.mv rfl ?_
  refine G.mv rfl ?_
  refine G.mv rfl ?_
  refine G.build rfl ?_
  refine G.bsliceF rfl rfl rfl ?_
  refine G.app (cs := C.map encC) (ds := ([(⟨(x : Int), (y : Int), queue, 0, 0, 0⟩ : Ch)] : List Ch).map encC) rfl rfl rfl rfl trivial (by rw [List.length_map]; show (C.length + 1) * 48 ≤ 2 ^ 47; omega) ?_
  rw [← List.map_append]
  refine WpOpsG.freeze 20 rfl ?_
  change WpOpsG _ _ ((47, .fsl 6 ((C ++ [(⟨(x : Int), (y : Int), queue, 0, 0, 0⟩ : Ch)]).map encC)) :: _) _ _
  refine G.faddrB rfl ?_
  refine G.storeB rfl rfl rfl rfl rfl rfl ?_
  refine WpOpsG.nil ?_
  change WpG _ _ _ _ _
  refine WpG.seq ?_
  refine WpG.seq ?_
  refine WpG.reg ?_
  refine G.mv rfl ?_
  refine WpOpsG.nil ?_
  change WpG _ _ _ _ _
  refine WpG.block ?_
  refine WpG.loop (S := Nat) (fun p => [(3, .v (.bool queue)), (8, .v (.bool false)), (9, .bptr 12 0), (10, .v (.int .i64 (P.length : Int))), (11, .v (.int .i64 (x : Int))), (12, .v (.int .i64 (y : Int))), (13, .bptr 13 0), (14, .v (.int .i64 (p : Int)))]) (fun _ => [(12, .box [.fsl 11 (P.map encP), .fsl 6 (C.map encC), .fsl 1 (tabs.map encTb)]), (13, .box [.fsl 11 (P.map encP), .fsl 6 ((C ++ [(⟨(x : Int), (y : Int), queue, 0, 0, 0⟩ : Ch)]).map encC), .fsl 1 (tabs.map encTb)])]) (fun p => p ≤ P.length) (fun p => P.length - p) (fun s => ⟨rfl, rfl⟩) ?_ 0 ?_ (by repeat (first | exact trivial | refine ⟨rfl, ?_⟩)) (by repeat (first | exact trivial | refine ⟨rfl, ?_⟩)) rfl
  · intro p hp
    refine WpG.seq ?_
    refine WpG.seq ?_
    refine WpG.reg ?_
    refine G.mv rfl ?_
    refine G.mv rfl ?_
    refine G.bin rfl rfl rfl ?_
    refine WpOpsG.nil ?_
    change WpG _ _ _ _ _
    refine WpG.cond rfl (fun hq1 => ?_) (fun hq1 => ?_)
    · (try simp only [zN] at hq1)
      refine WpG.skip ?_
      change WpG _ _ _ _ _
      refine WpG.seq ?_
      refine WpG.block ?_
      refine WpG.seq ?_
      refine WpG.reg ?_
      refine G.loadNB rfl rfl rfl ?_
      refine G.mv rfl ?_
      refine G.loadNB rfl rfl rfl ?_
      refine G.ckcall0 rfl rfl rfl (greach_ok P C (tabs.map encTb) (by omega) (by omega) (p : Int)) ?_
      rintro _ _ ⟨rfl, rfl⟩
      refine ⟨rfl, ?_⟩
      change WpOpsG _ _ ((56, _) :: _) _ _
      refine G.mv rfl ?_
      refine G.call0 rfl rfl (greach_ok P (C ++ [(⟨(x : Int), (y : Int), queue, 0, 0, 0⟩ : Ch)]) (tabs.map encTb) (by omega) (by rw [List.length_append]; show C.length + 1 ≤ _; omega) (p : Int)) ?_
      rintro _ _ ⟨rfl, rfl⟩
      refine ⟨rfl, ?_⟩
      change WpOpsG _ _ ((59, _) :: _) _ _
      have hwf := was_filter (P := P) (C := C) (ch := (⟨(x : Int), (y : Int), queue, 0, 0, 0⟩ : Ch)) (p := p) (by omega)
      have hself := self_now (P := P) (C := (C ++ [(⟨(x : Int), (y : Int), queue, 0, 0, 0⟩ : Ch)])) (p := p) (by omega)
      change WpOpsG _ _ ((59, .fsl 1 ((wasV P (C ++ [(⟨(x : Int), (y : Int), queue, 0, 0, 0⟩ : Ch)]) p).map encI)) :: (58, _) :: (56, .fsl 1 ((wasV P C p).map encI)) :: _) _ _
      have hnl : (wasV P (C ++ [(⟨(x : Int), (y : Int), queue, 0, 0, 0⟩ : Ch)]) p).length ≤ P.length := reV_len _ _ _
      obtain ⟨now, hnow⟩ : ∃ z, wasV P (C ++ [(⟨(x : Int), (y : Int), queue, 0, 0, 0⟩ : Ch)]) p = z := ⟨_, rfl⟩
      rw [hnow] at hwf hself hnl ⊢
      obtain ⟨F, hF⟩ : ∃ F : Nat → Bool, (fun a => clo (swG P C) P.length a p) = F := ⟨_, rfl⟩
      rw [hF] at hwf
      rw [hwf]
      have hfl : (now.filter F).length ≤ now.length := List.length_filter_le _ _
      refine G.mv rfl ?_
      refine G.mv rfl ?_
      refine WpOpsG.nil ?_
      change WpG _ _ _ _ _
      refine WpG.seq ?_
      refine WpG.reg ?_
      refine G.mv rfl ?_
      refine WpOpsG.nil ?_
      change WpG _ _ _ _ _
      refine WpG.seq ?_
      refine WpG.reg ?_
      refine G.mv rfl ?_
      refine WpOpsG.nil ?_
      change WpG _ _ _ _ _
      refine WpG.seq ?_
      refine WpG.seq ?_
      refine WpG.reg ?_
      refine G.mv rfl ?_
      refine G.lenM rfl ?_
      refine G.mv rfl ?_
      refine WpOpsG.nil ?_
      change WpG _ _ _ _ _
      refine WpG.block ?_
      refine WpG.loop (S := Nat) (fun j => [(3, .v (.bool queue)), (8, .v (.bool false)), (9, .bptr 12 0), (10, .v (.int .i64 (P.length : Int))), (11, .v (.int .i64 (x : Int))), (12, .v (.int .i64 (y : Int))), (13, .bptr 13 0), (14, .v (.int .i64 (p : Int))), (15, .fsl 1 ((now.filter F).map encI)), (17, .v (.int .i64 (atV F now j : Int))), (18, .v (.bool ((now.take j).any (fun z => (z : Int) == (p : Int))))), (60, .fsl 1 (now.map encI)), (61, .v (.int .i64 (now.length : Int))), (62, .v (.int .i64 (j : Int)))]) (fun _ => [(12, .box [.fsl 11 (P.map encP), .fsl 6 (C.map encC), .fsl 1 (tabs.map encTb)]), (13, .box [.fsl 11 (P.map encP), .fsl 6 ((C ++ [(⟨(x : Int), (y : Int), queue, 0, 0, 0⟩ : Ch)]).map encC), .fsl 1 (tabs.map encTb)])]) (fun j => j ≤ now.length) (fun j => now.length - j) (fun s => ⟨rfl, rfl⟩) ?_ 0 ?_ (by repeat (first | exact trivial | refine ⟨rfl, ?_⟩)) (by repeat (first | exact trivial | refine ⟨rfl, ?_⟩)) rfl
      · intro j hj
        have haj : atV F now j ≤ j := Nat.le_trans (List.length_filter_le _ _) (by rw [List.length_take]; omega)
        refine WpG.seq ?_
        refine WpG.reg ?_
        refine G.bin rfl rfl rfl ?_
        refine WpOpsG.nil ?_
        change WpG _ _ _ _ _
        refine WpG.seq ?_
        refine WpG.cond rfl (fun hq2 => ?_) (fun hq2 => ?_)
        · (try simp only [zN] at hq2)
          refine WpG.skip ?_
          change WpG _ _ _ _ _
          refine WpG.seq ?_
          refine WpG.block ?_
          refine WpG.seq ?_
          refine WpG.reg ?_
          refine G.iaddrN rfl rfl (List.getElem?_eq_getElem (by omega)) ?_
          refine G.load1F rfl rfl ?_
          refine G.mv rfl ?_
          refine WpOpsG.nil ?_
          change WpG _ _ _ _ _
          refine WpG.seq ?_
          refine WpG.seq ?_
          refine WpG.reg ?_
          refine G.mv rfl ?_
          refine G.mv rfl ?_
          refine G.lenM rfl ?_
          refine G.bin rfl rfl rfl ?_
          refine G.mv rfl ?_
          apply G.andS rfl rfl rfl rfl rfl rfl
          case hB =>
            intro hs3
            (try simp only [zN] at hs3)
            refine G.mv rfl ?_
            refine G.mv rfl ?_
            refine G.iaddrM rfl rfl (by omega) (gd17 (0 : Nat) (by omega)) ?_
            rw [Int.toNat_natCast]
            refine G.load1F rfl rfl ?_
            refine G.mv rfl ?_
            refine G.bin rfl rfl rfl ?_
            refine WpOpsG.nil ?_
            exact ⟨rfl, (by repeat (first | exact LLe.refl _ | refine LLe.cons rfl ?_)), (by repeat (first | exact HLe.refl _ | refine HLe.cons rfl ?_)), rfl⟩
          refine WpOpsG.nil ?_
          change WpG _ _ _ _ _
          refine WpG.cond rfl (fun hq4 => ?_) (fun hq4 => ?_)
          · (try simp only [zN] at hq4)
            have hcc := hq4
            refine WpG.reg ?_
            refine G.mv rfl ?_
            refine G.addI rfl rfl (by omega) ?_
            refine G.mv rfl ?_
            refine WpOpsG.nil ?_
            change WpG _ _ _ _ _
            refine WpG.reg ?_
            refine G.mv rfl ?_
            refine G.mv rfl ?_
            apply G.orS rfl rfl rfl rfl rfl rfl
            case hB =>
              intro hs5
              (try simp only [zN] at hs5)
              refine G.mv rfl ?_
              refine G.mv rfl ?_
              refine G.bin rfl rfl rfl ?_
              refine WpOpsG.nil ?_
              exact ⟨rfl, (by repeat (first | exact LLe.refl _ | refine LLe.cons rfl ?_)), (by repeat (first | exact HLe.refl _ | refine HLe.cons rfl ?_)), rfl⟩
            refine G.mv rfl ?_
            refine WpOpsG.nil ?_
            change WpG _ _ _ _ _
            refine WpG.reg ?_
            refine G.addI rfl rfl (by omega) ?_
            refine G.mv rfl ?_
            refine WpOpsG.nil ?_
            refine ⟨j + 1, by omega, by omega, ⟨rfl, rfl, rfl, rfl, rfl, rfl, rfl, rfl, rfl, ?_, ?_, rfl, rfl, rfl, trivial⟩, ⟨rfl, rfl, trivial⟩, rfl⟩
            · rw [at_snoc (show j < now.length by omega)]
              first
                | (rw [if_pos (more_T (by omega) hcc), Int.natCast_add]; rfl)
                | (rw [if_neg (more_F (by omega) hcc)]; rfl)
            · rw [any_take (by omega)]; rfl
          · (try simp only [zN] at hq4)
            have hcc := hq4
            refine WpG.skip ?_
            change WpG _ _ _ _ _
            refine WpG.reg ?_
            refine G.mv rfl ?_
            refine G.mv rfl ?_
            apply G.orS rfl rfl rfl rfl rfl rfl
            case hB =>
              intro hs6
              (try simp only [zN] at hs6)
              refine G.mv rfl ?_
              refine G.mv rfl ?_
              refine G.bin rfl rfl rfl ?_
              refine WpOpsG.nil ?_
              exact ⟨rfl, (by repeat (first | exact LLe.refl _ | refine LLe.cons rfl ?_)), (by repeat (first | exact HLe.refl _ | refine HLe.cons rfl ?_)), rfl⟩
            refine G.mv rfl ?_
            refine WpOpsG.nil ?_
            change WpG _ _ _ _ _
            refine WpG.reg ?_
            refine G.addI rfl rfl (by omega) ?_
            refine G.mv rfl ?_
            refine WpOpsG.nil ?_
            refine ⟨j + 1, by omega, by omega, ⟨rfl, rfl, rfl, rfl, rfl, rfl, rfl, rfl, rfl, ?_, ?_, rfl, rfl, rfl, trivial⟩, ⟨rfl, rfl, trivial⟩, rfl⟩
            · rw [at_snoc (show j < now.length by omega)]
              first
                | (rw [if_pos (more_T (by omega) hcc), Int.natCast_add]; rfl)
                | (rw [if_neg (more_F (by omega) hcc)]; rfl)
            · rw [any_take (by omega)]; rfl
        · (try simp only [zN] at hq2)
          refine WpG.exit ?_
          change WpG _ _ _ _ _
          refine WpG.seq ?_
          refine WpG.reg ?_
          refine G.mv rfl ?_
          refine G.mv rfl ?_
          refine G.lenM rfl ?_
          refine G.bin rfl rfl rfl ?_
          rw [at_end (by omega), bne_self_eq_false]
          refine G.mv rfl ?_
          refine WpOpsG.known 91 false rfl rfl ?_
          refine G.mv rfl ?_
          refine G.un rfl rfl ?_
          rw [any_self hself (by omega)]
          refine G.pickF rfl rfl ?_
          refine WpOpsG.nil ?_
          change WpG _ _ _ _ _
          refine WpG.cond rfl (fun hq7 => absurd hq7 (by decide)) (fun hq7 => ?_)
          refine WpG.skip ?_
          change WpG _ _ _ _ _
          refine WpG.reg ?_
          refine G.mv rfl ?_
          refine G.addI rfl rfl (by omega) ?_
          refine G.mv rfl ?_
          refine WpOpsG.nil ?_
          exact ⟨p + 1, by omega, by omega, ⟨rfl, rfl, rfl, rfl, rfl, rfl, rfl, rfl, trivial⟩, ⟨rfl, rfl, trivial⟩, rfl⟩
      · exact Nat.zero_le _
    · (try simp only [zN] at hq1)
      refine WpG.exit ?_
      change WpG _ _ _ _ _
      refine WpG.seq ?_
      refine WpG.reg ?_
      refine G.loadNB rfl rfl rfl ?_
      refine G.call0 rfl rfl (gsw_ok P (C ++ [(⟨(x : Int), (y : Int), queue, 0, 0, 0⟩ : Ch)]) (tabs.map encTb) (by omega) (by rw [List.length_append]; show C.length + 1 ≤ _; omega)) ?_
      rintro _ _ ⟨rfl, rfl⟩
      refine ⟨rfl, ?_⟩
      change WpOpsG _ _ ((96, _) :: _) _ _
      refine G.mv rfl ?_
      refine WpOpsG.nil ?_
      change WpG _ _ _ _ _
      refine WpG.seq ?_
      have hbo : both7 P.length (⟨(x : Int), (y : Int), queue, 0, 0, 0⟩ : Ch) = true := both_ok ⟨⟨by show 0 ≤ (x : Int); omega, by show (x : Int) < _; omega⟩, by show 0 ≤ (y : Int); omega, by show (y : Int) < _; omega⟩
      have hsw := sw_chan (P := P) (C := (C ++ [(⟨(x : Int), (y : Int), queue, 0, 0, 0⟩ : Ch)])) (x := (⟨(x : Int), (y : Int), queue, 0, 0, 0⟩ : Ch)) (by simp) hbo
      have hde := dep_chan (P := P) (C := (C ++ [(⟨(x : Int), (y : Int), queue, 0, 0, 0⟩ : Ch)])) (x := (⟨(x : Int), (y : Int), queue, 0, 0, 0⟩ : Ch)) (by simp) hbo
      have hsw1 : (swG P (C ++ [(⟨(x : Int), (y : Int), queue, 0, 0, 0⟩ : Ch)])) x y = true := hsw.1
      have hsw2 : queue = true → (swG P (C ++ [(⟨(x : Int), (y : Int), queue, 0, 0, 0⟩ : Ch)])) y x = true := hsw.2
      have hde1 : depG P (C ++ [(⟨(x : Int), (y : Int), queue, 0, 0, 0⟩ : Ch)]) x y = true := hde
      refine WpG.reg ?_
      refine G.mv rfl ?_
      refine G.lenM rfl ?_
      rw [matF_len]
      refine G.mv rfl ?_
      refine G.bin rfl rfl rfl ?_
      rw [beq_self_eq_true]
      refine G.mv rfl ?_
      refine WpOpsG.known 101 true rfl rfl ?_
      refine G.mv rfl ?_
      refine G.mv rfl ?_
      refine G.iaddrM rfl rfl (by omega) (gd17 [] (by rw [matF_len]; omega)) ?_
      try rw [Int.toNat_natCast]
      refine G.load1F rfl rfl ?_
      refine G.mv rfl ?_
      refine G.iaddrM rfl rfl (by omega) (gd17 false (by rw [matF_row (by omega)]; omega)) ?_
      try rw [Int.toNat_natCast]
      refine G.load1F rfl rfl ?_
      rw [matF_get (by omega) (by omega), hsw1]
      refine G.pickT rfl rfl ?_
      refine G.mv rfl ?_
      refine WpOpsG.known 110 true rfl rfl ?_
      refine G.mv rfl ?_
      refine G.un rfl rfl ?_
      refine G.mv rfl ?_
      apply G.orS rfl rfl rfl rfl rfl rfl
      case hB =>
        intro hs8
        (try simp only [zN] at hs8)
        refine G.mv rfl ?_
        refine G.mv rfl ?_
        refine G.iaddrM rfl rfl (by omega) (gd17 [] (by rw [matF_len]; omega)) ?_
        try rw [Int.toNat_natCast]
        refine G.load1F rfl rfl ?_
        refine G.mv rfl ?_
        refine G.iaddrM rfl rfl (by omega) (gd17 false (by rw [matF_row (by omega)]; omega)) ?_
        try rw [Int.toNat_natCast]
        refine G.load1F rfl rfl ?_
        rw [matF_get (by omega) (by omega)]
        refine WpOpsG.nil ?_
        exact ⟨rfl, (by repeat (first | exact LLe.refl _ | refine LLe.cons rfl ?_)), (by repeat (first | exact HLe.refl _ | refine HLe.cons rfl ?_)), rfl⟩
      refine G.pickT rfl rfl ?_
      refine G.mv rfl ?_
      rw [more_q hsw2]
      refine WpOpsG.known 123 true rfl rfl ?_
      refine G.loadNB rfl rfl rfl ?_
      refine G.mv rfl ?_
      refine G.mv rfl ?_
      refine G.call0 rfl rfl (gfree_ok P (C ++ [(⟨(x : Int), (y : Int), queue, 0, 0, 0⟩ : Ch)]) (tabs.map encTb) (by omega) (by rw [List.length_append]; show C.length + 1 ≤ _; omega) (x : Int) (y : Int)) ?_
      rintro _ _ ⟨rfl, rfl⟩
      refine ⟨rfl, ?_⟩
      change WpOpsG _ _ ((127, _) :: _) _ _
      refine G.un rfl rfl ?_
      rw [free_dep (by omega) (by omega), hde1]
      refine G.pickT rfl rfl ?_
      refine G.mv rfl ?_
      refine WpOpsG.known 130 true rfl rfl ?_
      refine G.loadNB rfl rfl rfl ?_
      refine G.mv rfl ?_
      refine G.call0 rfl rfl (gfree_ok P (C ++ [(⟨(x : Int), (y : Int), queue, 0, 0, 0⟩ : Ch)]) (tabs.map encTb) (by omega) (by rw [List.length_append]; show C.length + 1 ≤ _; omega) (-1) (x : Int)) ?_
      rintro _ _ ⟨rfl, rfl⟩
      refine ⟨rfl, ?_⟩
      change WpOpsG _ _ ((133, _) :: _) _ _
      rw [free_m1 (by omega)]
      refine G.pickT rfl rfl ?_
      refine G.mv rfl ?_
      refine WpOpsG.known 135 true rfl rfl ?_
      refine G.call0 rfl rfl (known7_ok) ?_
      rintro _ _ ⟨rfl, rfl⟩
      refine ⟨rfl, ?_⟩
      change WpOpsG _ _ ((136, _) :: _) _ _
      refine G.pickT rfl rfl ?_
      refine G.mv rfl ?_
      refine WpOpsG.nil ?_
      change WpG _ _ _ _ _
      refine WpG.ret ?_
      refine ⟨_, [], rfl, (hasP_le (by repeat (first | exact trivial | refine ⟨rfl, ?_⟩))), rfl, rfl, rfl, ?_⟩
      exact ⟨rfl, rfl⟩
  · exact Nat.zero_le _
end Go.AM.L7
