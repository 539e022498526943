/- Contracts of the functions that the statement reaches. No condition. -/
import Derived.Test.YtbnhmpjcmgbabaaC17e
import Derived.Test.YtbnhmpjcmgbabaaPL17c
set_option linter.all false
set_option maxRecDepth 10000
namespace Go.AM.L17
open Go.AM.PL
theorem portApart_ok (C : List Ch) (l : List Askd) (w : Int) (hC : C.length ≤ 2 ^ 50) (hl : l.length * 24 ≤ 2 ^ 47) (hok : ∀ c ∈ C, okC c) (hal : ∀ a ∈ l, okA a) (hw : i64 w) : WpCallG A 6 [.fsl 6 (C.map encC), .fsl 3 (l.map encA), .v (.int .i64 w)] [] (fun v H => v = .v (.bool true) ∧ H = []) := by
  refine WpCallG.intro g6 rfl rfl ?_
  unfold af6
  change WpG _ _ _ _ _
  refine WpG.seq ?_
  refine WpG.reg ?_
  refine G.mv rfl ?_
  refine WpOpsG.nil ?_
  change WpG _ _ _ _ _
  refine WpG.seq ?_
  refine WpG.reg ?_
  refine G.mv rfl ?_
  refine G.call0 rfl rfl ((few_w C hC hok).ren [(0, 20)]) ?_
  rintro _ _ ⟨_, _, ⟨rfl, rfl⟩, rfl, rfl⟩
  change newOk _ _ [(20, _)] = true ∧ _
  refine ⟨rfl, ?_⟩
  change WpOpsG _ _ ((14, .osl 20) :: _) ([(20, .arr .yes 6 ((fewV C).map encC))] ++ _) _
  obtain ⟨D, hD⟩ : ∃ D, fewV C = D := ⟨_, rfl⟩
  have hDl := few_len C
  rw [hD] at hDl ⊢
  refine WpOpsG.freeze 20 rfl ?_
  refine G.mv rfl ?_
  refine WpOpsG.nil ?_
  change WpG _ _ _ _ _
  refine WpG.seq ?_
  refine WpG.seq ?_
  refine WpG.reg ?_
  refine G.mv rfl ?_
  first | refine G.lenM rfl ?_ | refine G.lenOM rfl rfl ?_ | refine G.lenF rfl ?_ | refine G.lenO rfl rfl ?_ | refine G.lenNil rfl ?_
  refine G.bin rfl rfl rfl ?_
  refine WpOpsG.nil ?_
  change WpG _ _ _ _ _
  refine WpG.cond rfl (fun hq1 => ?_) (fun hq1 => ?_)
  · (try simp only [decide_eq_true_eq, decide_eq_false_iff_not, Bool.or_eq_true, Bool.and_eq_true, Bool.or_eq_false_iff, Bool.and_eq_false_iff, bne_iff_ne, beq_iff_eq, beq_eq_false_iff_ne, bne_eq_false_iff_eq, ne_eq, Bool.not_eq_true', Bool.not_eq_false', Int.not_lt, Int.not_le, Decidable.not_not, List.length_map, List.length_cons, List.length_nil] at hq1)
    refine WpG.seq ?_
    refine WpG.reg ?_
    refine G.call0 rfl rfl (known17_ok) ?_
    rintro _ _ ⟨rfl, rfl⟩
    refine ⟨rfl, ?_⟩
    change WpOpsG _ _ ((18, _) :: _) _ _
    refine G.mv rfl ?_
    refine WpOpsG.nil ?_
    change WpG _ _ _ _ _
    refine WpG.ret ?_
    refine ⟨_, [], rfl, (hasP_le (by repeat (first | exact trivial | refine ⟨rfl, ?_⟩))), rfl, rfl, rfl, ?_⟩
    exact ⟨rfl, rfl⟩
  · (try simp only [decide_eq_true_eq, decide_eq_false_iff_not, Bool.or_eq_true, Bool.and_eq_true, Bool.or_eq_false_iff, Bool.and_eq_false_iff, bne_iff_ne, beq_iff_eq, beq_eq_false_iff_ne, bne_eq_false_iff_eq, ne_eq, Bool.not_eq_true', Bool.not_eq_false', Int.not_lt, Int.not_le, Decidable.not_not, List.length_map, List.length_cons, List.length_nil] at hq1)
    refine WpG.skip ?_
    change WpG _ _ _ _ _
    refine WpG.seq ?_
    refine WpG.reg ?_
    refine G.mv rfl ?_
    refine G.mv rfl ?_
    first | refine G.lenM rfl ?_ | refine G.lenOM rfl rfl ?_ | refine G.lenF rfl ?_ | refine G.lenO rfl rfl ?_ | refine G.lenNil rfl ?_
    first | refine G.subI rfl rfl (by omega) ?_ | refine G.bin rfl rfl rfl ?_
    refine G.call0 rfl rfl (within_ok w 0 ((D.length : Int) - 1) hw (by decide) (by omega) (by omega)) ?_
    rintro _ _ ⟨rfl, rfl⟩
    refine ⟨rfl, ?_⟩
    change WpOpsG _ _ ((23, _) :: _) _ _
    obtain ⟨k, hk, hk2⟩ := within_nat1 w (D.length - 1)
    rw [show (D.length : Int) - 1 = ((D.length - 1 : Nat) : Int) by omega, hk]
    have hkl : k < D.length := by omega
    refine G.mv rfl ?_
    refine WpOpsG.nil ?_
    change WpG _ _ _ _ _
    refine WpG.seq ?_
    refine WpG.reg ?_
    refine G.mv rfl ?_
    refine G.call0 rfl rfl ((new_ok D (by omega)).ren [(0, 10), (1, 11)]) ?_
    rintro _ _ ⟨_, _, ⟨rfl, rfl⟩, rfl, rfl⟩
    change newOk _ _ [(10, .box [.fsl 6 (D.map encC), .msl 11]), (11, .mat 1 _)] = true ∧ _
    refine ⟨rfl, ?_⟩
    change WpOpsG _ _ ((25, .bptr 10 0) :: _) ([(10, .box [.fsl 6 (D.map encC), .msl 11]), (11, .mat 1 (encHas (List.replicate D.length [])))] ++ _) _
    refine G.mv rfl ?_
    refine G.call0 rfl rfl ((new_ok D (by omega)).ren [(0, 12), (1, 13)]) ?_
    rintro _ _ ⟨_, _, ⟨rfl, rfl⟩, rfl, rfl⟩
    change newOk _ _ [(12, .box [.fsl 6 (D.map encC), .msl 13]), (13, .mat 1 _)] = true ∧ _
    refine ⟨rfl, ?_⟩
    change WpOpsG _ _ ((27, .bptr 12 0) :: _) ([(12, .box [.fsl 6 (D.map encC), .msl 13]), (13, .mat 1 (encHas (List.replicate D.length [])))] ++ _) _
    refine G.mv rfl ?_
    refine G.mv rfl ?_
    refine WpOpsG.nil ?_
    change WpG _ _ _ _ _
    refine WpG.seq ?_
    refine WpG.seq ?_
    refine WpG.reg ?_
    refine G.mv rfl ?_
    first | refine G.eqnilB rfl ?_ | refine G.eqnilP rfl ?_ | refine G.eqnilF rfl (fun hnil29 hnil29_e => ?_)
    refine G.mv rfl ?_
    refine WpOpsG.known 30 false rfl rfl ?_
    refine G.mv rfl ?_
    first | refine G.eqnilB rfl ?_ | refine G.eqnilP rfl ?_ | refine G.eqnilF rfl (fun hnil32 hnil32_e => ?_)
    first | refine G.pickT rfl rfl ?_ | refine G.pickF rfl rfl ?_ | refine G.pick rfl rfl rfl ?_
    refine WpOpsG.nil ?_
    change WpG _ _ _ _ _
    refine WpG.cond rfl (fun hq2 => absurd hq2 (by first | decide | simp)) (fun hq2 => ?_)
    refine WpG.skip ?_
    change WpG _ _ _ _ _
    refine WpG.seq ?_
    refine WpG.seq ?_
    refine WpG.reg ?_
    refine G.mv rfl ?_
    refine WpOpsG.nil ?_
    change WpG _ _ _ _ _
    refine WpG.block ?_
    refine WpG.loop (S := Nat × List (List Int) × List (List Int)) (fun s => [(1, .fsl 3 (l.map encA)), (7, .fsl 6 (D.map encC)), (8, .v (.int .i64 (k : Int))), (9, .bptr 10 0), (10, .bptr 12 0), (11, .v (.int .i64 (s.1 : Int)))]) (fun s => [(10, .box [.fsl 6 (D.map encC), .msl 11]), (11, .mat 1 (encHas s.2.1)), (12, .box [.fsl 6 (D.map encC), .msl 13]), (13, .mat 1 (encHas s.2.2))]) (fun s => s.1 ≤ l.length ∧ s.1 ≤ 60 ∧ AP D k s.1 s.2.1 s.2.2) (fun s => 60 - s.1) (fun s => ⟨rfl, rfl⟩) ?_ (0, List.replicate D.length [], List.replicate D.length []) ?_ (by repeat (first | exact trivial | refine ⟨rfl, ?_⟩)) (by repeat (first | exact trivial | refine ⟨rfl, ?_⟩)) rfl
    · rintro ⟨i, SP, SQ⟩ ⟨hI, hI2, hAP⟩
      dsimp only at hI hI2 hAP ⊢
      refine WpG.seq ?_
      refine WpG.seq ?_
      refine WpG.reg ?_
      refine G.mv rfl ?_
      refine G.mv rfl ?_
      first | refine G.lenM rfl ?_ | refine G.lenOM rfl rfl ?_ | refine G.lenF rfl ?_ | refine G.lenO rfl rfl ?_ | refine G.lenNil rfl ?_
      refine G.bin rfl rfl rfl ?_
      refine G.mv rfl ?_
      apply G.andS rfl rfl rfl rfl rfl rfl
      case hB =>
        intro hs3
        (try simp only [decide_eq_true_eq, decide_eq_false_iff_not, Bool.or_eq_true, Bool.and_eq_true, Bool.or_eq_false_iff, Bool.and_eq_false_iff, bne_iff_ne, beq_iff_eq, beq_eq_false_iff_ne, bne_eq_false_iff_eq, ne_eq, Bool.not_eq_true', Bool.not_eq_false', Int.not_lt, Int.not_le, Decidable.not_not, List.length_map, List.length_cons, List.length_nil] at hs3)
        refine G.mv rfl ?_
        refine G.bin rfl rfl rfl ?_
        refine WpOpsG.nil ?_
        exact ⟨rfl, (by repeat (first | exact LLe.refl _ | refine LLe.cons rfl ?_)), (by repeat (first | exact HLe.refl _ | refine HLe.cons rfl ?_)), rfl⟩
      refine WpOpsG.nil ?_
      change WpG _ _ _ _ _
      refine WpG.cond rfl (fun hq4 => ?_) (fun hq4 => ?_)
      · (try simp only [decide_eq_true_eq, decide_eq_false_iff_not, Bool.or_eq_true, Bool.and_eq_true, Bool.or_eq_false_iff, Bool.and_eq_false_iff, bne_iff_ne, beq_iff_eq, beq_eq_false_iff_ne, bne_eq_false_iff_eq, ne_eq, Bool.not_eq_true', Bool.not_eq_false', Int.not_lt, Int.not_le, Decidable.not_not, List.length_map, List.length_cons, List.length_nil] at hq4)
        refine WpG.skip ?_
        change WpG _ _ _ _ _
        refine WpG.seq ?_
        refine WpG.block ?_
        refine WpG.seq ?_
        refine WpG.reg ?_
        refine G.mv rfl ?_
        refine G.mv rfl ?_
        first | refine G.iaddrN rfl rfl (List.getElem?_eq_getElem (by first | omega | (simp only [List.length_map, List.length_append, List.length_cons, List.length_nil, List.length_replicate, List.length_take, List.length_drop, List.length_set]; omega))) ?_ | refine G.iaddrM rfl rfl (by omega) (List.getElem?_eq_getElem (by first | omega | (simp only [List.length_map, List.length_append, List.length_cons, List.length_nil, List.length_replicate, List.length_take, List.length_drop, List.length_set]; omega))) ?_ | refine G.iaddrF rfl rfl (by omega) rfl ?_ | refine G.iaddrO rfl rfl rfl (by omega) (by first | omega | (simp only [List.length_map, List.length_append, List.length_cons, List.length_nil, List.length_replicate, List.length_take, List.length_drop, List.length_set]; omega)) ?_ | refine G.iaddrF rfl rfl (by omega) (List.getElem?_eq_getElem (by first | omega | (simp only [List.length_map, List.length_append, List.length_cons, List.length_nil, List.length_replicate, List.length_take, List.length_drop, List.length_set]; omega))) ?_
        first | refine G.faddrB rfl ?_ | refine G.faddrF rfl ?_ | refine G.faddrE rfl ?_
        first | refine G.load1B rfl rfl rfl ?_ | refine G.load1F rfl rfl ?_ | refine G.load1E rfl rfl (List.getElem?_eq_getElem (by first | omega | (simp only [List.length_map, List.length_append, List.length_cons, List.length_nil, List.length_replicate, List.length_take, List.length_drop, List.length_set]; omega))) rfl ?_ | refine G.load1EM rfl rfl (List.getElem?_eq_getElem (by first | omega | (simp only [List.length_map, List.length_append, List.length_cons, List.length_nil, List.length_replicate, List.length_take, List.length_drop, List.length_set]; omega))) rfl ?_
        refine G.mv rfl ?_
        first | refine G.lenM rfl ?_ | refine G.lenOM rfl rfl ?_ | refine G.lenF rfl ?_ | refine G.lenO rfl rfl ?_ | refine G.lenNil rfl ?_
        first | refine G.subI rfl rfl (by omega) ?_ | refine G.bin rfl rfl rfl ?_
        refine G.call0 rfl rfl (within_ok l[i].i 0 ((D.length : Int) - 1) (hal _ (List.getElem_mem (by omega))).2.1 (by decide) (by omega) (by omega)) ?_
        rintro _ _ ⟨rfl, rfl⟩
        refine ⟨rfl, ?_⟩
        change WpOpsG _ _ ((52, _) :: _) _ _
        obtain ⟨m, hm, hm2⟩ := within_nat1 l[i].i (D.length - 1)
        rw [show (D.length : Int) - 1 = ((D.length - 1 : Nat) : Int) by omega, hm]
        have hml : m < D.length := by omega
        refine G.mv rfl ?_
        refine WpOpsG.nil ?_
        change WpG _ _ _ _ _
        obtain ⟨P2, hP2⟩ : ∃ S2, (if andI .i64 l[i].kind 1 = 0 then sendS D SP (m : Int) (andI .u32 l[i].n 15) else recvS D SP (m : Int)) = S2 := ⟨_, rfl⟩
        obtain ⟨Q2, hQ2⟩ : ∃ S2, (if m = k then (if andI .i64 l[i].kind 1 = 0 then sendS D SQ (m : Int) (andI .u32 l[i].n 15) else recvS D SQ (m : Int)) else SQ) = S2 := ⟨_, rfl⟩
        obtain ⟨hP1, hQ1, hPs, hQs, hAP0⟩ := hAP
        have hA2 := ap_step ⟨hP1, hQ1, hPs, hQs, hAP0⟩ hml hP2 hQ2
        refine WpG.seqJ ([(1, .fsl 3 (l.map encA)), (7, .fsl 6 (D.map encC)), (8, .v (.int .i64 (k : Int))), (9, .bptr 10 0), (10, .bptr 12 0), (11, .v (.int .i64 (i : Int)))]) ([(10, .box [.fsl 6 (D.map encC), .msl 11]), (11, .mat 1 (encHas P2)), (12, .box [.fsl 6 (D.map encC), .msl 13]), (13, .mat 1 (encHas Q2))]) ⟨rfl, rfl⟩ ?_ ?_
        · change WpG _ _ _ _ _
          refine WpG.seq ?_
          refine WpG.reg ?_
          refine G.mv rfl ?_
          refine G.mv rfl ?_
          first | refine G.iaddrN rfl rfl (List.getElem?_eq_getElem (by first | omega | (simp only [List.length_map, List.length_append, List.length_cons, List.length_nil, List.length_replicate, List.length_take, List.length_drop, List.length_set]; omega))) ?_ | refine G.iaddrM rfl rfl (by omega) (List.getElem?_eq_getElem (by first | omega | (simp only [List.length_map, List.length_append, List.length_cons, List.length_nil, List.length_replicate, List.length_take, List.length_drop, List.length_set]; omega))) ?_ | refine G.iaddrF rfl rfl (by omega) rfl ?_ | refine G.iaddrO rfl rfl rfl (by omega) (by first | omega | (simp only [List.length_map, List.length_append, List.length_cons, List.length_nil, List.length_replicate, List.length_take, List.length_drop, List.length_set]; omega)) ?_ | refine G.iaddrF rfl rfl (by omega) (List.getElem?_eq_getElem (by first | omega | (simp only [List.length_map, List.length_append, List.length_cons, List.length_nil, List.length_replicate, List.length_take, List.length_drop, List.length_set]; omega))) ?_
          first | refine G.faddrB rfl ?_ | refine G.faddrF rfl ?_ | refine G.faddrE rfl ?_
          first | refine G.load1B rfl rfl rfl ?_ | refine G.load1F rfl rfl ?_ | refine G.load1E rfl rfl (List.getElem?_eq_getElem (by first | omega | (simp only [List.length_map, List.length_append, List.length_cons, List.length_nil, List.length_replicate, List.length_take, List.length_drop, List.length_set]; omega))) rfl ?_ | refine G.load1EM rfl rfl (List.getElem?_eq_getElem (by first | omega | (simp only [List.length_map, List.length_append, List.length_cons, List.length_nil, List.length_replicate, List.length_take, List.length_drop, List.length_set]; omega))) rfl ?_
          refine G.andK rfl rfl ?_
          refine G.bin rfl rfl rfl ?_
          refine WpOpsG.nil ?_
          change WpG _ _ _ _ _
          refine WpG.cond rfl (fun hq5 => ?_) (fun hq5 => ?_)
          · (try simp only [decide_eq_true_eq, decide_eq_false_iff_not, Bool.or_eq_true, Bool.and_eq_true, Bool.or_eq_false_iff, Bool.and_eq_false_iff, bne_iff_ne, beq_iff_eq, beq_eq_false_iff_ne, bne_eq_false_iff_eq, ne_eq, Bool.not_eq_true', Bool.not_eq_false', Int.not_lt, Int.not_le, Decidable.not_not, List.length_map, List.length_cons, List.length_nil] at hq5)
            refine WpG.seq ?_
            refine WpG.reg ?_
            refine G.mv rfl ?_
            refine G.mv rfl ?_
            refine G.mv rfl ?_
            refine G.mv rfl ?_
            first | refine G.iaddrN rfl rfl (List.getElem?_eq_getElem (by first | omega | (simp only [List.length_map, List.length_append, List.length_cons, List.length_nil, List.length_replicate, List.length_take, List.length_drop, List.length_set]; omega))) ?_ | refine G.iaddrM rfl rfl (by omega) (List.getElem?_eq_getElem (by first | omega | (simp only [List.length_map, List.length_append, List.length_cons, List.length_nil, List.length_replicate, List.length_take, List.length_drop, List.length_set]; omega))) ?_ | refine G.iaddrF rfl rfl (by omega) rfl ?_ | refine G.iaddrO rfl rfl rfl (by omega) (by first | omega | (simp only [List.length_map, List.length_append, List.length_cons, List.length_nil, List.length_replicate, List.length_take, List.length_drop, List.length_set]; omega)) ?_ | refine G.iaddrF rfl rfl (by omega) (List.getElem?_eq_getElem (by first | omega | (simp only [List.length_map, List.length_append, List.length_cons, List.length_nil, List.length_replicate, List.length_take, List.length_drop, List.length_set]; omega))) ?_
            first | refine G.faddrB rfl ?_ | refine G.faddrF rfl ?_ | refine G.faddrE rfl ?_
            first | refine G.load1B rfl rfl rfl ?_ | refine G.load1F rfl rfl ?_ | refine G.load1E rfl rfl (List.getElem?_eq_getElem (by first | omega | (simp only [List.length_map, List.length_append, List.length_cons, List.length_nil, List.length_replicate, List.length_take, List.length_drop, List.length_set]; omega))) rfl ?_ | refine G.load1EM rfl rfl (List.getElem?_eq_getElem (by first | omega | (simp only [List.length_map, List.length_append, List.length_cons, List.length_nil, List.length_replicate, List.length_take, List.length_drop, List.length_set]; omega))) rfl ?_
            refine G.andK rfl rfl ?_
            refine G.call (P := [(10, .box [.fsl 6 (D.map encC), .msl 11]), (11, .mat 1 (encHas SP))]) rfl (by repeat (first | exact trivial | refine ⟨rfl, ?_⟩)) rfl rfl ((send_ok D SP (m : Int) (andI .u32 l[i].n 15) (by omega) (by omega) (smallS_le (by assumption) (by omega))).ren [(1, 10), (2, 11)]) ?_
            rintro _ _ ⟨_, _, ⟨rfl, rfl⟩, rfl, rfl⟩
            have e := hP2
            rw [if_pos (by assumption)] at e
            rw [e]
            change newOk _ _ [(10, .box [.fsl 6 (D.map encC), .msl 11]), (11, .mat 1 (encHas P2))] = true ∧ _
            refine ⟨rfl, ?_⟩
            change WpOpsG _ _ ((68, _) :: _) ([(10, .box [.fsl 6 (D.map encC), .msl 11]), (11, .mat 1 (encHas P2))] ++ _) _
            refine WpOpsG.nil ?_
            change WpG _ _ _ _ _
            refine WpG.seq ?_
            refine WpG.reg ?_
            refine G.mv rfl ?_
            refine G.mv rfl ?_
            refine G.bin rfl rfl rfl ?_
            refine WpOpsG.nil ?_
            change WpG _ _ _ _ _
            refine WpG.cond rfl (fun hq6 => ?_) (fun hq6 => ?_)
            · (try simp only [decide_eq_true_eq, decide_eq_false_iff_not, Bool.or_eq_true, Bool.and_eq_true, Bool.or_eq_false_iff, Bool.and_eq_false_iff, bne_iff_ne, beq_iff_eq, beq_eq_false_iff_ne, bne_eq_false_iff_eq, ne_eq, Bool.not_eq_true', Bool.not_eq_false', Int.not_lt, Int.not_le, Decidable.not_not, List.length_map, List.length_cons, List.length_nil] at hq6)
              refine WpG.reg ?_
              refine G.mv rfl ?_
              refine G.mv rfl ?_
              refine G.mv rfl ?_
              refine G.mv rfl ?_
              first | refine G.iaddrN rfl rfl (List.getElem?_eq_getElem (by first | omega | (simp only [List.length_map, List.length_append, List.length_cons, List.length_nil, List.length_replicate, List.length_take, List.length_drop, List.length_set]; omega))) ?_ | refine G.iaddrM rfl rfl (by omega) (List.getElem?_eq_getElem (by first | omega | (simp only [List.length_map, List.length_append, List.length_cons, List.length_nil, List.length_replicate, List.length_take, List.length_drop, List.length_set]; omega))) ?_ | refine G.iaddrF rfl rfl (by omega) rfl ?_ | refine G.iaddrO rfl rfl rfl (by omega) (by first | omega | (simp only [List.length_map, List.length_append, List.length_cons, List.length_nil, List.length_replicate, List.length_take, List.length_drop, List.length_set]; omega)) ?_ | refine G.iaddrF rfl rfl (by omega) (List.getElem?_eq_getElem (by first | omega | (simp only [List.length_map, List.length_append, List.length_cons, List.length_nil, List.length_replicate, List.length_take, List.length_drop, List.length_set]; omega))) ?_
              first | refine G.faddrB rfl ?_ | refine G.faddrF rfl ?_ | refine G.faddrE rfl ?_
              first | refine G.load1B rfl rfl rfl ?_ | refine G.load1F rfl rfl ?_ | refine G.load1E rfl rfl (List.getElem?_eq_getElem (by first | omega | (simp only [List.length_map, List.length_append, List.length_cons, List.length_nil, List.length_replicate, List.length_take, List.length_drop, List.length_set]; omega))) rfl ?_ | refine G.load1EM rfl rfl (List.getElem?_eq_getElem (by first | omega | (simp only [List.length_map, List.length_append, List.length_cons, List.length_nil, List.length_replicate, List.length_take, List.length_drop, List.length_set]; omega))) rfl ?_
              refine G.andK rfl rfl ?_
              refine G.call (P := [(12, .box [.fsl 6 (D.map encC), .msl 13]), (13, .mat 1 (encHas SQ))]) rfl (by repeat (first | exact trivial | refine ⟨rfl, ?_⟩)) rfl rfl ((send_ok D SQ (m : Int) (andI .u32 l[i].n 15) (by omega) (by omega) (smallS_le (by assumption) (by omega))).ren [(1, 12), (2, 13)]) ?_
              rintro _ _ ⟨_, _, ⟨rfl, rfl⟩, rfl, rfl⟩
              have e := hQ2
              rw [if_pos (by omega), if_pos (by assumption)] at e
              rw [e]
              change newOk _ _ [(12, .box [.fsl 6 (D.map encC), .msl 13]), (13, .mat 1 (encHas Q2))] = true ∧ _
              refine ⟨rfl, ?_⟩
              change WpOpsG _ _ ((80, _) :: _) ([(12, .box [.fsl 6 (D.map encC), .msl 13]), (13, .mat 1 (encHas Q2))] ++ _) _
              refine WpOpsG.nil ?_
              first
                | exact ⟨(by repeat (first | exact trivial | refine ⟨rfl, ?_⟩)), ⟨rfl, rfl, rfl, rfl, trivial⟩, rfl⟩
                | (refine ⟨(by repeat (first | exact trivial | refine ⟨rfl, ?_⟩)), ⟨rfl, rfl, rfl, ?_, trivial⟩, rfl⟩
                   rw [show Q2 = SQ by rw [← hQ2, if_neg (by omega)]]; rfl)
            · (try simp only [decide_eq_true_eq, decide_eq_false_iff_not, Bool.or_eq_true, Bool.and_eq_true, Bool.or_eq_false_iff, Bool.and_eq_false_iff, bne_iff_ne, beq_iff_eq, beq_eq_false_iff_ne, bne_eq_false_iff_eq, ne_eq, Bool.not_eq_true', Bool.not_eq_false', Int.not_lt, Int.not_le, Decidable.not_not, List.length_map, List.length_cons, List.length_nil] at hq6)
              refine WpG.skip ?_
              first
                | exact ⟨(by repeat (first | exact trivial | refine ⟨rfl, ?_⟩)), ⟨rfl, rfl, rfl, rfl, trivial⟩, rfl⟩
                | (refine ⟨(by repeat (first | exact trivial | refine ⟨rfl, ?_⟩)), ⟨rfl, rfl, rfl, ?_, trivial⟩, rfl⟩
                   rw [show Q2 = SQ by rw [← hQ2, if_neg (by omega)]]; rfl)
          · (try simp only [decide_eq_true_eq, decide_eq_false_iff_not, Bool.or_eq_true, Bool.and_eq_true, Bool.or_eq_false_iff, Bool.and_eq_false_iff, bne_iff_ne, beq_iff_eq, beq_eq_false_iff_ne, bne_eq_false_iff_eq, ne_eq, Bool.not_eq_true', Bool.not_eq_false', Int.not_lt, Int.not_le, Decidable.not_not, List.length_map, List.length_cons, List.length_nil] at hq5)
            refine WpG.seq ?_
            refine WpG.reg ?_
            refine G.mv rfl ?_
            refine G.mv rfl ?_
            refine G.call (P := [(10, .box [.fsl 6 (D.map encC), .msl 11]), (11, .mat 1 (encHas SP))]) rfl (by repeat (first | exact trivial | refine ⟨rfl, ?_⟩)) rfl rfl ((recv_ok D SP (m : Int) (by omega) (by omega) (smallS_le (by assumption) (by omega))).ren [(1, 10), (2, 11)]) ?_
            rintro _ _ ⟨_, _, ⟨rfl, rfl⟩, rfl, rfl⟩
            have e := hP2
            rw [if_neg (by assumption)] at e
            rw [e]
            change newOk _ _ [(10, .box [.fsl 6 (D.map encC), .msl 11]), (11, .mat 1 (encHas P2))] = true ∧ _
            refine ⟨rfl, ?_⟩
            change WpOpsG _ _ ((83, _) :: _) ([(10, .box [.fsl 6 (D.map encC), .msl 11]), (11, .mat 1 (encHas P2))] ++ _) _
            refine WpOpsG.nil ?_
            change WpG _ _ _ _ _
            refine WpG.seq ?_
            refine WpG.reg ?_
            refine G.mv rfl ?_
            refine G.mv rfl ?_
            refine G.bin rfl rfl rfl ?_
            refine WpOpsG.nil ?_
            change WpG _ _ _ _ _
            refine WpG.cond rfl (fun hq7 => ?_) (fun hq7 => ?_)
            · (try simp only [decide_eq_true_eq, decide_eq_false_iff_not, Bool.or_eq_true, Bool.and_eq_true, Bool.or_eq_false_iff, Bool.and_eq_false_iff, bne_iff_ne, beq_iff_eq, beq_eq_false_iff_ne, bne_eq_false_iff_eq, ne_eq, Bool.not_eq_true', Bool.not_eq_false', Int.not_lt, Int.not_le, Decidable.not_not, List.length_map, List.length_cons, List.length_nil] at hq7)
              refine WpG.reg ?_
              refine G.mv rfl ?_
              refine G.mv rfl ?_
              refine G.call (P := [(12, .box [.fsl 6 (D.map encC), .msl 13]), (13, .mat 1 (encHas SQ))]) rfl (by repeat (first | exact trivial | refine ⟨rfl, ?_⟩)) rfl rfl ((recv_ok D SQ (m : Int) (by omega) (by omega) (smallS_le (by assumption) (by omega))).ren [(1, 12), (2, 13)]) ?_
              rintro _ _ ⟨_, _, ⟨rfl, rfl⟩, rfl, rfl⟩
              have e := hQ2
              rw [if_pos (by omega), if_neg (by assumption)] at e
              rw [e]
              change newOk _ _ [(12, .box [.fsl 6 (D.map encC), .msl 13]), (13, .mat 1 (encHas Q2))] = true ∧ _
              refine ⟨rfl, ?_⟩
              change WpOpsG _ _ ((89, _) :: _) ([(12, .box [.fsl 6 (D.map encC), .msl 13]), (13, .mat 1 (encHas Q2))] ++ _) _
              refine WpOpsG.nil ?_
              first
                | exact ⟨(by repeat (first | exact trivial | refine ⟨rfl, ?_⟩)), ⟨rfl, rfl, rfl, rfl, trivial⟩, rfl⟩
                | (refine ⟨(by repeat (first | exact trivial | refine ⟨rfl, ?_⟩)), ⟨rfl, rfl, rfl, ?_, trivial⟩, rfl⟩
                   rw [show Q2 = SQ by rw [← hQ2, if_neg (by omega)]]; rfl)
            · (try simp only [decide_eq_true_eq, decide_eq_false_iff_not, Bool.or_eq_true, Bool.and_eq_true, Bool.or_eq_false_iff, Bool.and_eq_false_iff, bne_iff_ne, beq_iff_eq, beq_eq_false_iff_ne, bne_eq_false_iff_eq, ne_eq, Bool.not_eq_true', Bool.not_eq_false', Int.not_lt, Int.not_le, Decidable.not_not, List.length_map, List.length_cons, List.length_nil] at hq7)
              refine WpG.skip ?_
              first
                | exact ⟨(by repeat (first | exact trivial | refine ⟨rfl, ?_⟩)), ⟨rfl, rfl, rfl, rfl, trivial⟩, rfl⟩
                | (refine ⟨(by repeat (first | exact trivial | refine ⟨rfl, ?_⟩)), ⟨rfl, rfl, rfl, ?_, trivial⟩, rfl⟩
                   rw [show Q2 = SQ by rw [← hQ2, if_neg (by omega)]]; rfl)
        change WpG _ _ _ _ _
        refine WpG.seq ?_
        obtain ⟨hP2l, hQ2l, hP2s, hQ2s, hPQ⟩ := id hA2
        refine WpG.reg ?_
        refine G.mv rfl ?_
        refine G.mv rfl ?_
        refine G.lend rfl rfl ((held_ok D P2 (k : Int) (by omega) (by omega) (smallS_le (by assumption) (by omega))).ren [(0, 20)]) ?_
        rintro _ _ ⟨_, _, ⟨rfl, rfl⟩, rfl, rfl⟩
        change _ ∧ flatH [(20, _)] ∧ newOk _ _ [(20, _)] = true ∧ _
        rw [held_in hkl]
        refine ⟨rfl, ⟨flat_map (fun _ => rfl), trivial⟩, rfl, ?_⟩
        change WpOpsG _ _ ((92, .osl 20) :: _) ([(20, .arr .yes 1 ((P2.getD k []).map encU))] ++ _) _
        refine G.mv rfl ?_
        refine G.mv rfl ?_
        refine G.lend rfl rfl ((held_ok D Q2 (k : Int) (by omega) (by omega) (smallS_le (by assumption) (by omega))).ren [(0, 21)]) ?_
        rintro _ _ ⟨_, _, ⟨rfl, rfl⟩, rfl, rfl⟩
        change _ ∧ flatH [(21, _)] ∧ newOk _ _ [(21, _)] = true ∧ _
        rw [held_in hkl]
        refine ⟨rfl, ⟨flat_map (fun _ => rfl), trivial⟩, rfl, ?_⟩
        change WpOpsG _ _ ((95, .osl 21) :: _) ([(21, .arr .yes 1 ((Q2.getD k []).map encU))] ++ _) _
        refine G.lend rfl rfl (sameU_ok (P2.getD k []) (Q2.getD k []) (by have := rowAt_len hP2s (k : Int); rw [rowAt_nat] at this; omega) (by have := rowAt_len hQ2s (k : Int); rw [rowAt_nat] at this; omega)) ?_
        rintro _ _ ⟨rfl, rfl⟩
        refine ⟨rfl, trivial, rfl, ?_⟩
        change WpOpsG _ _ ((96, _) :: _) _ _
        rw [decide_eq_true hPQ]
        refine G.un rfl rfl ?_
        refine WpOpsG.nil ?_
        change WpG _ _ _ _ _
        refine WpG.cond rfl (fun hq8 => absurd hq8 (by first | decide | simp)) (fun hq8 => ?_)
        refine WpG.skip ?_
        change WpG _ _ _ _ _
        refine WpG.reg ?_
        refine G.mv rfl ?_
        first | refine G.addI rfl rfl (by omega) ?_ | refine G.bin rfl rfl rfl ?_
        refine G.mv rfl ?_
        refine WpOpsG.nil ?_
        exact ⟨(i + 1, P2, Q2), by show 60 - (i + 1) < 60 - i; omega, ⟨by show i + 1 ≤ _; omega, by show i + 1 ≤ _; omega, hA2⟩, ⟨rfl, rfl, rfl, rfl, rfl, rfl, trivial⟩, ⟨rfl, rfl, rfl, rfl, trivial⟩, rfl⟩
      · (try simp only [decide_eq_true_eq, decide_eq_false_iff_not, Bool.or_eq_true, Bool.and_eq_true, Bool.or_eq_false_iff, Bool.and_eq_false_iff, bne_iff_ne, beq_iff_eq, beq_eq_false_iff_ne, bne_eq_false_iff_eq, ne_eq, Bool.not_eq_true', Bool.not_eq_false', Int.not_lt, Int.not_le, Decidable.not_not, List.length_map, List.length_cons, List.length_nil] at hq4)
        refine WpG.exit ?_
        change WpG _ _ _ _ _
        refine WpG.seq ?_
        refine WpG.reg ?_
        refine G.call0 rfl rfl (known17_ok) ?_
        rintro _ _ ⟨rfl, rfl⟩
        refine ⟨rfl, ?_⟩
        change WpOpsG _ _ ((98, _) :: _) _ _
        refine G.mv rfl ?_
        refine WpOpsG.nil ?_
        change WpG _ _ _ _ _
        refine WpG.ret ?_
        refine ⟨_, [], rfl, (hasP_le (by repeat (first | exact trivial | refine ⟨rfl, ?_⟩))), rfl, rfl, rfl, ?_⟩
        exact ⟨rfl, rfl⟩
    · exact ⟨Nat.zero_le _, by show 0 ≤ 60; decide, by simp, by simp, smallS_nil, smallS_nil, rfl⟩
end Go.AM.L17
