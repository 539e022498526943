/- Contracts of the functions that the statement reaches. No condition. -/
import Derived.Test.YtbnhmpjcmgbabaaC17e
import Derived.Test.YtbnhmpjcmgbabaaPL17c
set_option linter.all false
set_option maxRecDepth 10000
namespace Go.AM.L17
open Go.AM.PL
theorem portCopies_ok (C : List Ch) (l : List Askd) (w : Int) (hC : C.length ≤ 2 ^ 50) (hl : l.length * 24 ≤ 2 ^ 47) (hok : ∀ c ∈ C, okC c) : WpCallG A 7 [.fsl 6 (C.map encC), .fsl 3 (l.map encA), .v (.int .i64 w)] [] (fun v H => v = .v (.bool true) ∧ H = []) := by
  refine WpCallG.intro g7 rfl rfl ?_
  unfold af7
  change WpG _ _ _ _ _
  refine WpG.seq ?_
  refine WpG.reg ?_
  refine G.mv rfl ?_
  refine WpOpsG.nil ?_
  change WpG _ _ _ _ _
  refine WpG.seq ?_
  refine WpG.reg ?_
  refine G.mv rfl ?_
  refine G.call0 rfl rfl ((few_w C hC hok).ren [(0, 20)]) ?_
  rintro _ _ ⟨_, _, ⟨rfl, rfl⟩, rfl, rfl⟩
  change newOk _ _ [(20, _)] = true ∧ _
  refine ⟨rfl, ?_⟩
  change WpOpsG _ _ ((16, .osl 20) :: _) ([(20, .arr .yes 6 ((fewV C).map encC))] ++ _) _
  obtain ⟨D, hD⟩ : ∃ D, fewV C = D := ⟨_, rfl⟩
  have hDl := few_len C
  rw [hD] at hDl ⊢
  refine WpOpsG.freeze 20 rfl ?_
  refine G.mv rfl ?_
  refine WpOpsG.nil ?_
  change WpG _ _ _ _ _
  refine WpG.seq ?_
  refine WpG.reg ?_
  refine G.mv rfl ?_
  refine G.call0 rfl rfl ((new_ok D (by omega)).ren [(0, 10), (1, 11)]) ?_
  rintro _ _ ⟨_, _, ⟨rfl, rfl⟩, rfl, rfl⟩
  change newOk _ _ [(10, .box [.fsl 6 (D.map encC), .msl 11]), (11, .mat 1 _)] = true ∧ _
  refine ⟨rfl, ?_⟩
  change WpOpsG _ _ ((18, .bptr 10 0) :: _) ([(10, .box [.fsl 6 (D.map encC), .msl 11]), (11, .mat 1 (encHas (List.replicate D.length [])))] ++ _) _
  refine G.mv rfl ?_
  refine WpOpsG.nil ?_
  change WpG _ _ _ _ _
  refine WpG.seq ?_
  refine WpG.seq ?_
  refine WpG.reg ?_
  refine G.mv rfl ?_
  first | refine G.eqnilB rfl ?_ | refine G.eqnilP rfl ?_ | refine G.eqnilF rfl (fun hnil20 hnil20_e => ?_)
  refine WpOpsG.nil ?_
  change WpG _ _ _ _ _
  refine WpG.cond rfl (fun hq1 => absurd hq1 (by first | decide | simp)) (fun hq1 => ?_)
  refine WpG.skip ?_
  change WpG _ _ _ _ _
  refine WpG.seq ?_
  refine WpG.seq ?_
  refine WpG.reg ?_
  refine G.mv rfl ?_
  refine WpOpsG.nil ?_
  change WpG _ _ _ _ _
  refine WpG.block ?_
  refine WpG.loop (S := Nat × List (List Int)) (fun s => [(1, .fsl 3 (l.map encA)), (8, .bptr 10 0), (9, .v (.int .i64 (s.1 : Int)))]) (fun s => [(10, .box [.fsl 6 (D.map encC), .msl 11]), (11, .mat 1 (encHas s.2))]) (fun s => s.1 ≤ l.length ∧ s.1 ≤ 40 ∧ s.2.length = D.length ∧ smallS s.1 s.2) (fun s => 40 - s.1) (fun s => ⟨rfl, rfl⟩) ?_ (0, List.replicate D.length []) ?_ (by repeat (first | exact trivial | refine ⟨rfl, ?_⟩)) (by repeat (first | exact trivial | refine ⟨rfl, ?_⟩)) rfl
  · rintro ⟨i, S⟩ ⟨hI, hI2, hSl, hSm⟩
    dsimp only at hI hI2 hSl hSm ⊢
    refine WpG.seq ?_
    refine WpG.seq ?_
    refine WpG.reg ?_
    refine G.mv rfl ?_
    refine G.mv rfl ?_
    first | refine G.lenM rfl ?_ | refine G.lenOM rfl rfl ?_ | refine G.lenF rfl ?_ | refine G.lenO rfl rfl ?_ | refine G.lenNil rfl ?_
    refine G.bin rfl rfl rfl ?_
    refine G.mv rfl ?_
    apply G.andS rfl rfl rfl rfl rfl rfl
    case hB =>
      intro hs2
      (try simp only [decide_eq_true_eq, decide_eq_false_iff_not, Bool.or_eq_true, Bool.and_eq_true, Bool.or_eq_false_iff, Bool.and_eq_false_iff, bne_iff_ne, beq_iff_eq, beq_eq_false_iff_ne, bne_eq_false_iff_eq, ne_eq, Bool.not_eq_true', Bool.not_eq_false', Int.not_lt, Int.not_le, Decidable.not_not, List.length_map, List.length_cons, List.length_nil] at hs2)
      refine G.mv rfl ?_
      refine G.bin rfl rfl rfl ?_
      refine WpOpsG.nil ?_
      exact ⟨rfl, (by repeat (first | exact LLe.refl _ | refine LLe.cons rfl ?_)), (by repeat (first | exact HLe.refl _ | refine HLe.cons rfl ?_)), rfl⟩
    refine WpOpsG.nil ?_
    change WpG _ _ _ _ _
    refine WpG.cond rfl (fun hq3 => ?_) (fun hq3 => ?_)
    · (try simp only [decide_eq_true_eq, decide_eq_false_iff_not, Bool.or_eq_true, Bool.and_eq_true, Bool.or_eq_false_iff, Bool.and_eq_false_iff, bne_iff_ne, beq_iff_eq, beq_eq_false_iff_ne, bne_eq_false_iff_eq, ne_eq, Bool.not_eq_true', Bool.not_eq_false', Int.not_lt, Int.not_le, Decidable.not_not, List.length_map, List.length_cons, List.length_nil] at hq3)
      refine WpG.skip ?_
      change WpG _ _ _ _ _
      refine WpG.seq ?_
      refine WpG.block ?_
      refine WpG.reg ?_
      refine G.mv rfl ?_
      refine G.mv rfl ?_
      refine G.mv rfl ?_
      first | refine G.iaddrN rfl rfl (List.getElem?_eq_getElem (by first | omega | (simp only [List.length_map, List.length_append, List.length_cons, List.length_nil, List.length_replicate, List.length_take, List.length_drop, List.length_set]; omega))) ?_ | refine G.iaddrM rfl rfl (by omega) (List.getElem?_eq_getElem (by first | omega | (simp only [List.length_map, List.length_append, List.length_cons, List.length_nil, List.length_replicate, List.length_take, List.length_drop, List.length_set]; omega))) ?_ | refine G.iaddrF rfl rfl (by omega) rfl ?_ | refine G.iaddrO rfl rfl rfl (by omega) (by first | omega | (simp only [List.length_map, List.length_append, List.length_cons, List.length_nil, List.length_replicate, List.length_take, List.length_drop, List.length_set]; omega)) ?_ | refine G.iaddrF rfl rfl (by omega) (List.getElem?_eq_getElem (by first | omega | (simp only [List.length_map, List.length_append, List.length_cons, List.length_nil, List.length_replicate, List.length_take, List.length_drop, List.length_set]; omega))) ?_
      first | refine G.faddrB rfl ?_ | refine G.faddrF rfl ?_ | refine G.faddrE rfl ?_
      first | refine G.load1B rfl rfl rfl ?_ | refine G.load1F rfl rfl ?_ | refine G.load1E rfl rfl (List.getElem?_eq_getElem (by first | omega | (simp only [List.length_map, List.length_append, List.length_cons, List.length_nil, List.length_replicate, List.length_take, List.length_drop, List.length_set]; omega))) rfl ?_ | refine G.load1EM rfl rfl (List.getElem?_eq_getElem (by first | omega | (simp only [List.length_map, List.length_append, List.length_cons, List.length_nil, List.length_replicate, List.length_take, List.length_drop, List.length_set]; omega))) rfl ?_
      refine G.andK rfl rfl ?_
      refine G.mv rfl ?_
      refine G.mv rfl ?_
      first | refine G.iaddrN rfl rfl (List.getElem?_eq_getElem (by first | omega | (simp only [List.length_map, List.length_append, List.length_cons, List.length_nil, List.length_replicate, List.length_take, List.length_drop, List.length_set]; omega))) ?_ | refine G.iaddrM rfl rfl (by omega) (List.getElem?_eq_getElem (by first | omega | (simp only [List.length_map, List.length_append, List.length_cons, List.length_nil, List.length_replicate, List.length_take, List.length_drop, List.length_set]; omega))) ?_ | refine G.iaddrF rfl rfl (by omega) rfl ?_ | refine G.iaddrO rfl rfl rfl (by omega) (by first | omega | (simp only [List.length_map, List.length_append, List.length_cons, List.length_nil, List.length_replicate, List.length_take, List.length_drop, List.length_set]; omega)) ?_ | refine G.iaddrF rfl rfl (by omega) (List.getElem?_eq_getElem (by first | omega | (simp only [List.length_map, List.length_append, List.length_cons, List.length_nil, List.length_replicate, List.length_take, List.length_drop, List.length_set]; omega))) ?_
      first | refine G.faddrB rfl ?_ | refine G.faddrF rfl ?_ | refine G.faddrE rfl ?_
      first | refine G.load1B rfl rfl rfl ?_ | refine G.load1F rfl rfl ?_ | refine G.load1E rfl rfl (List.getElem?_eq_getElem (by first | omega | (simp only [List.length_map, List.length_append, List.length_cons, List.length_nil, List.length_replicate, List.length_take, List.length_drop, List.length_set]; omega))) rfl ?_ | refine G.load1EM rfl rfl (List.getElem?_eq_getElem (by first | omega | (simp only [List.length_map, List.length_append, List.length_cons, List.length_nil, List.length_replicate, List.length_take, List.length_drop, List.length_set]; omega))) rfl ?_
      refine G.andK rfl rfl ?_
      refine G.call (P := [(10, .box [.fsl 6 (D.map encC), .msl 11]), (11, .mat 1 (encHas S))]) rfl (by repeat (first | exact trivial | refine ⟨rfl, ?_⟩)) rfl rfl ((send_ok D S (andI .i64 l[i].i 7) (andI .u32 l[i].n 15) (by omega) (by omega) (smallS_le (by assumption) (by omega))).ren [(1, 10), (2, 11)]) ?_
      rintro _ _ ⟨_, _, ⟨rfl, rfl⟩, rfl, rfl⟩
      
      change newOk _ _ [(10, .box [.fsl 6 (D.map encC), .msl 11]), (11, .mat 1 (encHas (sendS D S (andI .i64 l[i].i 7) (andI .u32 l[i].n 15))))] = true ∧ _
      refine ⟨rfl, ?_⟩
      change WpOpsG _ _ ((44, _) :: _) ([(10, .box [.fsl 6 (D.map encC), .msl 11]), (11, .mat 1 (encHas (sendS D S (andI .i64 l[i].i 7) (andI .u32 l[i].n 15))))] ++ _) _
      refine WpOpsG.nil ?_
      change WpG _ _ _ _ _
      refine WpG.reg ?_
      refine G.mv rfl ?_
      first | refine G.addI rfl rfl (by omega) ?_ | refine G.bin rfl rfl rfl ?_
      refine G.mv rfl ?_
      refine WpOpsG.nil ?_
      exact ⟨(i + 1, sendS D S (andI .i64 l[i].i 7) (andI .u32 l[i].n 15)), by show 40 - (i + 1) < 40 - i; omega, ⟨by show i + 1 ≤ _; omega, by show i + 1 ≤ _; omega, by show (sendS D S _ _).length = _; rw [send_len]; exact hSl, send_small hSm _ _⟩, ⟨rfl, rfl, rfl, trivial⟩, ⟨rfl, rfl, trivial⟩, rfl⟩
    · (try simp only [decide_eq_true_eq, decide_eq_false_iff_not, Bool.or_eq_true, Bool.and_eq_true, Bool.or_eq_false_iff, Bool.and_eq_false_iff, bne_iff_ne, beq_iff_eq, beq_eq_false_iff_ne, bne_eq_false_iff_eq, ne_eq, Bool.not_eq_true', Bool.not_eq_false', Int.not_lt, Int.not_le, Decidable.not_not, List.length_map, List.length_cons, List.length_nil] at hq3)
      refine WpG.exit ?_
      change WpG _ _ _ _ _
      refine WpG.seq ?_
      have hi40 : i ≤ 40 := hI2
      refine WpG.reg ?_
      refine G.mv rfl ?_
      refine G.call (P := [(10, .box [.fsl 6 (D.map encC), .msl 11]), (11, .mat 1 (encHas S))]) rfl (by repeat (first | exact trivial | refine ⟨rfl, ?_⟩)) rfl rfl ((copy_ok D S (by omega) (by omega) (smallS_le (by assumption) (by omega))).ren [(1, 10), (2, 11), (0, 14), (3, 15)]) ?_
      rintro _ _ ⟨_, _, ⟨rfl, rfl⟩, rfl, rfl⟩
      change newOk _ _ [(14, .box [.fsl 6 (D.map encC), .msl 15]), (15, .mat 1 (encHas S)), (10, .box [.fsl 6 (D.map encC), .msl 11]), (11, .mat 1 (encHas S))] = true ∧ _
      refine ⟨rfl, ?_⟩
      change WpOpsG _ _ ((46, .bptr 14 0) :: _) ([(14, .box [.fsl 6 (D.map encC), .msl 15]), (15, .mat 1 (encHas S)), (10, .box [.fsl 6 (D.map encC), .msl 11]), (11, .mat 1 (encHas S))] ++ _) _
      refine G.mv rfl ?_
      refine WpOpsG.nil ?_
      change WpG _ _ _ _ _
      refine WpG.seq ?_
      refine WpG.seq ?_
      refine WpG.reg ?_
      refine G.mv rfl ?_
      first | refine G.eqnilB rfl ?_ | refine G.eqnilP rfl ?_ | refine G.eqnilF rfl (fun hnil48 hnil48_e => ?_)
      refine G.mv rfl ?_
      refine WpOpsG.known 49 false rfl rfl ?_
      refine G.mv rfl ?_
      refine G.mv rfl ?_
      refine G.lend rfl rfl (psame_ok D D S S (by omega) (by omega) (smallS_le (by assumption) (by omega)) (smallS_le (by assumption) (by omega))) ?_
      rintro _ _ ⟨rfl, rfl⟩
      refine ⟨rfl, trivial, rfl, ?_⟩
      change WpOpsG _ _ ((52, _) :: _) _ _
      rw [decide_eq_true rfl]
      refine G.un rfl rfl ?_
      first | refine G.pickT rfl rfl ?_ | refine G.pickF rfl rfl ?_ | refine G.pick rfl rfl rfl ?_
      refine G.mv rfl ?_
      refine WpOpsG.known 55 false rfl rfl ?_
      refine G.mv rfl ?_
      refine G.mv rfl ?_
      refine G.lend rfl rfl (psame_ok D D S S (by omega) (by omega) (smallS_le (by assumption) (by omega)) (smallS_le (by assumption) (by omega))) ?_
      rintro _ _ ⟨rfl, rfl⟩
      refine ⟨rfl, trivial, rfl, ?_⟩
      change WpOpsG _ _ ((58, _) :: _) _ _
      rw [decide_eq_true rfl]
      refine G.un rfl rfl ?_
      first | refine G.pickT rfl rfl ?_ | refine G.pickF rfl rfl ?_ | refine G.pick rfl rfl rfl ?_
      refine WpOpsG.nil ?_
      change WpG _ _ _ _ _
      refine WpG.cond rfl (fun hq4 => absurd hq4 (by first | decide | simp)) (fun hq4 => ?_)
      refine WpG.skip ?_
      change WpG _ _ _ _ _
      refine WpG.seq ?_
      refine WpG.reg ?_
      refine G.box (g := 30) rfl rfl rfl ?_
      refine WpOpsG.nil ?_
      change WpG _ _ _ _ _
      refine WpG.seq ?_
      refine WpG.seq ?_
      refine WpG.reg ?_
      refine G.mv rfl ?_
      refine WpOpsG.nil ?_
      change WpG _ _ _ _ _
      refine WpG.block ?_
      refine WpG.loop (S := Nat) (fun i => [(8, .bptr 10 0), (10, .bptr 14 0), (11, .bptr 30 0), (61, .v (.int .i64 (i : Int)))]) (fun i => [(30, .box (wasC D S i)), (10, .box [.fsl 6 (D.map encC), .msl 11]), (11, .mat 1 (encHas S)), (14, .box [.fsl 6 (D.map encC), .msl 15]), (15, .mat 1 (encHas S))]) (fun i => i ≤ 8) (fun i => 8 - i) (fun s => ⟨rfl, by show (GV.okL _ (wasC D S _) && _) = true; rw [was_ok]; rfl⟩) ?_ 0 ?_ (by repeat (first | exact trivial | refine ⟨rfl, ?_⟩)) (by repeat (first | exact trivial | refine ⟨rfl, ?_⟩)) rfl
      · intro i hI8
        refine WpG.seq ?_
        refine WpG.reg ?_
        refine G.bin rfl rfl rfl ?_
        refine WpOpsG.nil ?_
        change WpG _ _ _ _ _
        refine WpG.seq ?_
        refine WpG.cond rfl (fun hq5 => ?_) (fun hq5 => ?_)
        · (try simp only [decide_eq_true_eq, decide_eq_false_iff_not, Bool.or_eq_true, Bool.and_eq_true, Bool.or_eq_false_iff, Bool.and_eq_false_iff, bne_iff_ne, beq_iff_eq, beq_eq_false_iff_ne, bne_eq_false_iff_eq, ne_eq, Bool.not_eq_true', Bool.not_eq_false', Int.not_lt, Int.not_le, Decidable.not_not, List.length_map, List.length_cons, List.length_nil] at hq5)
          refine WpG.skip ?_
          change WpG _ _ _ _ _
          refine WpG.seq ?_
          refine WpG.block ?_
          refine WpG.seq ?_
          refine WpG.reg ?_
          refine G.mv rfl ?_
          refine G.mv rfl ?_
          refine WpOpsG.nil ?_
          change WpG _ _ _ _ _
          refine WpG.reg ?_
          refine G.mv rfl ?_
          refine G.mv rfl ?_
          refine G.mv rfl ?_
          refine G.lend rfl rfl ((held_ok D S ((i : Int)) (by omega) (by omega) (smallS_le (by assumption) (by omega))).ren [(0, 21)]) ?_
          rintro _ _ ⟨_, _, ⟨rfl, rfl⟩, rfl, rfl⟩
          change _ ∧ flatH [(21, _)] ∧ newOk _ _ [(21, _)] = true ∧ _
          refine ⟨rfl, ⟨flat_map (fun _ => rfl), trivial⟩, rfl, ?_⟩
          change WpOpsG _ _ ((67, .osl 21) :: _) ([(21, .arr .yes 1 ((heldV D S ((i : Int))).map encU))] ++ _) _
          refine WpOpsG.freeze 21 rfl ?_
          first | refine G.aaddrB rfl rfl (by omega) (by omega) ?_ | refine G.aaddrF rfl rfl (by omega) (by omega) ?_
          refine G.storeB (cs := GV.fzL 21 (.fsl 1 ((heldV D S (i : Int)).map encU)) (wasC D S i)) (cs' := wasC D S (i + 1)) rfl rfl rfl rfl rfl (by rw [was_fz]; exact was_put (by omega)) ?_
          refine WpOpsG.nil ?_
          change WpG _ _ _ _ _
          refine WpG.reg ?_
          first | refine G.addI rfl rfl (by omega) ?_ | refine G.bin rfl rfl rfl ?_
          refine G.mv rfl ?_
          refine WpOpsG.nil ?_
          refine ⟨i + 1, by omega, by omega, ⟨rfl, rfl, rfl, rfl, trivial⟩, ⟨rfl, rfl, rfl, rfl, rfl, trivial⟩, rfl⟩
        · (try simp only [decide_eq_true_eq, decide_eq_false_iff_not, Bool.or_eq_true, Bool.and_eq_true, Bool.or_eq_false_iff, Bool.and_eq_false_iff, bne_iff_ne, beq_iff_eq, beq_eq_false_iff_ne, bne_eq_false_iff_eq, ne_eq, Bool.not_eq_true', Bool.not_eq_false', Int.not_lt, Int.not_le, Decidable.not_not, List.length_map, List.length_cons, List.length_nil] at hq5)
          refine WpG.exit ?_
          change WpG _ _ _ _ _
          refine WpG.seq ?_
          refine WpG.seq ?_
          refine WpG.reg ?_
          refine G.mv rfl ?_
          refine WpOpsG.nil ?_
          change WpG _ _ _ _ _
          refine WpG.block ?_
          refine WpG.loop (S := Nat × List (List Int)) (fun s => [(8, .bptr 10 0), (10, .bptr 14 0), (11, .bptr 30 0), (13, .v (.int .i64 (s.1 : Int)))]) (fun s => [(30, .box (wasC D S 8)), (10, .box [.fsl 6 (D.map encC), .msl 11]), (11, .mat 1 (encHas S)), (14, .box [.fsl 6 (D.map encC), .msl 15]), (15, .mat 1 (encHas s.2))]) (fun s => s.1 ≤ 20 ∧ s.2.length = D.length ∧ smallS (40 + s.1) s.2) (fun s => 20 - s.1) (fun s => ⟨rfl, by show (GV.okL _ (wasC D S _) && _) = true; rw [was_ok]; rfl⟩) ?_ (0, S) ?_ (by repeat (first | exact trivial | refine ⟨rfl, ?_⟩)) ⟨by rw [show i = 8 by omega]; rfl, by repeat (first | exact trivial | refine ⟨rfl, ?_⟩)⟩ rfl
          · rintro ⟨i, T⟩ ⟨hI3, hTl, hTm⟩
            dsimp only at hI3 hTl hTm ⊢
            refine WpG.seq ?_
            refine WpG.seq ?_
            refine WpG.reg ?_
            refine G.mv rfl ?_
            refine G.bin rfl rfl rfl ?_
            refine WpOpsG.nil ?_
            change WpG _ _ _ _ _
            refine WpG.cond rfl (fun hq6 => ?_) (fun hq6 => ?_)
            · (try simp only [decide_eq_true_eq, decide_eq_false_iff_not, Bool.or_eq_true, Bool.and_eq_true, Bool.or_eq_false_iff, Bool.and_eq_false_iff, bne_iff_ne, beq_iff_eq, beq_eq_false_iff_ne, bne_eq_false_iff_eq, ne_eq, Bool.not_eq_true', Bool.not_eq_false', Int.not_lt, Int.not_le, Decidable.not_not, List.length_map, List.length_cons, List.length_nil] at hq6)
              refine WpG.skip ?_
              change WpG _ _ _ _ _
              refine WpG.seq ?_
              refine WpG.block ?_
              refine WpG.seq ?_
              refine WpG.reg ?_
              refine G.mv rfl ?_
              refine G.mv rfl ?_
              refine G.andK rfl rfl ?_
              refine G.call (P := [(14, .box [.fsl 6 (D.map encC), .msl 15]), (15, .mat 1 (encHas T))]) rfl (by repeat (first | exact trivial | refine ⟨rfl, ?_⟩)) rfl rfl ((recv_ok D T (andI .i64 (i : Int) 7) (by omega) (by omega) (smallS_le hTm (by omega))).ren [(1, 14), (2, 15)]) ?_
              rintro _ _ ⟨_, _, ⟨rfl, rfl⟩, rfl, rfl⟩
              
              change newOk _ _ [(14, .box [.fsl 6 (D.map encC), .msl 15]), (15, .mat 1 (encHas (recvS D T (andI .i64 (i : Int) 7))))] = true ∧ _
              refine ⟨rfl, ?_⟩
              change WpOpsG _ _ ((77, _) :: _) ([(14, .box [.fsl 6 (D.map encC), .msl 15]), (15, .mat 1 (encHas (recvS D T (andI .i64 (i : Int) 7))))] ++ _) _
              refine WpOpsG.nil ?_
              change WpG _ _ _ _ _
              refine WpG.reg ?_
              refine G.mv rfl ?_
              refine G.mv rfl ?_
              refine G.andK rfl rfl ?_
              refine G.call (P := [(14, .box [.fsl 6 (D.map encC), .msl 15]), (15, .mat 1 (encHas (recvS D T (andI .i64 (i : Int) 7))))]) rfl (by repeat (first | exact trivial | refine ⟨rfl, ?_⟩)) rfl rfl ((send_ok D (recvS D T (andI .i64 (i : Int) 7)) (andI .i64 (i : Int) 7) 1 (by omega) (by rw [recv_len]; omega) (smallS_le (recv_small hTm _) (by omega))).ren [(1, 14), (2, 15)]) ?_
              rintro _ _ ⟨_, _, ⟨rfl, rfl⟩, rfl, rfl⟩
              
              change newOk _ _ [(14, .box [.fsl 6 (D.map encC), .msl 15]), (15, .mat 1 (encHas (sendS D (recvS D T (andI .i64 (i : Int) 7)) (andI .i64 (i : Int) 7) 1)))] = true ∧ _
              refine ⟨rfl, ?_⟩
              change WpOpsG _ _ ((81, _) :: _) ([(14, .box [.fsl 6 (D.map encC), .msl 15]), (15, .mat 1 (encHas (sendS D (recvS D T (andI .i64 (i : Int) 7)) (andI .i64 (i : Int) 7) 1)))] ++ _) _
              refine WpOpsG.nil ?_
              change WpG _ _ _ _ _
              refine WpG.reg ?_
              refine G.mv rfl ?_
              first | refine G.addI rfl rfl (by omega) ?_ | refine G.bin rfl rfl rfl ?_
              refine G.mv rfl ?_
              refine WpOpsG.nil ?_
              refine ⟨(i + 1, sendS D (recvS D T (andI .i64 (i : Int) 7)) (andI .i64 (i : Int) 7) 1), by show 20 - (i + 1) < 20 - i; omega, ⟨by show i + 1 ≤ _; omega, by show (sendS D (recvS D T _) _ _).length = _; rw [send_len, recv_len]; exact hTl, send_small (recv_small hTm _) _ _⟩, ⟨rfl, rfl, rfl, rfl, trivial⟩, ⟨?_, rfl, rfl, rfl, rfl, trivial⟩, rfl⟩
              show some (GBlk.box (stC 15 (stC 15 (wasC D S 8)))) = _
              rw [was_st, was_st]
            · (try simp only [decide_eq_true_eq, decide_eq_false_iff_not, Bool.or_eq_true, Bool.and_eq_true, Bool.or_eq_false_iff, Bool.and_eq_false_iff, bne_iff_ne, beq_iff_eq, beq_eq_false_iff_ne, bne_eq_false_iff_eq, ne_eq, Bool.not_eq_true', Bool.not_eq_false', Int.not_lt, Int.not_le, Decidable.not_not, List.length_map, List.length_cons, List.length_nil] at hq6)
              refine WpG.exit ?_
              change WpG _ _ _ _ _
              refine WpG.seq ?_
              refine WpG.seq ?_
              refine WpG.reg ?_
              refine G.mv rfl ?_
              refine WpOpsG.nil ?_
              change WpG _ _ _ _ _
              refine WpG.block ?_
              refine WpG.loop (S := Nat) (fun i => [(8, .bptr 10 0), (11, .bptr 30 0), (82, .v (.int .i64 (i : Int)))]) (fun i => [(30, .box (wasC D S 8)), (10, .box [.fsl 6 (D.map encC), .msl 11]), (11, .mat 1 (encHas S))]) (fun i => i ≤ 8) (fun i => 8 - i) (fun s => ⟨rfl, by show (GV.okL _ (wasC D S _) && _) = true; rw [was_ok]; rfl⟩) ?_ 0 ?_ (by repeat (first | exact trivial | refine ⟨rfl, ?_⟩)) (by repeat (first | exact trivial | refine ⟨rfl, ?_⟩)) rfl
              · intro i hI9
                refine WpG.seq ?_
                refine WpG.reg ?_
                refine G.bin rfl rfl rfl ?_
                refine WpOpsG.nil ?_
                change WpG _ _ _ _ _
                refine WpG.seq ?_
                refine WpG.cond rfl (fun hq7 => ?_) (fun hq7 => ?_)
                · (try simp only [decide_eq_true_eq, decide_eq_false_iff_not, Bool.or_eq_true, Bool.and_eq_true, Bool.or_eq_false_iff, Bool.and_eq_false_iff, bne_iff_ne, beq_iff_eq, beq_eq_false_iff_ne, bne_eq_false_iff_eq, ne_eq, Bool.not_eq_true', Bool.not_eq_false', Int.not_lt, Int.not_le, Decidable.not_not, List.length_map, List.length_cons, List.length_nil] at hq7)
                  refine WpG.skip ?_
                  change WpG _ _ _ _ _
                  refine WpG.seq ?_
                  refine WpG.block ?_
                  refine WpG.seq ?_
                  refine WpG.reg ?_
                  refine G.mv rfl ?_
                  refine G.mv rfl ?_
                  refine WpOpsG.nil ?_
                  change WpG _ _ _ _ _
                  refine WpG.seq ?_
                  refine WpG.reg ?_
                  refine G.mv rfl ?_
                  refine G.mv rfl ?_
                  refine G.mv rfl ?_
                  first | refine G.aaddrB rfl rfl (by omega) (by omega) ?_ | refine G.aaddrF rfl rfl (by omega) (by omega) ?_
                  refine G.load1B rfl rfl (by rw [show 0 + (i : Int).toNat * 1 = i by omega]; exact was_at (by omega)) ?_
                  refine G.cklend rfl rfl rfl ((held_ok D S ((i : Int)) (by omega) (by omega) (smallS_le (by assumption) (by omega))).ren [(0, 22)]) ?_
                  rintro _ _ ⟨_, _, ⟨rfl, rfl⟩, rfl, rfl⟩
                  change _ ∧ flatH [(22, _)] ∧ newOk _ _ [(22, _)] = true ∧ _
                  refine ⟨rfl, ⟨flat_map (fun _ => rfl), trivial⟩, rfl, ?_⟩
                  change WpOpsG _ _ ((87, .osl 22) :: _) ([(22, .arr .yes 1 ((heldV D S ((i : Int))).map encU))] ++ _) _
                  refine G.lend rfl rfl (sameU_ok (heldV D S (i : Int)) (heldV D S (i : Int)) (Nat.le_trans (held_len hSm _) (by omega)) (Nat.le_trans (held_len hSm _) (by omega))) ?_
                  rintro _ _ ⟨rfl, rfl⟩
                  refine ⟨rfl, trivial, rfl, ?_⟩
                  change WpOpsG _ _ ((91, _) :: _) _ _
                  rw [decide_eq_true rfl]
                  refine G.un rfl rfl ?_
                  refine WpOpsG.nil ?_
                  change WpG _ _ _ _ _
                  refine WpG.cond rfl (fun hq8 => absurd hq8 (by first | decide | simp)) (fun hq8 => ?_)
                  refine WpG.skip ?_
                  change WpG _ _ _ _ _
                  refine WpG.reg ?_
                  first | refine G.addI rfl rfl (by omega) ?_ | refine G.bin rfl rfl rfl ?_
                  refine G.mv rfl ?_
                  refine WpOpsG.nil ?_
                  exact ⟨i + 1, by omega, by omega, ⟨rfl, rfl, rfl, trivial⟩, ⟨rfl, rfl, rfl, trivial⟩, rfl⟩
                · (try simp only [decide_eq_true_eq, decide_eq_false_iff_not, Bool.or_eq_true, Bool.and_eq_true, Bool.or_eq_false_iff, Bool.and_eq_false_iff, bne_iff_ne, beq_iff_eq, beq_eq_false_iff_ne, bne_eq_false_iff_eq, ne_eq, Bool.not_eq_true', Bool.not_eq_false', Int.not_lt, Int.not_le, Decidable.not_not, List.length_map, List.length_cons, List.length_nil] at hq7)
                  refine WpG.exit ?_
                  change WpG _ _ _ _ _
                  refine WpG.seq ?_
                  refine WpG.reg ?_
                  refine G.call0 rfl rfl (known17_ok) ?_
                  rintro _ _ ⟨rfl, rfl⟩
                  refine ⟨rfl, ?_⟩
                  change WpOpsG _ _ ((94, _) :: _) _ _
                  refine G.mv rfl ?_
                  refine WpOpsG.nil ?_
                  change WpG _ _ _ _ _
                  refine WpG.ret ?_
                  refine ⟨_, [], rfl, (hasP_le (by repeat (first | exact trivial | refine ⟨rfl, ?_⟩))), rfl, rfl, rfl, ?_⟩
                  exact ⟨rfl, rfl⟩
              · exact Nat.zero_le _
          · exact ⟨Nat.zero_le _, hSl, smallS_le hSm hi40⟩
      · exact Nat.zero_le _
  · exact ⟨Nat.zero_le _, by show 0 ≤ 40; decide, by simp, smallS_nil⟩
end Go.AM.L17
