/- Contracts of the functions that the statement reaches. No condition. -/
import Derived.Test.YtjgjjchfpohffaaC22c
import Derived.Test.YtjgjjchfpohffaaPL22d
set_option linter.all false
set_option maxRecDepth 10000
namespace Go.AM.L22
open Go.AM.PL
theorem traceNumbers_ok  : WpCallG A 3 [] [] (fun v H => v = .v (.bool true) ∧ H = []) := by
  have hb : base.length = 4 := rfl
  refine WpCallG.intro g3 rfl rfl ?_
  unfold af3
  change WpG _ _ _ _ _
  refine WpG.seq ?_
  refine WpG.reg ?_
  refine G.mv rfl ?_
  refine WpOpsG.nil ?_
  change WpG _ _ _ _ _
  refine WpG.seq ?_
  refine WpG.reg ?_
  refine G.build rfl ?_
  refine G.build rfl ?_
  refine G.build rfl ?_
  refine G.build rfl ?_
  refine G.bsliceF rfl rfl rfl ?_
  change WpOpsG _ _ ((10, .fsl 6 (base.map encL)) :: _) _ _
  refine G.mv rfl ?_
  refine WpOpsG.nil ?_
  change WpG _ _ _ _ _
  refine WpG.seq ?_
  refine WpG.seq ?_
  refine WpG.reg ?_
  refine G.mv rfl ?_
  first | refine G.lenM rfl ?_ | refine G.lenOM rfl rfl ?_ | refine G.lenF rfl ?_ | refine G.lenO rfl rfl ?_ | refine G.lenNil rfl ?_
  refine G.mv rfl ?_
  refine WpOpsG.nil ?_
  change WpG _ _ _ _ _
  refine WpG.block ?_
  refine WpG.loop (S := Nat) (fun i => [(0, .v (.bool false)), (1, .fsl 6 (base.map encL)), (11, .fsl 6 (base.map encL)), (12, .v (.int .i64 (base.length))), (13, .v (.int .i64 i))]) (fun _ => []) (fun i => i ≤ base.length) (fun i => base.length - i) (fun s => ⟨rfl, rfl⟩) ?_ 0 ?_ (by repeat (first | exact trivial | refine ⟨rfl, ?_⟩)) (by repeat (first | exact trivial | refine ⟨rfl, ?_⟩)) rfl
  · rintro i hI
    refine WpG.seq ?_
    refine WpG.reg ?_
    refine G.bin rfl rfl rfl ?_
    refine WpOpsG.nil ?_
    change WpG _ _ _ _ _
    refine WpG.seq ?_
    refine WpG.cond rfl (fun hq1 => ?_) (fun hq1 => ?_)
    · (try simp only [decide_eq_true_eq, decide_eq_false_iff_not, Bool.or_eq_true, Bool.and_eq_true, Bool.or_eq_false_iff, Bool.and_eq_false_iff, bne_iff_ne, beq_iff_eq, beq_eq_false_iff_ne, bne_eq_false_iff_eq, ne_eq, Bool.not_eq_true', Bool.not_eq_false', Int.not_lt, Int.not_le, Decidable.not_not, List.length_map, List.length_cons, List.length_nil] at hq1)
      refine WpG.skip ?_
      change WpG _ _ _ _ _
      refine WpG.seq ?_
      refine WpG.block ?_
      refine WpG.seq ?_
      refine WpG.reg ?_
      refine G.mv rfl ?_
      refine G.mv rfl ?_
      refine WpOpsG.nil ?_
      change WpG _ _ _ _ _
      refine WpG.seq ?_
      refine WpG.reg ?_
      refine G.mv rfl ?_
      refine WpOpsG.nil ?_
      change WpG _ _ _ _ _
      refine WpG.block ?_
      refine WpG.loop (S := Nat) (fun (k : Nat) => [(0, .v (.bool false)), (1, .fsl 6 (base.map encL)), (2, .v (.int .i64 i)), (3, .v (.int .i64 k)), (11, .fsl 6 (base.map encL)), (12, .v (.int .i64 base.length)), (13, .v (.int .i64 i))]) (fun _ => []) (fun k => k ≤ 7) (fun k => 7 - k) (fun s => ⟨rfl, rfl⟩) ?_ 0 ?_ (by repeat (first | exact trivial | refine ⟨rfl, ?_⟩)) (by repeat (first | exact trivial | refine ⟨rfl, ?_⟩)) rfl
      · intro k hk
        refine WpG.seq ?_
        refine WpG.seq ?_
        refine WpG.reg ?_
        refine G.mv rfl ?_
        refine G.bin rfl rfl rfl ?_
        refine WpOpsG.nil ?_
        change WpG _ _ _ _ _
        refine WpG.cond rfl (fun hq2 => ?_) (fun hq2 => ?_)
        · (try simp only [decide_eq_true_eq, decide_eq_false_iff_not, Bool.or_eq_true, Bool.and_eq_true, Bool.or_eq_false_iff, Bool.and_eq_false_iff, bne_iff_ne, beq_iff_eq, beq_eq_false_iff_ne, bne_eq_false_iff_eq, ne_eq, Bool.not_eq_true', Bool.not_eq_false', Int.not_lt, Int.not_le, Decidable.not_not, List.length_map, List.length_cons, List.length_nil] at hq2)
          refine WpG.skip ?_
          change WpG _ _ _ _ _
          refine WpG.seq ?_
          refine WpG.block ?_
          refine WpG.seq ?_
          refine WpG.reg ?_
          refine G.bslice (g := 11) rfl rfl rfl rfl ?_
          refine G.mv rfl ?_
          first | refine G.app rfl rfl rfl rfl (.inl rfl) (by first | omega | (simp only [List.length_map, List.length_append, List.length_cons, List.length_nil, List.length_replicate, List.length_take, List.length_drop, List.length_set]; omega)) ?_ | refine G.app rfl rfl rfl rfl (.inr (by decide)) (by first | omega | (simp only [List.length_map, List.length_append, List.length_cons, List.length_nil, List.length_replicate, List.length_take, List.length_drop, List.length_set]; omega)) ?_ | refine G.appNil (g := 10) rfl rfl rfl rfl (by first | omega | (simp only [List.length_map, List.length_append, List.length_cons, List.length_nil, List.length_replicate, List.length_take, List.length_drop, List.length_set]; omega)) ?_
          change WpOpsG _ _ ((22, .osl 11) :: _) ((11, .arr true 6 (base.map encL)) :: _) _
          refine G.mv rfl ?_
          refine WpOpsG.nil ?_
          change WpG _ _ _ _ _
          refine WpG.seqJ ([(0, .v (.bool false)), (1, .fsl 6 (base.map encL)), (2, .v (.int .i64 i)), (3, .v (.int .i64 k)), (4, .osl 11), (11, .fsl 6 (base.map encL)), (12, .v (.int .i64 base.length)), (13, .v (.int .i64 i))]) ([(11, .arr true 6 ((base.set i (updK k base[i])).map encL))]) ⟨rfl, rfl⟩ ?_ ?_
          · change WpG _ _ _ _ _
            refine WpG.seq ?_
            refine WpG.reg ?_
            refine G.mv rfl ?_
            refine WpOpsG.nil ?_
            change WpG _ _ _ _ _
            refine WpG.block ?_
            refine WpG.seq ?_
            refine WpG.reg ?_
            refine G.bin rfl rfl rfl ?_
            refine G.mv rfl ?_
            refine WpOpsG.nil ?_
            change WpG _ _ _ _ _
            refine WpG.cond rfl (fun hq3 => ?_) (fun hq3 => ?_)
            · (try simp only [decide_eq_true_eq, decide_eq_false_iff_not, Bool.or_eq_true, Bool.and_eq_true, Bool.or_eq_false_iff, Bool.and_eq_false_iff, bne_iff_ne, beq_iff_eq, beq_eq_false_iff_ne, bne_eq_false_iff_eq, ne_eq, Bool.not_eq_true', Bool.not_eq_false', Int.not_lt, Int.not_le, Decidable.not_not, List.length_map, List.length_cons, List.length_nil] at hq3)
              refine WpG.reg ?_
              refine G.mv rfl ?_
              refine G.mv rfl ?_
              first | refine G.iaddrN rfl rfl (List.getElem?_eq_getElem (by first | omega | (simp only [List.length_map, List.length_append, List.length_cons, List.length_nil, List.length_replicate, List.length_take, List.length_drop, List.length_set]; omega))) ?_ | refine G.iaddrM rfl rfl (by omega) (List.getElem?_eq_getElem (by first | omega | (simp only [List.length_map, List.length_append, List.length_cons, List.length_nil, List.length_replicate, List.length_take, List.length_drop, List.length_set]; omega))) ?_ | refine G.iaddrF rfl rfl (by omega) rfl ?_ | refine G.iaddrO rfl rfl rfl (by omega) (by first | omega | (simp only [List.length_map, List.length_append, List.length_cons, List.length_nil, List.length_replicate, List.length_take, List.length_drop, List.length_set]; omega)) ?_ | refine G.iaddrF rfl rfl (by omega) (List.getElem?_eq_getElem (by first | omega | (simp only [List.length_map, List.length_append, List.length_cons, List.length_nil, List.length_replicate, List.length_take, List.length_drop, List.length_set]; omega))) ?_
              first | refine G.faddrB rfl ?_ | refine G.faddrF rfl ?_ | refine G.faddrE rfl ?_
              first | refine G.load1B rfl rfl rfl ?_ | refine G.load1F rfl rfl ?_ | refine G.load1E rfl rfl (List.getElem?_eq_getElem (by first | omega | (simp only [List.length_map, List.length_append, List.length_cons, List.length_nil, List.length_replicate, List.length_take, List.length_drop, List.length_set]; omega))) rfl ?_ | refine G.load1EM rfl rfl (List.getElem?_eq_getElem (by first | omega | (simp only [List.length_map, List.length_append, List.length_cons, List.length_nil, List.length_replicate, List.length_take, List.length_drop, List.length_set]; omega))) rfl ?_
              first | refine G.addI rfl rfl (by omega) ?_ | refine G.bin rfl rfl rfl ?_
              first | refine G.iaddrN rfl rfl (List.getElem?_eq_getElem (by first | omega | (simp only [List.length_map, List.length_append, List.length_cons, List.length_nil, List.length_replicate, List.length_take, List.length_drop, List.length_set]; omega))) ?_ | refine G.iaddrM rfl rfl (by omega) (List.getElem?_eq_getElem (by first | omega | (simp only [List.length_map, List.length_append, List.length_cons, List.length_nil, List.length_replicate, List.length_take, List.length_drop, List.length_set]; omega))) ?_ | refine G.iaddrF rfl rfl (by omega) rfl ?_ | refine G.iaddrO rfl rfl rfl (by omega) (by first | omega | (simp only [List.length_map, List.length_append, List.length_cons, List.length_nil, List.length_replicate, List.length_take, List.length_drop, List.length_set]; omega)) ?_ | refine G.iaddrF rfl rfl (by omega) (List.getElem?_eq_getElem (by first | omega | (simp only [List.length_map, List.length_append, List.length_cons, List.length_nil, List.length_replicate, List.length_take, List.length_drop, List.length_set]; omega))) ?_
              first | refine G.faddrB rfl ?_ | refine G.faddrF rfl ?_ | refine G.faddrE rfl ?_
              refine G.storeEM { base[i] with t := IntKind.i64.wrap (base[i].t + 1) } rfl rfl rfl (List.getElem?_eq_getElem (by omega)) rfl rfl rfl rfl ?_
              refine WpOpsG.nil ?_
              refine ⟨(by repeat (first | exact trivial | refine ⟨rfl, ?_⟩)), ⟨?_, trivial⟩, rfl⟩
              unfold updK
              repeat (first | rw [if_pos (by omega)] | rw [if_neg (by omega)])
              first | rfl | (rw [List.set_getElem_self]; rfl)
            · (try simp only [decide_eq_true_eq, decide_eq_false_iff_not, Bool.or_eq_true, Bool.and_eq_true, Bool.or_eq_false_iff, Bool.and_eq_false_iff, bne_iff_ne, beq_iff_eq, beq_eq_false_iff_ne, bne_eq_false_iff_eq, ne_eq, Bool.not_eq_true', Bool.not_eq_false', Int.not_lt, Int.not_le, Decidable.not_not, List.length_map, List.length_cons, List.length_nil] at hq3)
              refine WpG.seq ?_
              refine WpG.reg ?_
              refine G.bin rfl rfl rfl ?_
              refine G.mv rfl ?_
              refine WpOpsG.nil ?_
              change WpG _ _ _ _ _
              refine WpG.cond rfl (fun hq4 => ?_) (fun hq4 => ?_)
              · (try simp only [decide_eq_true_eq, decide_eq_false_iff_not, Bool.or_eq_true, Bool.and_eq_true, Bool.or_eq_false_iff, Bool.and_eq_false_iff, bne_iff_ne, beq_iff_eq, beq_eq_false_iff_ne, bne_eq_false_iff_eq, ne_eq, Bool.not_eq_true', Bool.not_eq_false', Int.not_lt, Int.not_le, Decidable.not_not, List.length_map, List.length_cons, List.length_nil] at hq4)
                refine WpG.reg ?_
                refine G.mv rfl ?_
                refine G.mv rfl ?_
                first | refine G.iaddrN rfl rfl (List.getElem?_eq_getElem (by first | omega | (simp only [List.length_map, List.length_append, List.length_cons, List.length_nil, List.length_replicate, List.length_take, List.length_drop, List.length_set]; omega))) ?_ | refine G.iaddrM rfl rfl (by omega) (List.getElem?_eq_getElem (by first | omega | (simp only [List.length_map, List.length_append, List.length_cons, List.length_nil, List.length_replicate, List.length_take, List.length_drop, List.length_set]; omega))) ?_ | refine G.iaddrF rfl rfl (by omega) rfl ?_ | refine G.iaddrO rfl rfl rfl (by omega) (by first | omega | (simp only [List.length_map, List.length_append, List.length_cons, List.length_nil, List.length_replicate, List.length_take, List.length_drop, List.length_set]; omega)) ?_ | refine G.iaddrF rfl rfl (by omega) (List.getElem?_eq_getElem (by first | omega | (simp only [List.length_map, List.length_append, List.length_cons, List.length_nil, List.length_replicate, List.length_take, List.length_drop, List.length_set]; omega))) ?_
                first | refine G.faddrB rfl ?_ | refine G.faddrF rfl ?_ | refine G.faddrE rfl ?_
                first | refine G.load1B rfl rfl rfl ?_ | refine G.load1F rfl rfl ?_ | refine G.load1E rfl rfl (List.getElem?_eq_getElem (by first | omega | (simp only [List.length_map, List.length_append, List.length_cons, List.length_nil, List.length_replicate, List.length_take, List.length_drop, List.length_set]; omega))) rfl ?_ | refine G.load1EM rfl rfl (List.getElem?_eq_getElem (by first | omega | (simp only [List.length_map, List.length_append, List.length_cons, List.length_nil, List.length_replicate, List.length_take, List.length_drop, List.length_set]; omega))) rfl ?_
                first | refine G.addI rfl rfl (by omega) ?_ | refine G.bin rfl rfl rfl ?_
                first | refine G.iaddrN rfl rfl (List.getElem?_eq_getElem (by first | omega | (simp only [List.length_map, List.length_append, List.length_cons, List.length_nil, List.length_replicate, List.length_take, List.length_drop, List.length_set]; omega))) ?_ | refine G.iaddrM rfl rfl (by omega) (List.getElem?_eq_getElem (by first | omega | (simp only [List.length_map, List.length_append, List.length_cons, List.length_nil, List.length_replicate, List.length_take, List.length_drop, List.length_set]; omega))) ?_ | refine G.iaddrF rfl rfl (by omega) rfl ?_ | refine G.iaddrO rfl rfl rfl (by omega) (by first | omega | (simp only [List.length_map, List.length_append, List.length_cons, List.length_nil, List.length_replicate, List.length_take, List.length_drop, List.length_set]; omega)) ?_ | refine G.iaddrF rfl rfl (by omega) (List.getElem?_eq_getElem (by first | omega | (simp only [List.length_map, List.length_append, List.length_cons, List.length_nil, List.length_replicate, List.length_take, List.length_drop, List.length_set]; omega))) ?_
                first | refine G.faddrB rfl ?_ | refine G.faddrF rfl ?_ | refine G.faddrE rfl ?_
                refine G.storeEM { base[i] with p := IntKind.i64.wrap (base[i].p + 1) } rfl rfl rfl (List.getElem?_eq_getElem (by omega)) rfl rfl rfl rfl ?_
                refine WpOpsG.nil ?_
                refine ⟨(by repeat (first | exact trivial | refine ⟨rfl, ?_⟩)), ⟨?_, trivial⟩, rfl⟩
                unfold updK
                repeat (first | rw [if_pos (by omega)] | rw [if_neg (by omega)])
                first | rfl | (rw [List.set_getElem_self]; rfl)
              · (try simp only [decide_eq_true_eq, decide_eq_false_iff_not, Bool.or_eq_true, Bool.and_eq_true, Bool.or_eq_false_iff, Bool.and_eq_false_iff, bne_iff_ne, beq_iff_eq, beq_eq_false_iff_ne, bne_eq_false_iff_eq, ne_eq, Bool.not_eq_true', Bool.not_eq_false', Int.not_lt, Int.not_le, Decidable.not_not, List.length_map, List.length_cons, List.length_nil] at hq4)
                refine WpG.seq ?_
                refine WpG.reg ?_
                refine G.bin rfl rfl rfl ?_
                refine G.mv rfl ?_
                refine WpOpsG.nil ?_
                change WpG _ _ _ _ _
                refine WpG.cond rfl (fun hq5 => ?_) (fun hq5 => ?_)
                · (try simp only [decide_eq_true_eq, decide_eq_false_iff_not, Bool.or_eq_true, Bool.and_eq_true, Bool.or_eq_false_iff, Bool.and_eq_false_iff, bne_iff_ne, beq_iff_eq, beq_eq_false_iff_ne, bne_eq_false_iff_eq, ne_eq, Bool.not_eq_true', Bool.not_eq_false', Int.not_lt, Int.not_le, Decidable.not_not, List.length_map, List.length_cons, List.length_nil] at hq5)
                  refine WpG.reg ?_
                  refine G.mv rfl ?_
                  refine G.mv rfl ?_
                  first | refine G.iaddrN rfl rfl (List.getElem?_eq_getElem (by first | omega | (simp only [List.length_map, List.length_append, List.length_cons, List.length_nil, List.length_replicate, List.length_take, List.length_drop, List.length_set]; omega))) ?_ | refine G.iaddrM rfl rfl (by omega) (List.getElem?_eq_getElem (by first | omega | (simp only [List.length_map, List.length_append, List.length_cons, List.length_nil, List.length_replicate, List.length_take, List.length_drop, List.length_set]; omega))) ?_ | refine G.iaddrF rfl rfl (by omega) rfl ?_ | refine G.iaddrO rfl rfl rfl (by omega) (by first | omega | (simp only [List.length_map, List.length_append, List.length_cons, List.length_nil, List.length_replicate, List.length_take, List.length_drop, List.length_set]; omega)) ?_ | refine G.iaddrF rfl rfl (by omega) (List.getElem?_eq_getElem (by first | omega | (simp only [List.length_map, List.length_append, List.length_cons, List.length_nil, List.length_replicate, List.length_take, List.length_drop, List.length_set]; omega))) ?_
                  first | refine G.faddrB rfl ?_ | refine G.faddrF rfl ?_ | refine G.faddrE rfl ?_
                  first | refine G.load1B rfl rfl rfl ?_ | refine G.load1F rfl rfl ?_ | refine G.load1E rfl rfl (List.getElem?_eq_getElem (by first | omega | (simp only [List.length_map, List.length_append, List.length_cons, List.length_nil, List.length_replicate, List.length_take, List.length_drop, List.length_set]; omega))) rfl ?_ | refine G.load1EM rfl rfl (List.getElem?_eq_getElem (by first | omega | (simp only [List.length_map, List.length_append, List.length_cons, List.length_nil, List.length_replicate, List.length_take, List.length_drop, List.length_set]; omega))) rfl ?_
                  first | refine G.addI rfl rfl (by omega) ?_ | refine G.bin rfl rfl rfl ?_
                  first | refine G.iaddrN rfl rfl (List.getElem?_eq_getElem (by first | omega | (simp only [List.length_map, List.length_append, List.length_cons, List.length_nil, List.length_replicate, List.length_take, List.length_drop, List.length_set]; omega))) ?_ | refine G.iaddrM rfl rfl (by omega) (List.getElem?_eq_getElem (by first | omega | (simp only [List.length_map, List.length_append, List.length_cons, List.length_nil, List.length_replicate, List.length_take, List.length_drop, List.length_set]; omega))) ?_ | refine G.iaddrF rfl rfl (by omega) rfl ?_ | refine G.iaddrO rfl rfl rfl (by omega) (by first | omega | (simp only [List.length_map, List.length_append, List.length_cons, List.length_nil, List.length_replicate, List.length_take, List.length_drop, List.length_set]; omega)) ?_ | refine G.iaddrF rfl rfl (by omega) (List.getElem?_eq_getElem (by first | omega | (simp only [List.length_map, List.length_append, List.length_cons, List.length_nil, List.length_replicate, List.length_take, List.length_drop, List.length_set]; omega))) ?_
                  first | refine G.faddrB rfl ?_ | refine G.faddrF rfl ?_ | refine G.faddrE rfl ?_
                  refine G.storeEM { base[i] with c := IntKind.i64.wrap (base[i].c + 1) } rfl rfl rfl (List.getElem?_eq_getElem (by omega)) rfl rfl rfl rfl ?_
                  refine WpOpsG.nil ?_
                  refine ⟨(by repeat (first | exact trivial | refine ⟨rfl, ?_⟩)), ⟨?_, trivial⟩, rfl⟩
                  unfold updK
                  repeat (first | rw [if_pos (by omega)] | rw [if_neg (by omega)])
                  first | rfl | (rw [List.set_getElem_self]; rfl)
                · (try simp only [decide_eq_true_eq, decide_eq_false_iff_not, Bool.or_eq_true, Bool.and_eq_true, Bool.or_eq_false_iff, Bool.and_eq_false_iff, bne_iff_ne, beq_iff_eq, beq_eq_false_iff_ne, bne_eq_false_iff_eq, ne_eq, Bool.not_eq_true', Bool.not_eq_false', Int.not_lt, Int.not_le, Decidable.not_not, List.length_map, List.length_cons, List.length_nil] at hq5)
                  refine WpG.seq ?_
                  refine WpG.reg ?_
                  refine G.bin rfl rfl rfl ?_
                  refine G.mv rfl ?_
                  refine WpOpsG.nil ?_
                  change WpG _ _ _ _ _
                  refine WpG.cond rfl (fun hq6 => ?_) (fun hq6 => ?_)
                  · (try simp only [decide_eq_true_eq, decide_eq_false_iff_not, Bool.or_eq_true, Bool.and_eq_true, Bool.or_eq_false_iff, Bool.and_eq_false_iff, bne_iff_ne, beq_iff_eq, beq_eq_false_iff_ne, bne_eq_false_iff_eq, ne_eq, Bool.not_eq_true', Bool.not_eq_false', Int.not_lt, Int.not_le, Decidable.not_not, List.length_map, List.length_cons, List.length_nil] at hq6)
                    refine WpG.reg ?_
                    refine G.mv rfl ?_
                    refine G.mv rfl ?_
                    first | refine G.iaddrN rfl rfl (List.getElem?_eq_getElem (by first | omega | (simp only [List.length_map, List.length_append, List.length_cons, List.length_nil, List.length_replicate, List.length_take, List.length_drop, List.length_set]; omega))) ?_ | refine G.iaddrM rfl rfl (by omega) (List.getElem?_eq_getElem (by first | omega | (simp only [List.length_map, List.length_append, List.length_cons, List.length_nil, List.length_replicate, List.length_take, List.length_drop, List.length_set]; omega))) ?_ | refine G.iaddrF rfl rfl (by omega) rfl ?_ | refine G.iaddrO rfl rfl rfl (by omega) (by first | omega | (simp only [List.length_map, List.length_append, List.length_cons, List.length_nil, List.length_replicate, List.length_take, List.length_drop, List.length_set]; omega)) ?_ | refine G.iaddrF rfl rfl (by omega) (List.getElem?_eq_getElem (by first | omega | (simp only [List.length_map, List.length_append, List.length_cons, List.length_nil, List.length_replicate, List.length_take, List.length_drop, List.length_set]; omega))) ?_
                    first | refine G.faddrB rfl ?_ | refine G.faddrF rfl ?_ | refine G.faddrE rfl ?_
                    first | refine G.load1B rfl rfl rfl ?_ | refine G.load1F rfl rfl ?_ | refine G.load1E rfl rfl (List.getElem?_eq_getElem (by first | omega | (simp only [List.length_map, List.length_append, List.length_cons, List.length_nil, List.length_replicate, List.length_take, List.length_drop, List.length_set]; omega))) rfl ?_ | refine G.load1EM rfl rfl (List.getElem?_eq_getElem (by first | omega | (simp only [List.length_map, List.length_append, List.length_cons, List.length_nil, List.length_replicate, List.length_take, List.length_drop, List.length_set]; omega))) rfl ?_
                    first | refine G.addI rfl rfl (by omega) ?_ | refine G.bin rfl rfl rfl ?_
                    first | refine G.iaddrN rfl rfl (List.getElem?_eq_getElem (by first | omega | (simp only [List.length_map, List.length_append, List.length_cons, List.length_nil, List.length_replicate, List.length_take, List.length_drop, List.length_set]; omega))) ?_ | refine G.iaddrM rfl rfl (by omega) (List.getElem?_eq_getElem (by first | omega | (simp only [List.length_map, List.length_append, List.length_cons, List.length_nil, List.length_replicate, List.length_take, List.length_drop, List.length_set]; omega))) ?_ | refine G.iaddrF rfl rfl (by omega) rfl ?_ | refine G.iaddrO rfl rfl rfl (by omega) (by first | omega | (simp only [List.length_map, List.length_append, List.length_cons, List.length_nil, List.length_replicate, List.length_take, List.length_drop, List.length_set]; omega)) ?_ | refine G.iaddrF rfl rfl (by omega) (List.getElem?_eq_getElem (by first | omega | (simp only [List.length_map, List.length_append, List.length_cons, List.length_nil, List.length_replicate, List.length_take, List.length_drop, List.length_set]; omega))) ?_
                    first | refine G.faddrB rfl ?_ | refine G.faddrF rfl ?_ | refine G.faddrE rfl ?_
                    refine G.storeEM { base[i] with o := IntKind.i64.wrap (base[i].o + 1) } rfl rfl rfl (List.getElem?_eq_getElem (by omega)) rfl rfl rfl rfl ?_
                    refine WpOpsG.nil ?_
                    refine ⟨(by repeat (first | exact trivial | refine ⟨rfl, ?_⟩)), ⟨?_, trivial⟩, rfl⟩
                    unfold updK
                    repeat (first | rw [if_pos (by omega)] | rw [if_neg (by omega)])
                    first | rfl | (rw [List.set_getElem_self]; rfl)
                  · (try simp only [decide_eq_true_eq, decide_eq_false_iff_not, Bool.or_eq_true, Bool.and_eq_true, Bool.or_eq_false_iff, Bool.and_eq_false_iff, bne_iff_ne, beq_iff_eq, beq_eq_false_iff_ne, bne_eq_false_iff_eq, ne_eq, Bool.not_eq_true', Bool.not_eq_false', Int.not_lt, Int.not_le, Decidable.not_not, List.length_map, List.length_cons, List.length_nil] at hq6)
                    refine WpG.seq ?_
                    refine WpG.reg ?_
                    refine G.bin rfl rfl rfl ?_
                    refine G.mv rfl ?_
                    refine WpOpsG.nil ?_
                    change WpG _ _ _ _ _
                    refine WpG.cond rfl (fun hq7 => ?_) (fun hq7 => ?_)
                    · (try simp only [decide_eq_true_eq, decide_eq_false_iff_not, Bool.or_eq_true, Bool.and_eq_true, Bool.or_eq_false_iff, Bool.and_eq_false_iff, bne_iff_ne, beq_iff_eq, beq_eq_false_iff_ne, bne_eq_false_iff_eq, ne_eq, Bool.not_eq_true', Bool.not_eq_false', Int.not_lt, Int.not_le, Decidable.not_not, List.length_map, List.length_cons, List.length_nil] at hq7)
                      refine WpG.reg ?_
                      refine G.mv rfl ?_
                      refine G.mv rfl ?_
                      first | refine G.iaddrN rfl rfl (List.getElem?_eq_getElem (by first | omega | (simp only [List.length_map, List.length_append, List.length_cons, List.length_nil, List.length_replicate, List.length_take, List.length_drop, List.length_set]; omega))) ?_ | refine G.iaddrM rfl rfl (by omega) (List.getElem?_eq_getElem (by first | omega | (simp only [List.length_map, List.length_append, List.length_cons, List.length_nil, List.length_replicate, List.length_take, List.length_drop, List.length_set]; omega))) ?_ | refine G.iaddrF rfl rfl (by omega) rfl ?_ | refine G.iaddrO rfl rfl rfl (by omega) (by first | omega | (simp only [List.length_map, List.length_append, List.length_cons, List.length_nil, List.length_replicate, List.length_take, List.length_drop, List.length_set]; omega)) ?_ | refine G.iaddrF rfl rfl (by omega) (List.getElem?_eq_getElem (by first | omega | (simp only [List.length_map, List.length_append, List.length_cons, List.length_nil, List.length_replicate, List.length_take, List.length_drop, List.length_set]; omega))) ?_
                      first | refine G.faddrB rfl ?_ | refine G.faddrF rfl ?_ | refine G.faddrE rfl ?_
                      first | refine G.load1B rfl rfl rfl ?_ | refine G.load1F rfl rfl ?_ | refine G.load1E rfl rfl (List.getElem?_eq_getElem (by first | omega | (simp only [List.length_map, List.length_append, List.length_cons, List.length_nil, List.length_replicate, List.length_take, List.length_drop, List.length_set]; omega))) rfl ?_ | refine G.load1EM rfl rfl (List.getElem?_eq_getElem (by first | omega | (simp only [List.length_map, List.length_append, List.length_cons, List.length_nil, List.length_replicate, List.length_take, List.length_drop, List.length_set]; omega))) rfl ?_
                      first | refine G.addI rfl rfl (by omega) ?_ | refine G.bin rfl rfl rfl ?_
                      first | refine G.iaddrN rfl rfl (List.getElem?_eq_getElem (by first | omega | (simp only [List.length_map, List.length_append, List.length_cons, List.length_nil, List.length_replicate, List.length_take, List.length_drop, List.length_set]; omega))) ?_ | refine G.iaddrM rfl rfl (by omega) (List.getElem?_eq_getElem (by first | omega | (simp only [List.length_map, List.length_append, List.length_cons, List.length_nil, List.length_replicate, List.length_take, List.length_drop, List.length_set]; omega))) ?_ | refine G.iaddrF rfl rfl (by omega) rfl ?_ | refine G.iaddrO rfl rfl rfl (by omega) (by first | omega | (simp only [List.length_map, List.length_append, List.length_cons, List.length_nil, List.length_replicate, List.length_take, List.length_drop, List.length_set]; omega)) ?_ | refine G.iaddrF rfl rfl (by omega) (List.getElem?_eq_getElem (by first | omega | (simp only [List.length_map, List.length_append, List.length_cons, List.length_nil, List.length_replicate, List.length_take, List.length_drop, List.length_set]; omega))) ?_
                      first | refine G.faddrB rfl ?_ | refine G.faddrF rfl ?_ | refine G.faddrE rfl ?_
                      refine G.storeEM { base[i] with f := IntKind.i64.wrap (base[i].f + 1) } rfl rfl rfl (List.getElem?_eq_getElem (by omega)) rfl rfl rfl rfl ?_
                      refine WpOpsG.nil ?_
                      refine ⟨(by repeat (first | exact trivial | refine ⟨rfl, ?_⟩)), ⟨?_, trivial⟩, rfl⟩
                      unfold updK
                      repeat (first | rw [if_pos (by omega)] | rw [if_neg (by omega)])
                      first | rfl | (rw [List.set_getElem_self]; rfl)
                    · (try simp only [decide_eq_true_eq, decide_eq_false_iff_not, Bool.or_eq_true, Bool.and_eq_true, Bool.or_eq_false_iff, Bool.and_eq_false_iff, bne_iff_ne, beq_iff_eq, beq_eq_false_iff_ne, bne_eq_false_iff_eq, ne_eq, Bool.not_eq_true', Bool.not_eq_false', Int.not_lt, Int.not_le, Decidable.not_not, List.length_map, List.length_cons, List.length_nil] at hq7)
                      refine WpG.seq ?_
                      refine WpG.reg ?_
                      refine G.bin rfl rfl rfl ?_
                      refine G.mv rfl ?_
                      refine WpOpsG.nil ?_
                      change WpG _ _ _ _ _
                      refine WpG.cond rfl (fun hq8 => ?_) (fun hq8 => ?_)
                      · (try simp only [decide_eq_true_eq, decide_eq_false_iff_not, Bool.or_eq_true, Bool.and_eq_true, Bool.or_eq_false_iff, Bool.and_eq_false_iff, bne_iff_ne, beq_iff_eq, beq_eq_false_iff_ne, bne_eq_false_iff_eq, ne_eq, Bool.not_eq_true', Bool.not_eq_false', Int.not_lt, Int.not_le, Decidable.not_not, List.length_map, List.length_cons, List.length_nil] at hq8)
                        refine WpG.reg ?_
                        refine G.mv rfl ?_
                        refine G.mv rfl ?_
                        first | refine G.iaddrN rfl rfl (List.getElem?_eq_getElem (by first | omega | (simp only [List.length_map, List.length_append, List.length_cons, List.length_nil, List.length_replicate, List.length_take, List.length_drop, List.length_set]; omega))) ?_ | refine G.iaddrM rfl rfl (by omega) (List.getElem?_eq_getElem (by first | omega | (simp only [List.length_map, List.length_append, List.length_cons, List.length_nil, List.length_replicate, List.length_take, List.length_drop, List.length_set]; omega))) ?_ | refine G.iaddrF rfl rfl (by omega) rfl ?_ | refine G.iaddrO rfl rfl rfl (by omega) (by first | omega | (simp only [List.length_map, List.length_append, List.length_cons, List.length_nil, List.length_replicate, List.length_take, List.length_drop, List.length_set]; omega)) ?_ | refine G.iaddrF rfl rfl (by omega) (List.getElem?_eq_getElem (by first | omega | (simp only [List.length_map, List.length_append, List.length_cons, List.length_nil, List.length_replicate, List.length_take, List.length_drop, List.length_set]; omega))) ?_
                        first | refine G.faddrB rfl ?_ | refine G.faddrF rfl ?_ | refine G.faddrE rfl ?_
                        first | refine G.load1B rfl rfl rfl ?_ | refine G.load1F rfl rfl ?_ | refine G.load1E rfl rfl (List.getElem?_eq_getElem (by first | omega | (simp only [List.length_map, List.length_append, List.length_cons, List.length_nil, List.length_replicate, List.length_take, List.length_drop, List.length_set]; omega))) rfl ?_ | refine G.load1EM rfl rfl (List.getElem?_eq_getElem (by first | omega | (simp only [List.length_map, List.length_append, List.length_cons, List.length_nil, List.length_replicate, List.length_take, List.length_drop, List.length_set]; omega))) rfl ?_
                        first | refine G.addI rfl rfl (by omega) ?_ | refine G.bin rfl rfl rfl ?_
                        first | refine G.iaddrN rfl rfl (List.getElem?_eq_getElem (by first | omega | (simp only [List.length_map, List.length_append, List.length_cons, List.length_nil, List.length_replicate, List.length_take, List.length_drop, List.length_set]; omega))) ?_ | refine G.iaddrM rfl rfl (by omega) (List.getElem?_eq_getElem (by first | omega | (simp only [List.length_map, List.length_append, List.length_cons, List.length_nil, List.length_replicate, List.length_take, List.length_drop, List.length_set]; omega))) ?_ | refine G.iaddrF rfl rfl (by omega) rfl ?_ | refine G.iaddrO rfl rfl rfl (by omega) (by first | omega | (simp only [List.length_map, List.length_append, List.length_cons, List.length_nil, List.length_replicate, List.length_take, List.length_drop, List.length_set]; omega)) ?_ | refine G.iaddrF rfl rfl (by omega) (List.getElem?_eq_getElem (by first | omega | (simp only [List.length_map, List.length_append, List.length_cons, List.length_nil, List.length_replicate, List.length_take, List.length_drop, List.length_set]; omega))) ?_
                        first | refine G.faddrB rfl ?_ | refine G.faddrF rfl ?_ | refine G.faddrE rfl ?_
                        refine G.storeEM { base[i] with v := IntKind.u32.wrap (base[i].v + 1) } rfl rfl rfl (List.getElem?_eq_getElem (by omega)) rfl rfl rfl rfl ?_
                        refine WpOpsG.nil ?_
                        refine ⟨(by repeat (first | exact trivial | refine ⟨rfl, ?_⟩)), ⟨?_, trivial⟩, rfl⟩
                        unfold updK
                        repeat (first | rw [if_pos (by omega)] | rw [if_neg (by omega)])
                        first | rfl | (rw [List.set_getElem_self]; rfl)
                      · (try simp only [decide_eq_true_eq, decide_eq_false_iff_not, Bool.or_eq_true, Bool.and_eq_true, Bool.or_eq_false_iff, Bool.and_eq_false_iff, bne_iff_ne, beq_iff_eq, beq_eq_false_iff_ne, bne_eq_false_iff_eq, ne_eq, Bool.not_eq_true', Bool.not_eq_false', Int.not_lt, Int.not_le, Decidable.not_not, List.length_map, List.length_cons, List.length_nil] at hq8)
                        refine WpG.skip ?_
                        refine ⟨(by repeat (first | exact trivial | refine ⟨rfl, ?_⟩)), ⟨?_, trivial⟩, rfl⟩
                        unfold updK
                        repeat (first | rw [if_pos (by omega)] | rw [if_neg (by omega)])
                        first | rfl | (rw [List.set_getElem_self]; rfl)
          refine WpG.freeze 11 rfl ?_
          have hi4 : i < base.length := by omega
          change WpG _ _ _ _ _
          refine WpG.seq ?_
          refine WpG.reg ?_
          refine G.mv rfl ?_
          refine G.mv rfl ?_
          refine G.bsliceF rfl rfl rfl ?_
          refine G.mv rfl ?_
          refine G.mv rfl ?_
          refine G.mv rfl ?_
          refine G.slTake (n := i) rfl rfl (by first | omega | (simp only [List.length_map, List.length_append, List.length_cons, List.length_nil, List.length_replicate, List.length_take, List.length_drop, List.length_set]; omega)) ?_
          refine G.bsliceF rfl rfl rfl ?_
          refine G.call0 rfl rfl (same_ok [base, (base.set i (updK k base[i]))] [(base.set i (updK k base[i])), base.take i] (small2 (by first | (rw [hb]; done) | omega | (simp only [List.length_set, List.length_take]; omega)) (by first | omega | (simp only [List.length_set, List.length_take]; omega))) (small2 (by first | (rw [hb]; done) | omega | (simp only [List.length_set, List.length_take]; omega)) (by first | omega | (simp only [List.length_set, List.length_take]; omega)))) ?_
          rintro _ _ ⟨rfl, rfl⟩
          refine ⟨rfl, ?_⟩
          change WpOpsG _ _ ((92, _) :: _) _ _
          refine G.un rfl rfl ?_
          refine G.mv rfl ?_
          apply G.orS rfl rfl rfl rfl rfl rfl
          case hB =>
            intro hs9
            (try simp only [decide_eq_true_eq, decide_eq_false_iff_not, Bool.or_eq_true, Bool.and_eq_true, Bool.or_eq_false_iff, Bool.and_eq_false_iff, bne_iff_ne, beq_iff_eq, beq_eq_false_iff_ne, bne_eq_false_iff_eq, ne_eq, Bool.not_eq_true', Bool.not_eq_false', Int.not_lt, Int.not_le, Decidable.not_not, List.length_map, List.length_cons, List.length_nil] at hs9)
            refine G.mv rfl ?_
            refine G.bsliceF rfl rfl rfl ?_
            refine G.mv rfl ?_
            refine G.mv rfl ?_
            refine G.slTake (n := i) rfl rfl (by first | omega | (simp only [List.length_map, List.length_append, List.length_cons, List.length_nil, List.length_replicate, List.length_take, List.length_drop, List.length_set]; omega)) ?_
            refine G.bsliceF rfl rfl rfl ?_
            refine G.call0 rfl rfl (same_ok [base] [(base.set i (updK k base[i])).take i] (small0 (by first | omega | (simp only [List.length_set, List.length_take]; omega))) (small0 (by first | omega | (simp only [List.length_set, List.length_take]; omega)))) ?_
            rintro _ _ ⟨rfl, rfl⟩
            refine ⟨rfl, ?_⟩
            change WpOpsG _ _ ((101, _) :: _) _ _
            refine G.un rfl rfl ?_
            refine WpOpsG.nil ?_
            exact ⟨rfl, (by repeat (first | exact LLe.refl _ | refine LLe.cons rfl ?_)), (by repeat (first | exact HLe.refl _ | refine HLe.cons rfl ?_)), rfl⟩
          refine G.mv rfl ?_
          apply G.orS rfl rfl rfl rfl rfl rfl
          case hB =>
            intro hs10
            (try simp only [decide_eq_true_eq, decide_eq_false_iff_not, Bool.or_eq_true, Bool.and_eq_true, Bool.or_eq_false_iff, Bool.and_eq_false_iff, bne_iff_ne, beq_iff_eq, beq_eq_false_iff_ne, bne_eq_false_iff_eq, ne_eq, Bool.not_eq_true', Bool.not_eq_false', Int.not_lt, Int.not_le, Decidable.not_not, List.length_map, List.length_cons, List.length_nil] at hs10)
            refine G.mv rfl ?_
            refine G.mv rfl ?_
            first | refine G.addI rfl rfl (by omega) ?_ | refine G.bin rfl rfl rfl ?_
            refine G.slTake (n := i + 1) rfl rfl (by first | omega | (simp only [List.length_map, List.length_append, List.length_cons, List.length_nil, List.length_replicate, List.length_take, List.length_drop, List.length_set]; omega)) ?_
            refine G.bsliceF rfl rfl rfl ?_
            refine G.mv rfl ?_
            refine G.bsliceF rfl rfl rfl ?_
            refine G.call0 rfl rfl (same_ok [(base.set i (updK k base[i])).take (i + 1)] [base] (small0 (by first | omega | (simp only [List.length_set, List.length_take]; omega))) (small0 (by first | omega | (simp only [List.length_set, List.length_take]; omega)))) ?_
            rintro _ _ ⟨rfl, rfl⟩
            refine ⟨rfl, ?_⟩
            change WpOpsG _ _ ((112, _) :: _) _ _
            refine G.un rfl rfl ?_
            refine WpOpsG.nil ?_
            exact ⟨rfl, (by repeat (first | exact LLe.refl _ | refine LLe.cons rfl ?_)), (by repeat (first | exact HLe.refl _ | refine HLe.cons rfl ?_)), rfl⟩
          refine WpOpsG.nil ?_
          change WpG _ _ _ _ _
          refine WpG.cond rfl (fun hq11 => ?_) (fun hq11 => ?_)
          · (try simp only [decide_eq_true_eq, decide_eq_false_iff_not, Bool.or_eq_true, Bool.and_eq_true, Bool.or_eq_false_iff, Bool.and_eq_false_iff, bne_iff_ne, beq_iff_eq, beq_eq_false_iff_ne, bne_eq_false_iff_eq, ne_eq, Bool.not_eq_true', Bool.not_eq_false', Int.not_lt, Int.not_le, Decidable.not_not, List.length_map, List.length_cons, List.length_nil] at hq11)
            exfalso; simp at hq11
          · (try simp only [decide_eq_true_eq, decide_eq_false_iff_not, Bool.or_eq_true, Bool.and_eq_true, Bool.or_eq_false_iff, Bool.and_eq_false_iff, bne_iff_ne, beq_iff_eq, beq_eq_false_iff_ne, bne_eq_false_iff_eq, ne_eq, Bool.not_eq_true', Bool.not_eq_false', Int.not_lt, Int.not_le, Decidable.not_not, List.length_map, List.length_cons, List.length_nil] at hq11)
            refine WpG.skip ?_
            change WpG _ _ _ _ _
            refine WpG.reg ?_
            refine G.mv rfl ?_
            first | refine G.addI rfl rfl (by omega) ?_ | refine G.bin rfl rfl rfl ?_
            refine G.mv rfl ?_
            refine WpOpsG.nil ?_
            exact ⟨k + 1, by omega, by omega, ⟨rfl, rfl, rfl, rfl, rfl, rfl, rfl, trivial⟩, trivial, rfl⟩
        · (try simp only [decide_eq_true_eq, decide_eq_false_iff_not, Bool.or_eq_true, Bool.and_eq_true, Bool.or_eq_false_iff, Bool.and_eq_false_iff, bne_iff_ne, beq_iff_eq, beq_eq_false_iff_ne, bne_eq_false_iff_eq, ne_eq, Bool.not_eq_true', Bool.not_eq_false', Int.not_lt, Int.not_le, Decidable.not_not, List.length_map, List.length_cons, List.length_nil] at hq2)
          refine WpG.exit ?_
          change WpG _ _ _ _ _
          refine WpG.reg ?_
          first | refine G.addI rfl rfl (by omega) ?_ | refine G.bin rfl rfl rfl ?_
          refine G.mv rfl ?_
          refine WpOpsG.nil ?_
          refine ⟨i + 1, by omega, by omega, ⟨rfl, rfl, rfl, rfl, rfl, trivial⟩, (by repeat (first | exact trivial | refine ⟨rfl, ?_⟩)), rfl⟩
      · exact Nat.zero_le _
    · (try simp only [decide_eq_true_eq, decide_eq_false_iff_not, Bool.or_eq_true, Bool.and_eq_true, Bool.or_eq_false_iff, Bool.and_eq_false_iff, bne_iff_ne, beq_iff_eq, beq_eq_false_iff_ne, bne_eq_false_iff_eq, ne_eq, Bool.not_eq_true', Bool.not_eq_false', Int.not_lt, Int.not_le, Decidable.not_not, List.length_map, List.length_cons, List.length_nil] at hq1)
      refine WpG.exit ?_
      change WpG _ _ _ _ _
      refine WpG.seq ?_
      refine WpG.seq ?_
      refine WpG.reg ?_
      refine G.mv rfl ?_
      refine WpOpsG.nil ?_
      change WpG _ _ _ _ _
      refine WpG.block ?_
      refine WpG.loop (S := Nat) (fun (k : Nat) => [(0, .v (.bool false)), (5, .v (.int .i64 ((k : Int) - 1)))]) (fun _ => []) (fun k => k ≤ 10) (fun k => 10 - k) (fun s => ⟨rfl, rfl⟩) ?_ 0 ?_ (by repeat (first | exact trivial | refine ⟨rfl, ?_⟩)) (by repeat (first | exact trivial | refine ⟨rfl, ?_⟩)) rfl
      · intro k hk
        refine WpG.seq ?_
        refine WpG.seq ?_
        refine WpG.reg ?_
        refine G.mv rfl ?_
        refine G.bin rfl rfl rfl ?_
        refine WpOpsG.nil ?_
        change WpG _ _ _ _ _
        refine WpG.cond rfl (fun hq12 => ?_) (fun hq12 => ?_)
        · (try simp only [decide_eq_true_eq, decide_eq_false_iff_not, Bool.or_eq_true, Bool.and_eq_true, Bool.or_eq_false_iff, Bool.and_eq_false_iff, bne_iff_ne, beq_iff_eq, beq_eq_false_iff_ne, bne_eq_false_iff_eq, ne_eq, Bool.not_eq_true', Bool.not_eq_false', Int.not_lt, Int.not_le, Decidable.not_not, List.length_map, List.length_cons, List.length_nil] at hq12)
          refine WpG.skip ?_
          change WpG _ _ _ _ _
          refine WpG.seq ?_
          refine WpG.block ?_
          refine WpG.seq ?_
          refine WpG.reg ?_
          refine G.build rfl ?_
          refine G.build rfl ?_
          refine G.build rfl ?_
          refine G.bsliceF rfl rfl rfl ?_
          refine G.mv rfl ?_
          refine G.call0 rfl rfl (lticks_ok [⟨0, 2⟩, ⟨-1, 1⟩, ⟨5, 1⟩] ((k : Int) - 1) (by decide) (by unfold okN i64; decide) (by unfold i64; omega)) ?_
          rintro _ _ ⟨rfl, rfl⟩
          refine ⟨rfl, ?_⟩
          change WpOpsG _ _ ((125, _) :: _) _ _
          refine G.un rfl rfl ?_
          refine G.mv rfl ?_
          apply G.orS rfl rfl rfl rfl rfl rfl
          case hB =>
            intro hs13
            (try simp only [decide_eq_true_eq, decide_eq_false_iff_not, Bool.or_eq_true, Bool.and_eq_true, Bool.or_eq_false_iff, Bool.and_eq_false_iff, bne_iff_ne, beq_iff_eq, beq_eq_false_iff_ne, bne_eq_false_iff_eq, ne_eq, Bool.not_eq_true', Bool.not_eq_false', Int.not_lt, Int.not_le, Decidable.not_not, List.length_map, List.length_cons, List.length_nil] at hs13)
            refine G.build rfl ?_
            refine G.bsliceF rfl rfl rfl ?_
            refine G.mv rfl ?_
            refine G.call0 rfl rfl (lticks_ok [⟨0, 0⟩] ((k : Int) - 1) (by decide) (by unfold okN i64; decide) (by unfold i64; omega)) ?_
            rintro _ _ ⟨rfl, rfl⟩
            refine ⟨rfl, ?_⟩
            change WpOpsG _ _ ((131, _) :: _) _ _
            refine G.un rfl rfl ?_
            refine WpOpsG.nil ?_
            exact ⟨rfl, (by repeat (first | exact LLe.refl _ | refine LLe.cons rfl ?_)), (by repeat (first | exact HLe.refl _ | refine HLe.cons rfl ?_)), rfl⟩
          refine WpOpsG.nil ?_
          change WpG _ _ _ _ _
          refine WpG.cond rfl (fun hq14 => ?_) (fun hq14 => ?_)
          · (try simp only [decide_eq_true_eq, decide_eq_false_iff_not, Bool.or_eq_true, Bool.and_eq_true, Bool.or_eq_false_iff, Bool.and_eq_false_iff, bne_iff_ne, beq_iff_eq, beq_eq_false_iff_ne, bne_eq_false_iff_eq, ne_eq, Bool.not_eq_true', Bool.not_eq_false', Int.not_lt, Int.not_le, Decidable.not_not, List.length_map, List.length_cons, List.length_nil] at hq14)
            exfalso; simp at hq14
          · (try simp only [decide_eq_true_eq, decide_eq_false_iff_not, Bool.or_eq_true, Bool.and_eq_true, Bool.or_eq_false_iff, Bool.and_eq_false_iff, bne_iff_ne, beq_iff_eq, beq_eq_false_iff_ne, bne_eq_false_iff_eq, ne_eq, Bool.not_eq_true', Bool.not_eq_false', Int.not_lt, Int.not_le, Decidable.not_not, List.length_map, List.length_cons, List.length_nil] at hq14)
            refine WpG.skip ?_
            change WpG _ _ _ _ _
            refine WpG.reg ?_
            refine G.mv rfl ?_
            first | refine G.addI rfl rfl (by omega) ?_ | refine G.bin rfl rfl rfl ?_
            refine G.mv rfl ?_
            refine WpOpsG.nil ?_
            refine ⟨k + 1, by omega, by omega, ⟨rfl, ?_, trivial⟩, trivial, rfl⟩
            show some (GV.v (.int .i64 ((k : Int) - 1 + 1))) = some (GV.v (.int .i64 (((k + 1 : Nat) : Int) - 1)))
            congr 3; omega
        · (try simp only [decide_eq_true_eq, decide_eq_false_iff_not, Bool.or_eq_true, Bool.and_eq_true, Bool.or_eq_false_iff, Bool.and_eq_false_iff, bne_iff_ne, beq_iff_eq, beq_eq_false_iff_ne, bne_eq_false_iff_eq, ne_eq, Bool.not_eq_true', Bool.not_eq_false', Int.not_lt, Int.not_le, Decidable.not_not, List.length_map, List.length_cons, List.length_nil] at hq12)
          refine WpG.exit ?_
          change WpG _ _ _ _ _
          refine WpG.seq ?_
          refine WpG.reg ?_
          refine G.build rfl ?_
          refine G.bsliceF rfl rfl rfl ?_
          refine G.call0 rfl rfl (lticks_ok [⟨1, 3⟩] 4611686018427387904 (by decide) (by unfold okN i64; decide) (by unfold i64; decide)) ?_
          rintro _ _ ⟨rfl, rfl⟩
          refine ⟨rfl, ?_⟩
          change WpOpsG _ _ ((136, _) :: _) _ _
          refine G.mv rfl ?_
          apply G.andS rfl rfl rfl rfl rfl rfl
          case hB =>
            intro hs15
            (try simp only [decide_eq_true_eq, decide_eq_false_iff_not, Bool.or_eq_true, Bool.and_eq_true, Bool.or_eq_false_iff, Bool.and_eq_false_iff, bne_iff_ne, beq_iff_eq, beq_eq_false_iff_ne, bne_eq_false_iff_eq, ne_eq, Bool.not_eq_true', Bool.not_eq_false', Int.not_lt, Int.not_le, Decidable.not_not, List.length_map, List.length_cons, List.length_nil] at hs15)
            refine G.call0 rfl rfl (nil1 (nil2 (same_ok [] [] (small1 _ (by decide) (by decide)) (small1 _ (by decide) (by decide))))) ?_
            rintro _ _ ⟨rfl, rfl⟩
            refine ⟨rfl, ?_⟩
            change WpOpsG _ _ ((138, _) :: _) _ _
            refine WpOpsG.nil ?_
            exact ⟨rfl, (by repeat (first | exact LLe.refl _ | refine LLe.cons rfl ?_)), (by repeat (first | exact HLe.refl _ | refine HLe.cons rfl ?_)), rfl⟩
          refine G.mv rfl ?_
          apply G.andS rfl rfl rfl rfl rfl rfl
          case hB =>
            intro hs16
            (try simp only [decide_eq_true_eq, decide_eq_false_iff_not, Bool.or_eq_true, Bool.and_eq_true, Bool.or_eq_false_iff, Bool.and_eq_false_iff, bne_iff_ne, beq_iff_eq, beq_eq_false_iff_ne, bne_eq_false_iff_eq, ne_eq, Bool.not_eq_true', Bool.not_eq_false', Int.not_lt, Int.not_le, Decidable.not_not, List.length_map, List.length_cons, List.length_nil] at hs16)
            refine G.call0 rfl rfl (known_ok) ?_
            rintro _ _ ⟨rfl, rfl⟩
            refine ⟨rfl, ?_⟩
            change WpOpsG _ _ ((141, _) :: _) _ _
            refine WpOpsG.nil ?_
            exact ⟨rfl, (by repeat (first | exact LLe.refl _ | refine LLe.cons rfl ?_)), (by repeat (first | exact HLe.refl _ | refine HLe.cons rfl ?_)), rfl⟩
          refine G.mv rfl ?_
          refine WpOpsG.nil ?_
          change WpG _ _ _ _ _
          refine WpG.ret ?_
          refine ⟨_, [], rfl, (hasP_le (by repeat (first | exact trivial | refine ⟨rfl, ?_⟩))), rfl, rfl, rfl, ?_⟩
          exact ⟨rfl, rfl⟩
      · exact Nat.zero_le _
  · exact Nat.zero_le _
end Go.AM.L22
