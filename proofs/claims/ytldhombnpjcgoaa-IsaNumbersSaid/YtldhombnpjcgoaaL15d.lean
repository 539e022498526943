/- Contracts of the functions that the statement reaches. No condition. -/
import Derived.Test.YtldhombnpjcgoaaL15c
set_option linter.all false
set_option maxRecDepth 10000
namespace Go.AM.L15
theorem WpCallG.nil1 {A : AProg} {f w : Nat} {vs : List GV} {P : GHp} {K : GV → GHp → Prop} (hc : WpCallG A f (.fsl w [] :: vs) P K) : WpCallG A f (.v (.slice none 0 0) :: vs) P K := fun Z om as H hr hv => by
  cases hv with
  | cons h k => obtain rfl := h.v_inv; exact hc Z om _ H hr (.cons (.pure .fnil) k)
def pL : List UInt8 := [1, 2, 3, 4, 5, 6, 7, 8, 9, 10, 11]
def La : List Int := [-1, 0, 7, 8, 255, 256]
def Lb : List Int := [0, 7, 8, 255, 256]
def Lc : List Int := [-1, 7, 8, 256]
theorem getDs (l : List Int) (i : Nat) (h : i < l.length) : l[i]? = some (l.getD i 0) := by
  rw [List.getD_eq_getElem?_getD, List.getElem?_eq_getElem h]; rfl
theorem bnd (l : List Int) (hl : ∀ x ∈ l, -1 ≤ x ∧ x ≤ 256) (i : Nat) : -1 ≤ l.getD i 0 ∧ l.getD i 0 ≤ 256 := by
  rw [List.getD_eq_getElem?_getD]
  cases h : l[i]? with
  | none => decide
  | some x => exact hl x (List.mem_of_getElem? h)

theorem isaNumbers_ok {A : AProg} (hA : A.get 3 = some af3) (h8 : A.get 8 = some af8) (h9 : WpCallG A 9 [] [] (fun v H => v = .v (.bool true) ∧ H = [])) (h10 : A.get 10 = some af10) (h11 : A.get 11 = some af11) (h12 : A.get 12 = some af12) (h13 : A.get 13 = some af13) (h14 : A.get 14 = some af14) (h15 : A.get 15 = some af15) (h16 : A.get 16 = some af16) (h17 : A.get 17 = some af17) (h18 : A.get 18 = some af18) (h19 : A.get 19 = some af19) (h20 : A.get 20 = some af20) (h21 : A.get 21 = some af21)  : WpCallG A 3 [] [] (fun v H => v = .v (.bool true) ∧ H = []) := by
  refine WpCallG.intro hA rfl rfl ?_
  unfold af3
  change WpG _ _ _ _ _
  refine WpG.seq ?_
  refine WpG.reg ?_
  refine G.mv rfl ?_
  refine WpOpsG.nil ?_
  change WpG _ _ _ _ _
  refine WpG.seq ?_
  refine WpG.reg ?_
  refine G.bsliceF rfl rfl rfl ?_
  refine G.mv rfl ?_
  refine WpOpsG.nil ?_
  change WpG _ _ _ _ _
  refine WpG.seq ?_
  refine WpG.seq ?_
  refine WpG.reg ?_
  refine G.mv rfl ?_
  refine WpOpsG.nil ?_
  change WpG _ _ _ _ _
  refine WpG.block ?_
  refine WpG.loop (S := Nat) (fun s => [(0, .v (.bool false)), (1, .fsl 1 (pL.map encB)), (2, .v (.int .i64 ((s : Int) - 1)))]) (fun _ => []) (fun s => s ≤ 21) (fun s => 21 - s) (fun s => ⟨rfl, rfl⟩) ?_ 0 ?_ (by repeat (first | exact trivial | refine ⟨rfl, ?_⟩)) (by repeat (first | exact trivial | refine ⟨rfl, ?_⟩)) rfl
  · intro s hs
    refine WpG.seq ?_
    refine WpG.seq ?_
    refine WpG.reg ?_
    refine G.mv rfl ?_
    refine G.bin rfl rfl rfl ?_
    refine WpOpsG.nil ?_
    change WpG _ _ _ _ _
    refine WpG.cond rfl (fun hq1 => ?_) (fun hq1 => ?_)
    · (try simp only [decide_eq_true_eq, decide_eq_false_iff_not, Bool.or_eq_true, Bool.and_eq_true, Bool.or_eq_false_iff, Bool.and_eq_false_iff, bne_iff_ne, beq_iff_eq, beq_eq_false_iff_ne, bne_eq_false_iff_eq, ne_eq, Bool.not_eq_true', Bool.not_eq_false', Int.not_lt, Int.not_le, Decidable.not_not, List.length_map, List.length_cons, List.length_nil] at hq1)
      refine WpG.skip ?_
      change WpG _ _ _ _ _
      refine WpG.seq ?_
      refine WpG.block ?_
      refine WpG.seq ?_
      refine WpG.reg ?_
      refine G.bsliceF rfl rfl rfl ?_
      first | refine G.lenM rfl ?_ | refine G.lenOM rfl rfl ?_ | refine G.lenF rfl ?_ | refine G.lenO rfl rfl ?_ | refine G.lenNil rfl ?_
      refine G.mv rfl ?_
      refine WpOpsG.nil ?_
      change WpG _ _ _ _ _
      refine WpG.block ?_
      refine WpG.loop (S := Nat) (fun i => [(0, .v (.bool false)), (1, .fsl 1 (pL.map encB)), (2, .v (.int .i64 ((s : Int) - 1))), (15, .fsl 1 (La.map encN)), (16, .v (.int .i64 6)), (17, .v (.int .i64 i))]) (fun _ => []) (fun i => i ≤ 6) (fun i => 6 - i) (fun s => ⟨rfl, rfl⟩) ?_ 0 ?_ (by repeat (first | exact trivial | refine ⟨rfl, ?_⟩)) (by repeat (first | exact trivial | refine ⟨rfl, ?_⟩)) rfl
      · intro i hi
        have ba := bnd La (by decide) i
        refine WpG.seq ?_
        refine WpG.reg ?_
        refine G.bin rfl rfl rfl ?_
        refine WpOpsG.nil ?_
        change WpG _ _ _ _ _
        refine WpG.seq ?_
        refine WpG.cond rfl (fun hq2 => ?_) (fun hq2 => ?_)
        · (try simp only [decide_eq_true_eq, decide_eq_false_iff_not, Bool.or_eq_true, Bool.and_eq_true, Bool.or_eq_false_iff, Bool.and_eq_false_iff, bne_iff_ne, beq_iff_eq, beq_eq_false_iff_ne, bne_eq_false_iff_eq, ne_eq, Bool.not_eq_true', Bool.not_eq_false', Int.not_lt, Int.not_le, Decidable.not_not, List.length_map, List.length_cons, List.length_nil] at hq2)
          refine WpG.skip ?_
          change WpG _ _ _ _ _
          refine WpG.seq ?_
          refine WpG.block ?_
          refine WpG.seq ?_
          refine WpG.reg ?_
          refine G.iaddrN (xs := La) (y := La.getD i 0) rfl rfl (getDs La i (by show i < 6; omega)) ?_
          first | refine G.load1B rfl rfl rfl ?_ | refine G.load1F rfl rfl ?_ | refine G.load1E rfl rfl (List.getElem?_eq_getElem (by first | omega | (simp only [List.length_map, List.length_append, List.length_cons, List.length_nil, List.length_replicate, List.length_take, List.length_drop, List.length_set]; omega))) rfl ?_ | refine G.load1EM rfl rfl (List.getElem?_eq_getElem (by first | omega | (simp only [List.length_map, List.length_append, List.length_cons, List.length_nil, List.length_replicate, List.length_take, List.length_drop, List.length_set]; omega))) rfl ?_
          refine G.mv rfl ?_
          refine WpOpsG.nil ?_
          change WpG _ _ _ _ _
          refine WpG.seq ?_
          refine WpG.reg ?_
          refine G.bsliceF rfl rfl rfl ?_
          first | refine G.lenM rfl ?_ | refine G.lenOM rfl rfl ?_ | refine G.lenF rfl ?_ | refine G.lenO rfl rfl ?_ | refine G.lenNil rfl ?_
          refine G.mv rfl ?_
          refine WpOpsG.nil ?_
          change WpG _ _ _ _ _
          refine WpG.block ?_
          refine WpG.loop (S := Nat) (fun j => [(0, .v (.bool false)), (1, .fsl 1 (pL.map encB)), (2, .v (.int .i64 ((s : Int) - 1))), (15, .fsl 1 (La.map encN)), (16, .v (.int .i64 6)), (17, .v (.int .i64 i)), (4, .v (.int .i64 (La.getD i 0))), (21, .fsl 1 (Lb.map encN)), (22, .v (.int .i64 5)), (23, .v (.int .i64 j))]) (fun _ => []) (fun j => j ≤ 5) (fun j => 5 - j) (fun s => ⟨rfl, rfl⟩) ?_ 0 ?_ (by repeat (first | exact trivial | refine ⟨rfl, ?_⟩)) (by repeat (first | exact trivial | refine ⟨rfl, ?_⟩)) rfl
          · intro j hj
            have bb := bnd Lb (by decide) j
            refine WpG.seq ?_
            refine WpG.reg ?_
            refine G.bin rfl rfl rfl ?_
            refine WpOpsG.nil ?_
            change WpG _ _ _ _ _
            refine WpG.seq ?_
            refine WpG.cond rfl (fun hq3 => ?_) (fun hq3 => ?_)
            · (try simp only [decide_eq_true_eq, decide_eq_false_iff_not, Bool.or_eq_true, Bool.and_eq_true, Bool.or_eq_false_iff, Bool.and_eq_false_iff, bne_iff_ne, beq_iff_eq, beq_eq_false_iff_ne, bne_eq_false_iff_eq, ne_eq, Bool.not_eq_true', Bool.not_eq_false', Int.not_lt, Int.not_le, Decidable.not_not, List.length_map, List.length_cons, List.length_nil] at hq3)
              refine WpG.skip ?_
              change WpG _ _ _ _ _
              refine WpG.seq ?_
              refine WpG.block ?_
              refine WpG.seq ?_
              refine WpG.reg ?_
              refine G.iaddrN (xs := Lb) (y := Lb.getD j 0) rfl rfl (getDs Lb j (by show j < 5; omega)) ?_
              first | refine G.load1B rfl rfl rfl ?_ | refine G.load1F rfl rfl ?_ | refine G.load1E rfl rfl (List.getElem?_eq_getElem (by first | omega | (simp only [List.length_map, List.length_append, List.length_cons, List.length_nil, List.length_replicate, List.length_take, List.length_drop, List.length_set]; omega))) rfl ?_ | refine G.load1EM rfl rfl (List.getElem?_eq_getElem (by first | omega | (simp only [List.length_map, List.length_append, List.length_cons, List.length_nil, List.length_replicate, List.length_take, List.length_drop, List.length_set]; omega))) rfl ?_
              refine G.mv rfl ?_
              refine WpOpsG.nil ?_
              change WpG _ _ _ _ _
              refine WpG.seq ?_
              refine WpG.reg ?_
              refine G.bsliceF rfl rfl rfl ?_
              first | refine G.lenM rfl ?_ | refine G.lenOM rfl rfl ?_ | refine G.lenF rfl ?_ | refine G.lenO rfl rfl ?_ | refine G.lenNil rfl ?_
              refine G.mv rfl ?_
              refine WpOpsG.nil ?_
              change WpG _ _ _ _ _
              refine WpG.block ?_
              refine WpG.loop (S := Nat) (fun k => [(0, .v (.bool false)), (1, .fsl 1 (pL.map encB)), (2, .v (.int .i64 ((s : Int) - 1))), (15, .fsl 1 (La.map encN)), (16, .v (.int .i64 6)), (17, .v (.int .i64 i)), (4, .v (.int .i64 (La.getD i 0))), (21, .fsl 1 (Lb.map encN)), (22, .v (.int .i64 5)), (23, .v (.int .i64 j)), (6, .v (.int .i64 (Lb.getD j 0))), (27, .fsl 1 (Lc.map encN)), (28, .v (.int .i64 4)), (29, .v (.int .i64 k))]) (fun _ => []) (fun k => k ≤ 4) (fun k => 4 - k) (fun s => ⟨rfl, rfl⟩) ?_ 0 ?_ (by repeat (first | exact trivial | refine ⟨rfl, ?_⟩)) (by repeat (first | exact trivial | refine ⟨rfl, ?_⟩)) rfl
              · intro k hk
                refine WpG.seq ?_
                refine WpG.reg ?_
                refine G.bin rfl rfl rfl ?_
                refine WpOpsG.nil ?_
                change WpG _ _ _ _ _
                refine WpG.seq ?_
                refine WpG.cond rfl (fun hq4 => ?_) (fun hq4 => ?_)
                · (try simp only [decide_eq_true_eq, decide_eq_false_iff_not, Bool.or_eq_true, Bool.and_eq_true, Bool.or_eq_false_iff, Bool.and_eq_false_iff, bne_iff_ne, beq_iff_eq, beq_eq_false_iff_ne, bne_eq_false_iff_eq, ne_eq, Bool.not_eq_true', Bool.not_eq_false', Int.not_lt, Int.not_le, Decidable.not_not, List.length_map, List.length_cons, List.length_nil] at hq4)
                  refine WpG.skip ?_
                  change WpG _ _ _ _ _
                  refine WpG.seq ?_
                  refine WpG.block ?_
                  refine WpG.seq ?_
                  refine WpG.reg ?_
                  refine G.iaddrN (xs := Lc) (y := Lc.getD k 0) rfl rfl (getDs Lc k (by show k < 4; omega)) ?_
                  first | refine G.load1B rfl rfl rfl ?_ | refine G.load1F rfl rfl ?_ | refine G.load1E rfl rfl (List.getElem?_eq_getElem (by first | omega | (simp only [List.length_map, List.length_append, List.length_cons, List.length_nil, List.length_replicate, List.length_take, List.length_drop, List.length_set]; omega))) rfl ?_ | refine G.load1EM rfl rfl (List.getElem?_eq_getElem (by first | omega | (simp only [List.length_map, List.length_append, List.length_cons, List.length_nil, List.length_replicate, List.length_take, List.length_drop, List.length_set]; omega))) rfl ?_
                  refine G.mv rfl ?_
                  refine WpOpsG.nil ?_
                  change WpG _ _ _ _ _
                  refine WpG.seq ?_
                  refine WpG.reg ?_
                  refine G.mv rfl ?_
                  refine G.mv rfl ?_
                  refine G.mv rfl ?_
                  first | refine G.addI rfl rfl (by omega) ?_ | refine G.bin rfl rfl rfl ?_
                  refine G.mv rfl ?_
                  refine G.mv rfl ?_
                  refine G.mv rfl ?_
                  refine G.mv rfl ?_
                  refine G.build rfl ?_
                  refine G.call0 rfl rfl (same_ok h8 h10 h11 h12 h13 h14 h15 h16 h17 h18 h19 h20 h21 pL (La.getD i 0 + Lb.getD j 0) ⟨(s : Int) - 1, La.getD i 0, Lb.getD j 0, Lc.getD k 0⟩ (by decide) (by unfold i64; omega)) ?_
                  rintro _ _ ⟨rfl, rfl⟩
                  refine ⟨rfl, ?_⟩
                  change WpOpsG _ _ (_ :: _) _ _
                  refine G.un rfl rfl ?_
                  refine WpOpsG.nil ?_
                  change WpG _ _ _ _ _
                  refine WpG.cond rfl (fun hq5 => absurd hq5 (by first | decide | simp)) (fun hq5 => ?_)
                  refine WpG.skip ?_
                  change WpG _ _ _ _ _
                  refine WpG.reg ?_
                  first | refine G.addI rfl rfl (by omega) ?_ | refine G.bin rfl rfl rfl ?_
                  refine G.mv rfl ?_
                  refine WpOpsG.nil ?_
                  exact ⟨k + 1, by omega, by omega, ⟨rfl, rfl, rfl, rfl, rfl, rfl, rfl, rfl, rfl, rfl, rfl, rfl, rfl, rfl, trivial⟩, trivial, rfl⟩
                · (try simp only [decide_eq_true_eq, decide_eq_false_iff_not, Bool.or_eq_true, Bool.and_eq_true, Bool.or_eq_false_iff, Bool.and_eq_false_iff, bne_iff_ne, beq_iff_eq, beq_eq_false_iff_ne, bne_eq_false_iff_eq, ne_eq, Bool.not_eq_true', Bool.not_eq_false', Int.not_lt, Int.not_le, Decidable.not_not, List.length_map, List.length_cons, List.length_nil] at hq4)
                  refine WpG.exit ?_
                  change WpG _ _ _ _ _
                  refine WpG.reg ?_
                  first | refine G.addI rfl rfl (by omega) ?_ | refine G.bin rfl rfl rfl ?_
                  refine G.mv rfl ?_
                  refine WpOpsG.nil ?_
                  exact ⟨j + 1, by omega, by omega, ⟨rfl, rfl, rfl, rfl, rfl, rfl, rfl, rfl, rfl, rfl, trivial⟩, trivial, rfl⟩
              · exact Nat.zero_le _
            · (try simp only [decide_eq_true_eq, decide_eq_false_iff_not, Bool.or_eq_true, Bool.and_eq_true, Bool.or_eq_false_iff, Bool.and_eq_false_iff, bne_iff_ne, beq_iff_eq, beq_eq_false_iff_ne, bne_eq_false_iff_eq, ne_eq, Bool.not_eq_true', Bool.not_eq_false', Int.not_lt, Int.not_le, Decidable.not_not, List.length_map, List.length_cons, List.length_nil] at hq3)
              refine WpG.exit ?_
              change WpG _ _ _ _ _
              refine WpG.reg ?_
              first | refine G.addI rfl rfl (by omega) ?_ | refine G.bin rfl rfl rfl ?_
              refine G.mv rfl ?_
              refine WpOpsG.nil ?_
              exact ⟨i + 1, by omega, by omega, ⟨rfl, rfl, rfl, rfl, rfl, rfl, trivial⟩, trivial, rfl⟩
          · exact Nat.zero_le _
        · (try simp only [decide_eq_true_eq, decide_eq_false_iff_not, Bool.or_eq_true, Bool.and_eq_true, Bool.or_eq_false_iff, Bool.and_eq_false_iff, bne_iff_ne, beq_iff_eq, beq_eq_false_iff_ne, bne_eq_false_iff_eq, ne_eq, Bool.not_eq_true', Bool.not_eq_false', Int.not_lt, Int.not_le, Decidable.not_not, List.length_map, List.length_cons, List.length_nil] at hq2)
          refine WpG.exit ?_
          change WpG _ _ _ _ _
          refine WpG.reg ?_
          refine G.mv rfl ?_
          first | refine G.addI rfl rfl (by omega) ?_ | refine G.bin rfl rfl rfl ?_
          refine G.mv rfl ?_
          refine WpOpsG.nil ?_
          refine ⟨s + 1, by omega, by omega, ⟨rfl, rfl, ?_, trivial⟩, trivial, rfl⟩
          show some (GV.v (.int .i64 ((s : Int) - 1 + 1))) = some (GV.v (.int .i64 (((s + 1 : Nat) : Int) - 1)))
          rw [show (s : Int) - 1 + 1 = ((s + 1 : Nat) : Int) - 1 by omega]
      · exact Nat.zero_le _
    · (try simp only [decide_eq_true_eq, decide_eq_false_iff_not, Bool.or_eq_true, Bool.and_eq_true, Bool.or_eq_false_iff, Bool.and_eq_false_iff, bne_iff_ne, beq_iff_eq, beq_eq_false_iff_ne, bne_eq_false_iff_eq, ne_eq, Bool.not_eq_true', Bool.not_eq_false', Int.not_lt, Int.not_le, Decidable.not_not, List.length_map, List.length_cons, List.length_nil] at hq1)
      refine WpG.exit ?_
      change WpG _ _ _ _ _
      refine WpG.seq ?_
      refine WpG.seq ?_
      refine WpG.reg ?_
      refine G.mv rfl ?_
      refine WpOpsG.nil ?_
      change WpG _ _ _ _ _
      refine WpG.block ?_
      refine WpG.loop (S := Nat) (fun s => [(0, .v (.bool false)), (1, .fsl 1 (pL.map encB)), (9, .v (.int .i64 ((s : Int) - 5)))]) (fun _ => []) (fun s => s ≤ 21) (fun s => 21 - s) (fun s => ⟨rfl, rfl⟩) ?_ 0 ?_ (by repeat (first | exact trivial | refine ⟨rfl, ?_⟩)) (by repeat (first | exact trivial | refine ⟨rfl, ?_⟩)) rfl
      · intro s hs
        refine WpG.seq ?_
        refine WpG.seq ?_
        refine WpG.reg ?_
        refine G.mv rfl ?_
        refine G.bin rfl rfl rfl ?_
        refine WpOpsG.nil ?_
        change WpG _ _ _ _ _
        refine WpG.cond rfl (fun hq6 => ?_) (fun hq6 => ?_)
        · (try simp only [decide_eq_true_eq, decide_eq_false_iff_not, Bool.or_eq_true, Bool.and_eq_true, Bool.or_eq_false_iff, Bool.and_eq_false_iff, bne_iff_ne, beq_iff_eq, beq_eq_false_iff_ne, bne_eq_false_iff_eq, ne_eq, Bool.not_eq_true', Bool.not_eq_false', Int.not_lt, Int.not_le, Decidable.not_not, List.length_map, List.length_cons, List.length_nil] at hq6)
          refine WpG.skip ?_
          change WpG _ _ _ _ _
          refine WpG.seq ?_
          refine WpG.block ?_
          refine WpG.seq ?_
          refine WpG.reg ?_
          refine G.mv rfl ?_
          refine G.mv rfl ?_
          refine G.build rfl ?_
          refine G.call0 rfl rfl (same_ok h8 h10 h11 h12 h13 h14 h15 h16 h17 h18 h19 h20 h21 pL ((s : Int) - 5) ⟨0, 0, 0, 0⟩ (by decide) (by unfold i64; omega)) ?_
          rintro _ _ ⟨rfl, rfl⟩
          refine ⟨rfl, ?_⟩
          change WpOpsG _ _ (_ :: _) _ _
          refine G.un rfl rfl ?_
          refine G.mv rfl ?_
          refine G.yes rfl ?_
          refine G.mv rfl ?_
          refine G.yes rfl ?_
          refine G.slF (hi := 4) (lo := 0) rfl rfl rfl ?_
          refine G.yes rfl ?_
          refine G.mv rfl ?_
          refine G.yes rfl ?_
          refine G.build rfl ?_
          refine G.yes rfl ?_
          refine G.call0 rfl rfl (same_ok h8 h10 h11 h12 h13 h14 h15 h16 h17 h18 h19 h20 h21 [1, 2, 3, 4] ((s : Int) - 5) ⟨0, 0, 0, 0⟩ (by decide) (by unfold i64; omega)) ?_
          rintro _ _ ⟨rfl, rfl⟩
          refine ⟨rfl, ?_⟩
          change WpOpsG _ _ (_ :: _) _ _
          refine G.yes rfl ?_
          refine G.un rfl rfl ?_
          first | refine G.pickT rfl rfl ?_ | refine G.pickF rfl rfl ?_ | refine G.pick rfl rfl rfl ?_
          refine G.mv rfl ?_
          refine G.yes rfl ?_
          refine G.mv rfl ?_
          refine G.yes rfl ?_
          refine G.build rfl ?_
          refine G.yes rfl ?_
          refine G.call0 rfl rfl (WpCallG.nil1 (same_ok h8 h10 h11 h12 h13 h14 h15 h16 h17 h18 h19 h20 h21 [] ((s : Int) - 5) ⟨0, 0, 0, 0⟩ (by decide) (by unfold i64; omega))) ?_
          rintro _ _ ⟨rfl, rfl⟩
          refine ⟨rfl, ?_⟩
          change WpOpsG _ _ (_ :: _) _ _
          refine G.yes rfl ?_
          refine G.un rfl rfl ?_
          first | refine G.pickT rfl rfl ?_ | refine G.pickF rfl rfl ?_ | refine G.pick rfl rfl rfl ?_
          refine WpOpsG.nil ?_
          change WpG _ _ _ _ _
          refine WpG.cond rfl (fun hq7 => absurd hq7 (by first | decide | simp)) (fun hq7 => ?_)
          refine WpG.skip ?_
          change WpG _ _ _ _ _
          refine WpG.reg ?_
          refine G.mv rfl ?_
          first | refine G.addI rfl rfl (by omega) ?_ | refine G.bin rfl rfl rfl ?_
          refine G.mv rfl ?_
          refine WpOpsG.nil ?_
          refine ⟨s + 1, by omega, by omega, ⟨rfl, rfl, ?_, trivial⟩, trivial, rfl⟩
          show some (GV.v (.int .i64 ((s : Int) - 5 + 1))) = some (GV.v (.int .i64 (((s + 1 : Nat) : Int) - 5)))
          rw [show (s : Int) - 5 + 1 = ((s + 1 : Nat) : Int) - 5 by omega]
        · (try simp only [decide_eq_true_eq, decide_eq_false_iff_not, Bool.or_eq_true, Bool.and_eq_true, Bool.or_eq_false_iff, Bool.and_eq_false_iff, bne_iff_ne, beq_iff_eq, beq_eq_false_iff_ne, bne_eq_false_iff_eq, ne_eq, Bool.not_eq_true', Bool.not_eq_false', Int.not_lt, Int.not_le, Decidable.not_not, List.length_map, List.length_cons, List.length_nil] at hq6)
          refine WpG.exit ?_
          change WpG _ _ _ _ _
          refine WpG.seq ?_
          refine WpG.reg ?_
          refine G.mv rfl ?_
          refine G.build rfl ?_
          refine G.call0 rfl rfl (same_ok h8 h10 h11 h12 h13 h14 h15 h16 h17 h18 h19 h20 h21 pL (4611686018427387904) ⟨0, 0, 0, 0⟩ (by decide) (by unfold i64; omega)) ?_
          rintro _ _ ⟨rfl, rfl⟩
          refine ⟨rfl, ?_⟩
          change WpOpsG _ _ (_ :: _) _ _
          refine G.mv rfl ?_
          refine G.yes rfl ?_
          refine G.mv rfl ?_
          refine G.yes rfl ?_
          refine G.build rfl ?_
          refine G.yes rfl ?_
          refine G.call0 rfl rfl (same_ok h8 h10 h11 h12 h13 h14 h15 h16 h17 h18 h19 h20 h21 pL (-9223372036854775808) ⟨0, 0, 0, 0⟩ (by decide) (by unfold i64; omega)) ?_
          rintro _ _ ⟨rfl, rfl⟩
          refine ⟨rfl, ?_⟩
          change WpOpsG _ _ (_ :: _) _ _
          first | refine G.pickT rfl rfl ?_ | refine G.pickF rfl rfl ?_ | refine G.pick rfl rfl rfl ?_
          refine G.mv rfl ?_
          refine G.yes rfl ?_
          refine G.call0 rfl rfl (h9) ?_
          rintro _ _ ⟨rfl, rfl⟩
          refine ⟨rfl, ?_⟩
          change WpOpsG _ _ (_ :: _) _ _
          first | refine G.pickT rfl rfl ?_ | refine G.pickF rfl rfl ?_ | refine G.pick rfl rfl rfl ?_
          refine G.mv rfl ?_
          refine WpOpsG.nil ?_
          change WpG _ _ _ _ _
          refine WpG.ret ?_
          refine ⟨_, [], rfl, (hasP_le (by repeat (first | exact trivial | refine ⟨rfl, ?_⟩))), rfl, rfl, rfl, ?_⟩
          exact ⟨rfl, rfl⟩
      · exact Nat.zero_le _
  · exact Nat.zero_le _
end Go.AM.L15
