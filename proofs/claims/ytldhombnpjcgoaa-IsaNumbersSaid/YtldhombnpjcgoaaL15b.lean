/- Contracts of the functions that the statement reaches. No condition. -/
import Derived.Test.YtldhombnpjcgoaaL15a
set_option linter.all false
set_option maxRecDepth 10000
namespace Go.AM.L15
theorem a255_eq (n : Int) : andI .i64 n 255 = n % 256 := by
  unfold andI
  show IntKind.i64.wrap (BitVec.ofInt 64 n &&& BitVec.ofInt 64 255).toNat = _
  have h1 : (BitVec.ofInt 64 n &&& BitVec.ofInt 64 255).toNat = (n % 256).toNat := by
    rw [BitVec.toNat_and, BitVec.toNat_ofInt, BitVec.toNat_ofInt]
    have e : ((255 : Int) % ((2 ^ 64 : Nat) : Int)).toNat = 2 ^ 8 - 1 := by decide
    rw [e, Nat.and_two_pow_sub_one_eq_mod]
    have h2 : (n % ((2 ^ 64 : Nat) : Int)).toNat % 2 ^ 8 = (n % 256).toNat := by
      have h3 : (n % ((2 ^ 64 : Nat) : Int)) % 256 = n % 256 := by omega
      omega
    exact h2
  rw [h1, IntKind.wrap_i64]
  omega
def low (x : Ins) : Ins := ⟨andI .i64 x.op 255, andI .i64 x.a 255, andI .i64 x.b 255, andI .i64 x.c 255⟩
theorem flat_at (xs : List Ins) : ∀ (j r : Nat), j < xs.length → r < 4 → (xs.flatMap insB).getD (4 * j + r) 0 = (insB (xs.getD j ⟨0, 0, 0, 0⟩)).getD r 0 := by
  induction xs with
  | nil => intro j r h; simp at h
  | cons x xs ih =>
    intro j r hj hr
    rw [List.flatMap_cons]
    have hl : (insB x).length = 4 := rfl
    cases j with
    | zero =>
      rw [List.getD_eq_getElem?_getD, List.getElem?_append_left (by omega), ← List.getD_eq_getElem?_getD]
      show (insB x).getD (4 * 0 + r) 0 = _
      rw [Nat.mul_zero, Nat.zero_add]; rfl
    | succ j =>
      rw [List.getD_eq_getElem?_getD, List.getElem?_append_right (by omega), ← List.getD_eq_getElem?_getD]
      have := ih j r (by simpa using hj) hr
      rw [show 4 * (j + 1) + r - (insB x).length = 4 * j + r by omega, this]; rfl
theorem b8_low (n : Int) : ((b8 (andI .i64 n 255)).toNat : Int) = andI .i64 n 255 := by
  rw [b8_val, a255_eq]; omega
theorem fetch_no (xs : List Ins) (k : Int) (h0 : 0 ≤ k) (h : ¬ k % 4 = 0 ∨ k / 4 ≥ xs.length) : fetch (xs.flatMap insB) k = (⟨0, 0, 0, 0⟩, false) := by
  unfold fetch
  rw [if_pos]
  rw [insB_len]
  rcases h with h | h
  · exact .inr (.inl (by rw [Int.tmod_eq_emod_of_nonneg h0]; exact h))
  · right; right
    omega
theorem fetch_yes (ls : List Ins) (k : Int) (h0 : 0 ≤ k) (hm : k % 4 = 0) (h2 : k / 4 < ls.length) : fetch ((ls.map low).flatMap insB) k = ((ls.map low).getD (k / 4).toNat ⟨0, 0, 0, 0⟩, true) := by
  unfold fetch
  have h : k.tmod 4 = 0 := by rw [Int.tmod_eq_emod_of_nonneg h0]; exact hm
  rw [if_neg (by rw [insB_len, List.length_map]; omega)]
  have hj : (k / 4).toNat < (ls.map low).length := by rw [List.length_map]; omega
  have hk : k.toNat = 4 * (k / 4).toNat + 0 := by omega
  have e0 := flat_at (ls.map low) (k / 4).toNat 0 hj (by omega)
  have e1 := flat_at (ls.map low) (k / 4).toNat 1 hj (by omega)
  have e2 := flat_at (ls.map low) (k / 4).toNat 2 hj (by omega)
  have e3 := flat_at (ls.map low) (k / 4).toNat 3 hj (by omega)
  rw [hk, show 4 * (k / 4).toNat + 0 + 1 = 4 * (k / 4).toNat + 1 by omega, show 4 * (k / 4).toNat + 0 + 2 = 4 * (k / 4).toNat + 2 by omega, show 4 * (k / 4).toNat + 0 + 3 = 4 * (k / 4).toNat + 3 by omega, e0, e1, e2, e3]
  have hj' : (k / 4).toNat < ls.length := by simpa using hj
  have hx : (ls.map low).getD (k / 4).toNat ⟨0, 0, 0, 0⟩ = low ls[(k / 4).toNat] := by
    rw [List.getD_eq_getElem?_getD, List.getElem?_map, List.getElem?_eq_getElem hj']; rfl
  rw [hx]
  show ((⟨((b8 (andI .i64 _ 255)).toNat : Int), ((b8 (andI .i64 _ 255)).toNat : Int), ((b8 (andI .i64 _ 255)).toNat : Int), ((b8 (andI .i64 _ 255)).toNat : Int)⟩ : Ins), true) = _
  rw [b8_low, b8_low, b8_low, b8_low]; rfl

def af5 : AFunc := ⟨2, [(.tmp 4)], (.seq (.reg 0 false [⟨(some 4), (.mv (.c (.v (.bool false)))), none⟩]) (.seq (.seq (.reg 1 false [⟨(some 12), (.mv (.t 0)), none⟩, ⟨(some 13), (.len false (.t 12)), none⟩, ⟨(some 14), (.bin .gtr (.t 13) (.c (.v (.int .i64 40)))), none⟩]) (.cond (.t 14) (.reg 2 false [⟨(some 15), (.mv (.t 0)), none⟩, ⟨(some 16), (.slice 4 (.t 15) none (some (.c (.v (.int .i64 40))))), none⟩, ⟨(some 0), (.mv (.t 16)), none⟩]) .skip)) (.seq (.reg 3 false [⟨(some 5), (.mv (.c (.v (.slice none 0 0)))), none⟩]) (.seq (.seq (.reg 4 false [⟨(some 17), (.mv (.t 0)), none⟩, ⟨(some 18), (.len false (.t 17)), none⟩, ⟨(some 19), (.mv (.c (.v (.int .i64 0)))), none⟩]) (.block 0 (.loop (.seq (.reg 5 false [⟨(some 20), (.bin .lss (.t 19) (.t 18)), none⟩]) (.seq (.cond (.t 20) .skip (.exit 0)) (.seq (.block 1 (.seq (.reg 6 false [⟨(some 21), (.iaddr 4 (.t 17) (.t 19)), none⟩, ⟨(some 22), (.loadN 4 (.t 21)), none⟩, ⟨(some 7), (.box (.c (.agg [(.v (.int .i64 0)), (.v (.int .i64 0)), (.v (.int .i64 0)), (.v (.int .i64 0))]))), none⟩, ⟨none, (.store 4 (.t 7) (.t 22)), none⟩]) (.reg 7 false [⟨(some 23), (.mv (.t 5)), none⟩, ⟨(some 24), (.faddr 0 (.t 7)), none⟩, ⟨(some 25), (.load1 (.t 24)), none⟩, ⟨(some 26), (.bin .and (.t 25) (.c (.v (.int .i64 255)))), none⟩, ⟨(some 27), (.faddr 1 (.t 7)), none⟩, ⟨(some 28), (.load1 (.t 27)), none⟩, ⟨(some 29), (.bin .and (.t 28) (.c (.v (.int .i64 255)))), none⟩, ⟨(some 30), (.faddr 2 (.t 7)), none⟩, ⟨(some 31), (.load1 (.t 30)), none⟩, ⟨(some 32), (.bin .and (.t 31) (.c (.v (.int .i64 255)))), none⟩, ⟨(some 33), (.faddr 3 (.t 7)), none⟩, ⟨(some 34), (.load1 (.t 33)), none⟩, ⟨(some 35), (.bin .and (.t 34) (.c (.v (.int .i64 255)))), none⟩, ⟨(some 36), (.build [(.v (.int .i64 0)), (.v (.int .i64 0)), (.v (.int .i64 0)), (.v (.int .i64 0))] [(0, (1, (.t 26))), (1, (1, (.t 29))), (2, (1, (.t 32))), (3, (1, (.t 35)))]), none⟩, ⟨(some 37), (.bslice 4 1 [(.v (.int .i64 0)), (.v (.int .i64 0)), (.v (.int .i64 0)), (.v (.int .i64 0))] [(0, (4, (.t 36)))]), none⟩, ⟨(some 38), (.app 4 32 (.t 23) (.t 37)), none⟩, ⟨(some 5), (.mv (.t 38)), none⟩]))) (.reg 8 false [⟨(some 39), (.bin .add (.t 19) (.c (.v (.int .i64 1)))), none⟩, ⟨(some 19), (.mv (.t 39)), none⟩]))))))) (.seq (.reg 9 false [⟨(some 40), (.mv (.t 5)), none⟩, ⟨(some 41), (.call 11 [(.t 40)]), none⟩, ⟨(some 8), (.mv (.t 41)), none⟩]) (.seq (.seq (.reg 10 false [⟨(some 42), (.mv (.t 8)), none⟩, ⟨(some 43), (.len false (.t 42)), none⟩, ⟨(some 44), (.mv (.t 5)), none⟩, ⟨(some 45), (.len false (.t 44)), none⟩, ⟨(some 46), (.bin .mul (.c (.v (.int .i64 4))) (.t 45)), none⟩, ⟨(some 47), (.bin .neq (.t 43) (.t 46)), none⟩]) (.cond (.t 47) (.seq (.reg 11 false [⟨(some 4), (.mv (.c (.v (.bool false)))), none⟩]) .ret) .skip)) (.seq (.reg 12 false [⟨(some 48), (.mv (.t 1)), none⟩, ⟨(some 49), (.bin .and (.t 48) (.c (.v (.int .i64 255)))), none⟩, ⟨(some 9), (.mv (.t 49)), none⟩]) (.seq (.reg 13 false [⟨(some 51), (.mv (.t 8)), none⟩, ⟨(some 52), (.mv (.t 9)), none⟩, ⟨(some 53), (.call 12 [(.t 51), (.t 52)]), none⟩, ⟨(some 50), (.mv (.t 53)), none⟩, ⟨(some 54), (.ext (.t 50) 0), none⟩, ⟨(some 55), (.ext (.t 50) 1), none⟩, ⟨(some 10), (.box (.c (.agg [(.v (.int .i64 0)), (.v (.int .i64 0)), (.v (.int .i64 0)), (.v (.int .i64 0))]))), none⟩, ⟨none, (.store 4 (.t 10) (.t 54)), none⟩, ⟨(some 11), (.mv (.t 55)), none⟩]) (.seq (.seq (.reg 14 false [⟨(some 56), (.mv (.t 9)), none⟩, ⟨(some 57), (.bin .rem (.t 56) (.c (.v (.int .i64 4)))), none⟩, ⟨(some 58), (.bin .neq (.t 57) (.c (.v (.int .i64 0)))), none⟩, ⟨(some 59), (.mv (.t 58)), none⟩, ⟨(some 60), (.mv (.t 9)), (some (59, false))⟩, ⟨(some 61), (.bin .quo (.t 60) (.c (.v (.int .i64 4)))), (some (59, false))⟩, ⟨(some 62), (.mv (.t 5)), (some (59, false))⟩, ⟨(some 63), (.len false (.t 62)), (some (59, false))⟩, ⟨(some 64), (.bin .geq (.t 61) (.t 63)), (some (59, false))⟩, ⟨(some 65), (.pick (.t 59) (.c (.v (.bool true))) (.t 64)), none⟩]) (.cond (.t 65) (.seq (.reg 15 false [⟨(some 66), (.mv (.t 11)), none⟩, ⟨(some 67), (.un .not (.t 66)), none⟩, ⟨(some 68), (.mv (.t 67)), none⟩, ⟨(some 69), (.loadN 4 (.t 10)), (some (68, true))⟩, ⟨(some 70), (.build [(.v (.int .i64 0)), (.v (.int .i64 0)), (.v (.int .i64 0)), (.v (.int .i64 0))] []), (some (68, true))⟩, ⟨(some 71), (.beq false true [.i, .i, .i, .i] (.t 69) (.t 70)), (some (68, true))⟩, ⟨(some 72), (.pick (.t 68) (.t 71) (.c (.v (.bool false)))), none⟩, ⟨(some 73), (.mv (.t 72)), none⟩, ⟨(some 74), (.call 9 []), (some (73, true))⟩, ⟨(some 75), (.pick (.t 73) (.t 74) (.c (.v (.bool false)))), none⟩, ⟨(some 4), (.mv (.t 75)), none⟩]) .ret) .skip)) (.seq (.reg 16 false [⟨(some 76), (.mv (.t 11)), none⟩, ⟨(some 77), (.mv (.t 76)), none⟩, ⟨(some 78), (.loadN 4 (.t 10)), (some (77, true))⟩, ⟨(some 79), (.mv (.t 5)), (some (77, true))⟩, ⟨(some 80), (.mv (.t 9)), (some (77, true))⟩, ⟨(some 81), (.bin .quo (.t 80) (.c (.v (.int .i64 4)))), (some (77, true))⟩, ⟨(some 82), (.iaddr 4 (.t 79) (.t 81)), (some (77, true))⟩, ⟨(some 83), (.loadN 4 (.t 82)), (some (77, true))⟩, ⟨(some 84), (.beq false true [.i, .i, .i, .i] (.t 78) (.t 83)), (some (77, true))⟩, ⟨(some 85), (.pick (.t 77) (.t 84) (.c (.v (.bool false)))), none⟩, ⟨(some 86), (.mv (.t 85)), none⟩, ⟨(some 87), (.call 9 []), (some (86, true))⟩, ⟨(some 88), (.pick (.t 86) (.t 87) (.c (.v (.bool false)))), none⟩, ⟨(some 4), (.mv (.t 88)), none⟩]) .ret))))))))))⟩

theorem isaBack_ok {A : AProg} (hA : A.get 5 = some af5) (h9 : WpCallG A 9 [] [] (fun v H => v = .v (.bool true) ∧ H = [])) (h11 : A.get 11 = some af11) (h12 : A.get 12 = some af12) (l : List Ins) (pc : Int) (hl : l.length ≤ 2 ^ 43) :
    WpCallG A 5 [.fsl 4 (l.map encI), .v (.int .i64 pc)] [] (fun v H => v = .v (.bool true) ∧ H = []) := by
  refine WpCallG.intro hA rfl rfl ?_
  unfold af5
  change WpG _ _ _ _ _
  refine WpG.seq ?_
  refine WpG.reg ?_
  refine G.mv rfl ?_
  refine WpOpsG.nil ?_
  change WpG _ _ _ _ _
  refine WpG.seqJ ([(4, .v (.bool false)), (1, .v (.int .i64 pc)), (0, .fsl 4 ((l.take 40).map encI))]) ([]) ⟨rfl, rfl⟩ ?_ ?_
  · change WpG _ _ _ _ _
    refine WpG.seq ?_
    refine WpG.reg ?_
    refine G.mv rfl ?_
    first | refine G.lenM rfl ?_ | refine G.lenOM rfl rfl ?_ | refine G.lenF rfl ?_ | refine G.lenO rfl rfl ?_ | refine G.lenNil rfl ?_
    refine G.bin rfl rfl rfl ?_
    refine WpOpsG.nil ?_
    change WpG _ _ _ _ _
    refine WpG.cond rfl (fun hq1 => ?_) (fun hq1 => ?_)
    · (try simp only [decide_eq_true_eq, decide_eq_false_iff_not, Bool.or_eq_true, Bool.and_eq_true, Bool.or_eq_false_iff, Bool.and_eq_false_iff, bne_iff_ne, beq_iff_eq, beq_eq_false_iff_ne, bne_eq_false_iff_eq, ne_eq, Bool.not_eq_true', Bool.not_eq_false', Int.not_lt, Int.not_le, Decidable.not_not, List.length_map, List.length_cons, List.length_nil] at hq1)
      refine WpG.reg ?_
      refine G.mv rfl ?_
      first | refine G.slF rfl (bndG_some rfl (by first | omega | (simp only [List.length_map, List.length_append, List.length_cons, List.length_nil, List.length_replicate, List.length_take, List.length_drop, List.length_set]; omega))) rfl ?_ | refine G.slO (full' := false) rfl rfl (bndG_some rfl (by first | omega | (simp only [List.length_map, List.length_append, List.length_cons, List.length_nil, List.length_replicate, List.length_take, List.length_drop, List.length_set]; omega))) rfl (fun h => by cases h) ?_
      refine G.mv rfl ?_
      refine WpOpsG.nil ?_
      refine ⟨⟨rfl, rfl, ?_, trivial⟩, trivial, rfl⟩
      first | (show some (GV.fsl 4 (((l.map encI).take 40).drop 0)) = _; rw [List.drop_zero, List.map_take]) | (show some (GV.fsl 4 (l.map encI)) = _; rw [List.take_of_length_le (by omega)])
    · (try simp only [decide_eq_true_eq, decide_eq_false_iff_not, Bool.or_eq_true, Bool.and_eq_true, Bool.or_eq_false_iff, Bool.and_eq_false_iff, bne_iff_ne, beq_iff_eq, beq_eq_false_iff_ne, bne_eq_false_iff_eq, ne_eq, Bool.not_eq_true', Bool.not_eq_false', Int.not_lt, Int.not_le, Decidable.not_not, List.length_map, List.length_cons, List.length_nil] at hq1)
      refine WpG.skip ?_
      refine ⟨⟨rfl, rfl, ?_, trivial⟩, trivial, rfl⟩
      first | (show some (GV.fsl 4 (((l.map encI).take 40).drop 0)) = _; rw [List.drop_zero, List.map_take]) | (show some (GV.fsl 4 (l.map encI)) = _; rw [List.take_of_length_le (by omega)])
  have hls : (l.take 40).length ≤ 40 := by rw [List.length_take]; omega
  generalize l.take 40 = ls at hls ⊢
  change WpG _ _ _ _ _
  refine WpG.seq ?_
  refine WpG.reg ?_
  refine G.mv rfl ?_
  refine WpOpsG.nil ?_
  change WpG _ _ _ _ _
  refine WpG.seq ?_
  refine WpG.seq ?_
  refine WpG.reg ?_
  refine G.mv rfl ?_
  first | refine G.lenM rfl ?_ | refine G.lenOM rfl rfl ?_ | refine G.lenF rfl ?_ | refine G.lenO rfl rfl ?_ | refine G.lenNil rfl ?_
  refine G.mv rfl ?_
  refine WpOpsG.nil ?_
  change WpG _ _ _ _ _
  refine WpG.block ?_
  refine WpG.ownNil (g := 31) (k := 5) (w := 4) rfl rfl ?_
  refine WpG.loop (S := Nat) (fun i => [(4, .v (.bool false)), (1, .v (.int .i64 pc)), (19, .v (.int .i64 i)), (18, .v (.int .i64 ls.length)), (17, .fsl 4 (ls.map encI)), (5, .osl 31)]) (fun i => [(31, .arr true 4 (((ls.take i).map low).map encI))]) (fun i => i ≤ ls.length) (fun i => ls.length - i) (fun s => ⟨rfl, rfl⟩) ?_ 0 ?_ (by repeat (first | exact trivial | refine ⟨rfl, ?_⟩)) (by repeat (first | exact trivial | refine ⟨rfl, ?_⟩)) rfl
  · intro i hI
    have hlen : (ls.take i).length ≤ 40 := by rw [List.length_take]; omega
    refine WpG.seq ?_
    refine WpG.reg ?_
    refine G.bin rfl rfl rfl ?_
    refine WpOpsG.nil ?_
    change WpG _ _ _ _ _
    refine WpG.seq ?_
    refine WpG.cond rfl (fun hq2 => ?_) (fun hq2 => ?_)
    · (try simp only [decide_eq_true_eq, decide_eq_false_iff_not, Bool.or_eq_true, Bool.and_eq_true, Bool.or_eq_false_iff, Bool.and_eq_false_iff, bne_iff_ne, beq_iff_eq, beq_eq_false_iff_ne, bne_eq_false_iff_eq, ne_eq, Bool.not_eq_true', Bool.not_eq_false', Int.not_lt, Int.not_le, Decidable.not_not, List.length_map, List.length_cons, List.length_nil] at hq2)
      refine WpG.skip ?_
      change WpG _ _ _ _ _
      refine WpG.seq ?_
      refine WpG.block ?_
      refine WpG.seq ?_
      refine WpG.reg ?_
      first | refine G.iaddrN rfl rfl (List.getElem?_eq_getElem (by first | omega | (simp only [List.length_map, List.length_append, List.length_cons, List.length_nil, List.length_replicate, List.length_take, List.length_drop, List.length_set]; omega))) ?_ | refine G.iaddrM rfl rfl (by omega) (List.getElem?_eq_getElem (by first | omega | (simp only [List.length_map, List.length_append, List.length_cons, List.length_nil, List.length_replicate, List.length_take, List.length_drop, List.length_set]; omega))) ?_ | refine G.iaddrF rfl rfl (by omega) rfl ?_ | refine G.iaddrO rfl rfl rfl (by omega) (by first | omega | (simp only [List.length_map, List.length_append, List.length_cons, List.length_nil, List.length_replicate, List.length_take, List.length_drop, List.length_set]; omega)) ?_ | refine G.iaddrF rfl rfl (by omega) (List.getElem?_eq_getElem (by first | omega | (simp only [List.length_map, List.length_append, List.length_cons, List.length_nil, List.length_replicate, List.length_take, List.length_drop, List.length_set]; omega))) ?_
      first | refine G.loadNB rfl rfl rfl ?_ | refine G.loadNF rfl rfl ?_ | refine G.loadNEM rfl rfl (List.getElem?_eq_getElem (by first | omega | (simp only [List.length_map, List.length_append, List.length_cons, List.length_nil, List.length_replicate, List.length_take, List.length_drop, List.length_set]; omega))) rfl ?_
      refine G.box (g := 10) rfl rfl rfl ?_
      first | refine G.storeB rfl rfl rfl rfl rfl rfl ?_ | refine G.storeEM rfl rfl rfl (List.getElem?_eq_getElem (by first | omega | (simp only [List.length_map, List.length_append, List.length_cons, List.length_nil, List.length_replicate, List.length_take, List.length_drop, List.length_set]; omega))) rfl rfl rfl rfl rfl ?_
      refine WpOpsG.nil ?_
      change WpG _ _ _ _ _
      refine WpG.reg ?_
      refine G.mv rfl ?_
      first | refine G.faddrB rfl ?_ | refine G.faddrF rfl ?_ | refine G.faddrE rfl ?_
      first | refine G.load1B rfl rfl rfl ?_ | refine G.load1F rfl rfl ?_ | refine G.load1E rfl rfl (List.getElem?_eq_getElem (by first | omega | (simp only [List.length_map, List.length_append, List.length_cons, List.length_nil, List.length_replicate, List.length_take, List.length_drop, List.length_set]; omega))) rfl ?_ | refine G.load1EM rfl rfl (List.getElem?_eq_getElem (by first | omega | (simp only [List.length_map, List.length_append, List.length_cons, List.length_nil, List.length_replicate, List.length_take, List.length_drop, List.length_set]; omega))) rfl ?_
      refine G.andK rfl rfl ?_
      first | refine G.faddrB rfl ?_ | refine G.faddrF rfl ?_ | refine G.faddrE rfl ?_
      first | refine G.load1B rfl rfl rfl ?_ | refine G.load1F rfl rfl ?_ | refine G.load1E rfl rfl (List.getElem?_eq_getElem (by first | omega | (simp only [List.length_map, List.length_append, List.length_cons, List.length_nil, List.length_replicate, List.length_take, List.length_drop, List.length_set]; omega))) rfl ?_ | refine G.load1EM rfl rfl (List.getElem?_eq_getElem (by first | omega | (simp only [List.length_map, List.length_append, List.length_cons, List.length_nil, List.length_replicate, List.length_take, List.length_drop, List.length_set]; omega))) rfl ?_
      refine G.andK rfl rfl ?_
      first | refine G.faddrB rfl ?_ | refine G.faddrF rfl ?_ | refine G.faddrE rfl ?_
      first | refine G.load1B rfl rfl rfl ?_ | refine G.load1F rfl rfl ?_ | refine G.load1E rfl rfl (List.getElem?_eq_getElem (by first | omega | (simp only [List.length_map, List.length_append, List.length_cons, List.length_nil, List.length_replicate, List.length_take, List.length_drop, List.length_set]; omega))) rfl ?_ | refine G.load1EM rfl rfl (List.getElem?_eq_getElem (by first | omega | (simp only [List.length_map, List.length_append, List.length_cons, List.length_nil, List.length_replicate, List.length_take, List.length_drop, List.length_set]; omega))) rfl ?_
      refine G.andK rfl rfl ?_
      first | refine G.faddrB rfl ?_ | refine G.faddrF rfl ?_ | refine G.faddrE rfl ?_
      first | refine G.load1B rfl rfl rfl ?_ | refine G.load1F rfl rfl ?_ | refine G.load1E rfl rfl (List.getElem?_eq_getElem (by first | omega | (simp only [List.length_map, List.length_append, List.length_cons, List.length_nil, List.length_replicate, List.length_take, List.length_drop, List.length_set]; omega))) rfl ?_ | refine G.load1EM rfl rfl (List.getElem?_eq_getElem (by first | omega | (simp only [List.length_map, List.length_append, List.length_cons, List.length_nil, List.length_replicate, List.length_take, List.length_drop, List.length_set]; omega))) rfl ?_
      refine G.andK rfl rfl ?_
      refine G.build rfl ?_
      refine G.bsliceF rfl rfl rfl ?_
      refine G.app rfl rfl rfl rfl (.inl rfl) (by rw [List.length_map, List.length_map]; show ((ls.take i).length + 1) * 32 ≤ 2 ^ 47; omega) ?_
      refine G.mv rfl ?_
      refine WpOpsG.nil ?_
      change WpG _ _ _ _ _
      refine WpG.reg ?_
      first | refine G.addI rfl rfl (by omega) ?_ | refine G.bin rfl rfl rfl ?_
      refine G.mv rfl ?_
      refine WpOpsG.nil ?_
      refine ⟨i + 1, by omega, by omega, ⟨rfl, rfl, rfl, rfl, rfl, rfl, trivial⟩, ⟨?_, trivial⟩, rfl⟩
      show some (GBlk.arr true 4 (((ls.take i).map low).map encI ++ [_])) = _
      rw [List.take_succ_eq_append_getElem (by omega), List.map_append, List.map_append]
      rfl
    · (try simp only [decide_eq_true_eq, decide_eq_false_iff_not, Bool.or_eq_true, Bool.and_eq_true, Bool.or_eq_false_iff, Bool.and_eq_false_iff, bne_iff_ne, beq_iff_eq, beq_eq_false_iff_ne, bne_eq_false_iff_eq, ne_eq, Bool.not_eq_true', Bool.not_eq_false', Int.not_lt, Int.not_le, Decidable.not_not, List.length_map, List.length_cons, List.length_nil] at hq2)
      refine WpG.exit ?_
      change WpG _ _ _ _ _
      refine WpG.seq ?_
      have hi : i = ls.length := by omega
      subst hi
      rw [List.take_length]
      have hml : (ls.map low).length = ls.length := List.length_map _
      refine WpG.reg ?_
      refine G.mv rfl ?_
      refine WpOpsG.freeze 31 rfl ?_
      refine G.call0 rfl rfl ((bytes_ok h11 (ls.map low) (by omega)).fz1) ?_
      rintro _ _ ⟨rfl, rfl⟩
      refine ⟨rfl, ?_⟩
      change WpOpsG _ _ (_ :: _) _ _
      refine G.mv rfl ?_
      refine WpOpsG.nil ?_
      change WpG _ _ _ _ _
      refine WpG.seq ?_
      refine WpG.seq ?_
      refine WpG.reg ?_
      refine G.mv rfl ?_
      first | refine G.lenM rfl ?_ | refine G.lenOM rfl rfl ?_ | refine G.lenF rfl ?_ | refine G.lenO rfl rfl ?_ | refine G.lenNil rfl ?_
      refine G.mv rfl ?_
      first | refine G.lenM rfl ?_ | refine G.lenOM rfl rfl ?_ | refine G.lenF rfl ?_ | refine G.lenO rfl rfl ?_ | refine G.lenNil rfl ?_
      first | refine G.mulI rfl rfl (by omega) ?_ | refine G.bin rfl rfl rfl ?_
      refine G.bin rfl rfl rfl ?_
      refine WpOpsG.nil ?_
      change WpG _ _ _ _ _
      refine WpG.cond rfl (fun hq3 => ?_) (fun hq3 => ?_)
      · (try simp only [decide_eq_true_eq, decide_eq_false_iff_not, Bool.or_eq_true, Bool.and_eq_true, Bool.or_eq_false_iff, Bool.and_eq_false_iff, bne_iff_ne, beq_iff_eq, beq_eq_false_iff_ne, bne_eq_false_iff_eq, ne_eq, Bool.not_eq_true', Bool.not_eq_false', Int.not_lt, Int.not_le, Decidable.not_not, List.length_map, List.length_cons, List.length_nil] at hq3)
        exfalso; rw [insB_len] at hq3; omega
      · (try simp only [decide_eq_true_eq, decide_eq_false_iff_not, Bool.or_eq_true, Bool.and_eq_true, Bool.or_eq_false_iff, Bool.and_eq_false_iff, bne_iff_ne, beq_iff_eq, beq_eq_false_iff_ne, bne_eq_false_iff_eq, ne_eq, Bool.not_eq_true', Bool.not_eq_false', Int.not_lt, Int.not_le, Decidable.not_not, List.length_map, List.length_cons, List.length_nil] at hq3)
        refine WpG.skip ?_
        change WpG _ _ _ _ _
        refine WpG.seq ?_
        have hk0 : andI .i64 pc 255 = pc % 256 := a255_eq pc
        have hk1 : 0 ≤ andI .i64 pc 255 ∧ andI .i64 pc 255 < 256 := by omega
        refine WpG.reg ?_
        refine G.mv rfl ?_
        refine G.andK rfl rfl ?_
        refine G.mv rfl ?_
        refine WpOpsG.nil ?_
        change WpG _ _ _ _ _
        refine WpG.seq ?_
        refine WpG.reg ?_
        refine G.mv rfl ?_
        refine G.mv rfl ?_
        refine G.call0 rfl rfl (fetch_ok h12 ((ls.map low).flatMap insB) (andI .i64 pc 255) (by rw [insB_len]; omega) (by unfold i64; omega)) ?_
        rintro _ _ ⟨rfl, rfl⟩
        refine ⟨rfl, ?_⟩
        change WpOpsG _ _ (_ :: _) _ _
        refine G.mv rfl ?_
        refine G.ext rfl rfl ?_
        refine G.ext rfl rfl ?_
        refine G.box (g := 11) rfl rfl rfl ?_
        first | refine G.storeB rfl rfl rfl rfl rfl rfl ?_ | refine G.storeEM rfl rfl rfl (List.getElem?_eq_getElem (by first | omega | (simp only [List.length_map, List.length_append, List.length_cons, List.length_nil, List.length_replicate, List.length_take, List.length_drop, List.length_set]; omega))) rfl rfl rfl rfl rfl ?_
        refine G.mv rfl ?_
        refine WpOpsG.nil ?_
        change WpG _ _ _ _ _
        refine WpG.seq ?_
        refine WpG.seq ?_
        refine WpG.reg ?_
        refine G.mv rfl ?_
        first | refine G.remN rfl rfl (by omega) (by omega) ?_ | refine G.remP rfl rfl (by omega) ?_
        refine G.bin rfl rfl rfl ?_
        refine G.mv rfl ?_
        apply G.orS rfl rfl rfl rfl rfl rfl
        case hB =>
          intro hs4
          (try simp only [decide_eq_true_eq, decide_eq_false_iff_not, Bool.or_eq_true, Bool.and_eq_true, Bool.or_eq_false_iff, Bool.and_eq_false_iff, bne_iff_ne, beq_iff_eq, beq_eq_false_iff_ne, bne_eq_false_iff_eq, ne_eq, Bool.not_eq_true', Bool.not_eq_false', Int.not_lt, Int.not_le, Decidable.not_not, List.length_map, List.length_cons, List.length_nil] at hs4)
          refine G.mv rfl ?_
          first | refine G.quoN rfl rfl (by omega) (by omega) ?_ | refine G.quoP rfl rfl (by omega) (by omega) ?_ | refine G.bin rfl rfl rfl ?_
          refine G.mv rfl ?_
          first | refine G.lenM rfl ?_ | refine G.lenOM rfl rfl ?_ | refine G.lenF rfl ?_ | refine G.lenO rfl rfl ?_ | refine G.lenNil rfl ?_
          refine G.bin rfl rfl rfl ?_
          refine WpOpsG.nil ?_
          exact ⟨rfl, (by repeat (first | exact LLe.refl _ | refine LLe.cons rfl ?_)), (by repeat (first | exact HLe.refl _ | refine HLe.cons rfl ?_)), rfl⟩
        refine WpOpsG.nil ?_
        change WpG _ _ _ _ _
        refine WpG.cond rfl (fun hq5 => ?_) (fun hq5 => ?_)
        · (try simp only [decide_eq_true_eq, decide_eq_false_iff_not, Bool.or_eq_true, Bool.and_eq_true, Bool.or_eq_false_iff, Bool.and_eq_false_iff, bne_iff_ne, beq_iff_eq, beq_eq_false_iff_ne, bne_eq_false_iff_eq, ne_eq, Bool.not_eq_true', Bool.not_eq_false', Int.not_lt, Int.not_le, Decidable.not_not, List.length_map, List.length_cons, List.length_nil] at hq5)
          refine WpG.seq ?_
          refine WpG.reg ?_
          refine G.mv rfl ?_
          refine G.un rfl rfl ?_
          refine G.mv rfl ?_
          apply G.andS rfl rfl rfl rfl rfl rfl
          case hB =>
            intro hs6
            (try simp only [decide_eq_true_eq, decide_eq_false_iff_not, Bool.or_eq_true, Bool.and_eq_true, Bool.or_eq_false_iff, Bool.and_eq_false_iff, bne_iff_ne, beq_iff_eq, beq_eq_false_iff_ne, bne_eq_false_iff_eq, ne_eq, Bool.not_eq_true', Bool.not_eq_false', Int.not_lt, Int.not_le, Decidable.not_not, List.length_map, List.length_cons, List.length_nil] at hs6)
            first | refine G.loadNB rfl rfl rfl ?_ | refine G.loadNF rfl rfl ?_ | refine G.loadNEM rfl rfl (List.getElem?_eq_getElem (by first | omega | (simp only [List.length_map, List.length_append, List.length_cons, List.length_nil, List.length_replicate, List.length_take, List.length_drop, List.length_set]; omega))) rfl ?_
            refine G.build rfl ?_
            refine G.beq rfl rfl rfl ?_
            refine WpOpsG.nil ?_
            exact ⟨rfl, (by repeat (first | exact LLe.refl _ | refine LLe.cons rfl ?_)), (by repeat (first | exact HLe.refl _ | refine HLe.cons rfl ?_)), rfl⟩
          refine G.mv rfl ?_
          apply G.andS rfl rfl rfl rfl rfl rfl
          case hB =>
            intro hs7
            (try simp only [decide_eq_true_eq, decide_eq_false_iff_not, Bool.or_eq_true, Bool.and_eq_true, Bool.or_eq_false_iff, Bool.and_eq_false_iff, bne_iff_ne, beq_iff_eq, beq_eq_false_iff_ne, bne_eq_false_iff_eq, ne_eq, Bool.not_eq_true', Bool.not_eq_false', Int.not_lt, Int.not_le, Decidable.not_not, List.length_map, List.length_cons, List.length_nil] at hs7)
            refine G.call0 rfl rfl (h9) ?_
            rintro _ _ ⟨rfl, rfl⟩
            refine ⟨rfl, ?_⟩
            change WpOpsG _ _ (_ :: _) _ _
            refine WpOpsG.nil ?_
            exact ⟨rfl, (by repeat (first | exact LLe.refl _ | refine LLe.cons rfl ?_)), (by repeat (first | exact HLe.refl _ | refine HLe.cons rfl ?_)), rfl⟩
          refine G.mv rfl ?_
          refine WpOpsG.nil ?_
          change WpG _ _ _ _ _
          refine WpG.ret ?_
          refine ⟨_, [], rfl, (hasP_le (by repeat (first | exact trivial | refine ⟨rfl, ?_⟩))), rfl, rfl, rfl, ?_⟩
          rw [fetch_no _ _ hk1.1 (by rw [List.length_map]; omega)]
          exact ⟨rfl, rfl⟩
        · (try simp only [decide_eq_true_eq, decide_eq_false_iff_not, Bool.or_eq_true, Bool.and_eq_true, Bool.or_eq_false_iff, Bool.and_eq_false_iff, bne_iff_ne, beq_iff_eq, beq_eq_false_iff_ne, bne_eq_false_iff_eq, ne_eq, Bool.not_eq_true', Bool.not_eq_false', Int.not_lt, Int.not_le, Decidable.not_not, List.length_map, List.length_cons, List.length_nil] at hq5)
          refine WpG.skip ?_
          change WpG _ _ _ _ _
          refine WpG.seq ?_
          refine WpG.reg ?_
          refine G.mv rfl ?_
          refine G.mv rfl ?_
          apply G.andS rfl rfl rfl rfl rfl rfl
          case hB =>
            intro hs8
            (try simp only [decide_eq_true_eq, decide_eq_false_iff_not, Bool.or_eq_true, Bool.and_eq_true, Bool.or_eq_false_iff, Bool.and_eq_false_iff, bne_iff_ne, beq_iff_eq, beq_eq_false_iff_ne, bne_eq_false_iff_eq, ne_eq, Bool.not_eq_true', Bool.not_eq_false', Int.not_lt, Int.not_le, Decidable.not_not, List.length_map, List.length_cons, List.length_nil] at hs8)
            first | refine G.loadNB rfl rfl rfl ?_ | refine G.loadNF rfl rfl ?_ | refine G.loadNEM rfl rfl (List.getElem?_eq_getElem (by first | omega | (simp only [List.length_map, List.length_append, List.length_cons, List.length_nil, List.length_replicate, List.length_take, List.length_drop, List.length_set]; omega))) rfl ?_
            refine G.mv rfl ?_
            refine G.mv rfl ?_
            first | refine G.quoN rfl rfl (by omega) (by omega) ?_ | refine G.quoP rfl rfl (by omega) (by omega) ?_ | refine G.bin rfl rfl rfl ?_
            first | refine G.iaddrN rfl rfl (List.getElem?_eq_getElem (by first | omega | (simp only [List.length_map, List.length_append, List.length_cons, List.length_nil, List.length_replicate, List.length_take, List.length_drop, List.length_set]; omega))) ?_ | refine G.iaddrM rfl rfl (by omega) (List.getElem?_eq_getElem (by first | omega | (simp only [List.length_map, List.length_append, List.length_cons, List.length_nil, List.length_replicate, List.length_take, List.length_drop, List.length_set]; omega))) ?_ | refine G.iaddrF rfl rfl (by omega) rfl ?_ | refine G.iaddrO rfl rfl rfl (by omega) (by first | omega | (simp only [List.length_map, List.length_append, List.length_cons, List.length_nil, List.length_replicate, List.length_take, List.length_drop, List.length_set]; omega)) ?_ | refine G.iaddrF rfl rfl (by omega) (List.getElem?_eq_getElem (by first | omega | (simp only [List.length_map, List.length_append, List.length_cons, List.length_nil, List.length_replicate, List.length_take, List.length_drop, List.length_set]; omega))) ?_
            first | refine G.loadNB rfl rfl rfl ?_ | refine G.loadNF rfl rfl ?_ | refine G.loadNEM rfl rfl (List.getElem?_eq_getElem (by first | omega | (simp only [List.length_map, List.length_append, List.length_cons, List.length_nil, List.length_replicate, List.length_take, List.length_drop, List.length_set]; omega))) rfl ?_
            refine G.beq rfl rfl rfl ?_
            refine WpOpsG.nil ?_
            exact ⟨rfl, (by repeat (first | exact LLe.refl _ | refine LLe.cons rfl ?_)), (by repeat (first | exact HLe.refl _ | refine HLe.cons rfl ?_)), rfl⟩
          refine G.mv rfl ?_
          apply G.andS rfl rfl rfl rfl rfl rfl
          case hB =>
            intro hs9
            (try simp only [decide_eq_true_eq, decide_eq_false_iff_not, Bool.or_eq_true, Bool.and_eq_true, Bool.or_eq_false_iff, Bool.and_eq_false_iff, bne_iff_ne, beq_iff_eq, beq_eq_false_iff_ne, bne_eq_false_iff_eq, ne_eq, Bool.not_eq_true', Bool.not_eq_false', Int.not_lt, Int.not_le, Decidable.not_not, List.length_map, List.length_cons, List.length_nil] at hs9)
            refine G.call0 rfl rfl (h9) ?_
            rintro _ _ ⟨rfl, rfl⟩
            refine ⟨rfl, ?_⟩
            change WpOpsG _ _ (_ :: _) _ _
            refine WpOpsG.nil ?_
            exact ⟨rfl, (by repeat (first | exact LLe.refl _ | refine LLe.cons rfl ?_)), (by repeat (first | exact HLe.refl _ | refine HLe.cons rfl ?_)), rfl⟩
          refine G.mv rfl ?_
          refine WpOpsG.nil ?_
          change WpG _ _ _ _ _
          refine WpG.ret ?_
          refine ⟨_, [], rfl, (hasP_le (by repeat (first | exact trivial | refine ⟨rfl, ?_⟩))), rfl, rfl, rfl, ?_⟩
          rw [fetch_yes ls _ hk1.1 (by omega) (by omega)]
          have hj : (andI .i64 pc 255 / 4).toNat < (ls.map low).length := by omega
          rw [← getE hj rfl]
          refine ⟨?_, rfl⟩
          show GV.v (.bool _) = GV.v (.bool true)
          simp
  · exact Nat.zero_le _
end Go.AM.L15
