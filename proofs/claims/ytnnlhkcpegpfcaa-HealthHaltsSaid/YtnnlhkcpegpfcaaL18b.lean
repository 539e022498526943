/- Contracts of the functions that the statement reaches. No condition. -/
import Derived.Test.YtnnlhkcpegpfcaaL18a
set_option linter.all false
set_option maxRecDepth 10000
namespace Go.AM.L18
def encK (n : Int) : List GV := [.v (.int .i64 n)]
def T (x : Int) : Int := (x.tmod 3 + 3) % 3
theorem T_rng (x : Int) : 0 ≤ T x ∧ T x ≤ 2 := by unfold T; omega
theorem tm3 (x : Int) : -3 < x.tmod 3 ∧ x.tmod 3 < 3 := ⟨Int.lt_tmod_of_pos x (by decide), Int.tmod_lt_of_pos x (by decide)⟩
theorem tm5 (x : Int) : -5 < x.tmod 5 ∧ x.tmod 5 < 5 := ⟨Int.lt_tmod_of_pos x (by decide), Int.tmod_lt_of_pos x (by decide)⟩
def tl (h0 h1 h2 h3 h4 : Int) (i : Nat) : List Int := [if 0 < i then T h0 else 0, if 1 < i then T h1 else 0, if 2 < i then T h2 else 0, if 3 < i then T h3 else 0, if 4 < i then T h4 else 0]
theorem tl_set (h0 h1 h2 h3 h4 : Int) (i : Nat) (h : i < 5) : (tl h0 h1 h2 h3 h4 i).set i (T ((hL h0 h1 h2 h3 h4).getD i 0)) = tl h0 h1 h2 h3 h4 (i + 1) := by
  match i, h with
  | 0, _ => rfl
  | 1, _ => rfl
  | 2, _ => rfl
  | 3, _ => rfl
  | 4, _ => rfl
  | i + 5, h => omega
theorem ld0 (l : List Int) (m : Int) (hm : 0 ≤ m) (hn : m < l.length) : (l.map vI)[0 + m.toNat * 1]? = some (vI (l.getD m.toNat 0)) := by
  have := ld_at l [] m hm hn
  rwa [List.append_nil] at this
theorem st0 (l : List Int) (m v : Int) (hm : 0 ≤ m) (hn : m < l.length) : putG (l.map vI) (0 + m.toNat * 1) [vI v] = some ((l.set m.toNat v).map vI) := by
  rw [Nat.zero_add, Nat.mul_one]; exact putG_map v l _ (by omega)
theorem act_T (a0 a1 a2 a3 a4 k : Int) (h0 : 0 ≤ a0 ∧ a0 ≤ 2) (h1 : 0 ≤ a1 ∧ a1 ≤ 2) (h2 : 0 ≤ a2 ∧ a2 ≤ 2) (h3 : 0 ≤ a3 ∧ a3 ≤ 2) (h4 : 0 ≤ a4 ∧ a4 ≤ 2) (hk : 1 ≤ k ∧ k ≤ 5) :
    act a0 a1 a2 a3 a4 k = (hL a0 a1 a2 a3 a4).getD (k - 1).toNat 0 ∧ 0 ≤ act a0 a1 a2 a3 a4 k ∧ act a0 a1 a2 a3 a4 k ≤ 2 := by
  have key : ∀ a : Int, 0 ≤ a ∧ a ≤ 2 → (if a = 0 ∨ a = 1 then a else 2) = a := fun a h => by split <;> omega
  unfold act
  rw [if_neg (by omega)]
  obtain rfl | rfl | rfl | rfl | rfl : k = 1 ∨ k = 2 ∨ k = 3 ∨ k = 4 ∨ k = 5 := by omega
  · show (if a0 = 0 ∨ a0 = 1 then a0 else 2) = a0 ∧ 0 ≤ (if a0 = 0 ∨ a0 = 1 then a0 else 2) ∧ (if a0 = 0 ∨ a0 = 1 then a0 else 2) ≤ 2
    rw [key _ h0]; exact ⟨rfl, h0⟩
  · show (if a1 = 0 ∨ a1 = 1 then a1 else 2) = a1 ∧ 0 ≤ (if a1 = 0 ∨ a1 = 1 then a1 else 2) ∧ (if a1 = 0 ∨ a1 = 1 then a1 else 2) ≤ 2
    rw [key _ h1]; exact ⟨rfl, h1⟩
  · show (if a2 = 0 ∨ a2 = 1 then a2 else 2) = a2 ∧ 0 ≤ (if a2 = 0 ∨ a2 = 1 then a2 else 2) ∧ (if a2 = 0 ∨ a2 = 1 then a2 else 2) ≤ 2
    rw [key _ h2]; exact ⟨rfl, h2⟩
  · show (if a3 = 0 ∨ a3 = 1 then a3 else 2) = a3 ∧ 0 ≤ (if a3 = 0 ∨ a3 = 1 then a3 else 2) ∧ (if a3 = 0 ∨ a3 = 1 then a3 else 2) ≤ 2
    rw [key _ h3]; exact ⟨rfl, h3⟩
  · show (if a4 = 0 ∨ a4 = 1 then a4 else 2) = a4 ∧ 0 ≤ (if a4 = 0 ∨ a4 = 1 then a4 else 2) ∧ (if a4 = 0 ∨ a4 = 1 then a4 else 2) ≤ 2
    rw [key _ h4]; exact ⟨rfl, h4⟩
def sumk : Nat → List Flt → Nat
  | 0, _ => 0
  | s + 1, l => sumk s l + cnt ((s : Int) + 1) l
theorem sumk_nil : ∀ s, sumk s [] = 0
  | 0 => rfl
  | s + 1 => by rw [sumk, sumk_nil s]; rfl
theorem sumk_cons (x : Flt) (l : List Flt) : ∀ s, sumk s (x :: l) = sumk s l + if 1 ≤ x.k ∧ x.k ≤ s then 1 else 0
  | 0 => by rw [if_neg (by omega)]; rfl
  | s + 1 => by
    rw [sumk, sumk, sumk_cons x l s]
    have : cnt ((s : Int) + 1) (x :: l) = cnt ((s : Int) + 1) l + if x.k = (s : Int) + 1 then 1 else 0 := by
      unfold cnt
      rw [List.countP_cons]
      by_cases h : x.k = (s : Int) + 1 <;> simp [h]
    rw [this]
    split <;> split <;> split <;> omega
theorem sumk_all : ∀ (l : List Flt), (∀ f, f ∈ l → 1 ≤ f.k ∧ f.k ≤ 5) → sumk 5 l = l.length
  | [], _ => rfl
  | x :: l, h => by
    rw [sumk_cons, sumk_all l (fun f hf => h f (List.mem_cons_of_mem _ hf)), if_pos (by have := h x (List.mem_cons_self ..); omega)]; rfl
theorem sumk_le (l : List Flt) : ∀ s, sumk s l ≤ s * l.length
  | 0 => by rw [sumk]; omega
  | s + 1 => by
    have h1 := sumk_le l s
    have h2 := cnt_le ((s : Int) + 1) l
    rw [sumk, Nat.succ_mul]; omega

def af5 : AFunc := ⟨2, [(.tmp 4)], (.seq (.reg 0 false [⟨(some 2), (.box (.t 0)), none⟩, ⟨(some 4), (.mv (.c (.v (.bool false)))), none⟩]) (.seq (.reg 1 false [⟨(some 5), (.box (.c (.agg [(.v (.int .i64 0)), (.v (.int .i64 0)), (.v (.int .i64 0)), (.v (.int .i64 0)), (.v (.int .i64 0))]))), none⟩]) (.seq (.seq (.reg 2 false [⟨(some 15), (.mv (.c (.v (.int .i64 0)))), none⟩]) (.block 0 (.loop (.seq (.reg 3 false [⟨(some 16), (.bin .lss (.t 15) (.c (.v (.int .i64 5)))), none⟩]) (.seq (.cond (.t 16) .skip (.exit 0)) (.seq (.block 1 (.seq (.reg 4 false [⟨(some 17), (.mv (.t 15)), none⟩, ⟨(some 6), (.mv (.t 17)), none⟩]) (.reg 5 false [⟨(some 18), (.mv (.t 6)), none⟩, ⟨(some 19), (.mv (.t 6)), none⟩, ⟨(some 20), (.aaddr 5 1 (.t 2) (.t 19)), none⟩, ⟨(some 21), (.load1 (.t 20)), none⟩, ⟨(some 22), (.bin .rem (.t 21) (.c (.v (.int .i64 3)))), none⟩, ⟨(some 23), (.bin .add (.t 22) (.c (.v (.int .i64 3)))), none⟩, ⟨(some 24), (.bin .rem (.t 23) (.c (.v (.int .i64 3)))), none⟩, ⟨(some 25), (.aaddr 5 1 (.t 5) (.t 18)), none⟩, ⟨none, (.store 1 (.t 25) (.t 24)), none⟩]))) (.reg 6 false [⟨(some 26), (.bin .add (.t 15) (.c (.v (.int .i64 1)))), none⟩, ⟨(some 15), (.mv (.t 26)), none⟩]))))))) (.seq (.reg 7 false [⟨(some 27), (.loadN 5 (.t 5)), none⟩, ⟨(some 28), (.call 8 [(.t 27)]), none⟩, ⟨(some 7), (.mv (.t 28)), none⟩]) (.seq (.seq (.reg 8 false [⟨(some 29), (.mv (.t 7)), none⟩, ⟨(some 30), (.eqnil false false (.t 29)), none⟩]) (.cond (.t 30) (.seq (.reg 9 false [⟨(some 4), (.mv (.c (.v (.bool false)))), none⟩]) .ret) .skip)) (.seq (.reg 10 false [⟨(some 8), (.mv (.c (.v (.int .i64 0)))), none⟩]) (.seq (.seq (.reg 11 false [⟨(some 9), (.mv (.c (.v (.int .i64 0)))), none⟩]) (.block 2 (.loop (.seq (.seq (.reg 12 false [⟨(some 31), (.mv (.t 9)), none⟩, ⟨(some 32), (.mv (.t 1)), none⟩, ⟨(some 33), (.len false (.t 32)), none⟩, ⟨(some 34), (.bin .lss (.t 31) (.t 33)), none⟩, ⟨(some 35), (.mv (.t 34)), none⟩, ⟨(some 36), (.mv (.t 9)), (some (35, true))⟩, ⟨(some 37), (.bin .lss (.t 36) (.c (.v (.int .i64 30)))), (some (35, true))⟩, ⟨(some 38), (.pick (.t 35) (.t 37) (.c (.v (.bool false)))), none⟩]) (.cond (.t 38) .skip (.exit 2))) (.seq (.block 3 (.seq (.reg 14 false [⟨(some 41), (.mv (.t 1)), none⟩, ⟨(some 42), (.mv (.t 9)), none⟩, ⟨(some 43), (.iaddr 1 (.t 41) (.t 42)), none⟩, ⟨(some 44), (.load1 (.t 43)), none⟩, ⟨(some 45), (.bin .rem (.t 44) (.c (.v (.int .i64 5)))), none⟩, ⟨(some 46), (.bin .add (.t 45) (.c (.v (.int .i64 5)))), none⟩, ⟨(some 47), (.bin .rem (.t 46) (.c (.v (.int .i64 5)))), none⟩, ⟨(some 48), (.bin .add (.c (.v (.int .i64 1))) (.t 47)), none⟩, ⟨(some 10), (.mv (.t 48)), none⟩]) (.seq (.reg 15 false [⟨(some 49), (.mv (.t 7)), none⟩, ⟨(some 50), (.call 9 [(.t 49)]), none⟩, ⟨(some 11), (.mv (.t 50)), none⟩]) (.seq (.reg 16 false [⟨(some 51), (.mv (.t 7)), none⟩, ⟨(some 52), (.mv (.t 9)), none⟩, ⟨(some 53), (.mv (.t 10)), none⟩, ⟨(some 54), (.call 10 [(.t 51), (.t 52), (.c (.v (.int .i64 0))), (.t 53)]), none⟩, ⟨(some 12), (.mv (.t 54)), none⟩]) (.seq (.seq (.reg 17 false [⟨(some 55), (.mv (.t 11)), none⟩, ⟨(some 56), (.mv (.t 12)), none⟩, ⟨(some 57), (.bin .eql (.t 56) (.c (.v (.int .i64 (-(0+1)))))), none⟩, ⟨(some 58), (.beq true false [.b] (.t 55) (.t 57)), none⟩, ⟨(some 59), (.mv (.t 58)), none⟩, ⟨(some 60), (.mv (.t 11)), (some (59, false))⟩, ⟨(some 61), (.un .not (.t 60)), (some (59, false))⟩, ⟨(some 62), (.mv (.t 61)), (some (59, false))⟩, ⟨(some 63), (.mv (.t 12)), (some (62, true))⟩, ⟨(some 64), (.mv (.t 10)), (some (62, true))⟩, ⟨(some 65), (.bin .sub (.t 64) (.c (.v (.int .i64 1)))), (some (62, true))⟩, ⟨(some 66), (.aaddr 5 1 (.t 5) (.t 65)), (some (62, true))⟩, ⟨(some 67), (.load1 (.t 66)), (some (62, true))⟩, ⟨(some 68), (.bin .neq (.t 63) (.t 67)), (some (62, true))⟩, ⟨(some 69), (.pick (.t 62) (.t 68) (.c (.v (.bool false)))), (some (59, false))⟩, ⟨(some 70), (.pick (.t 59) (.c (.v (.bool true))) (.t 69)), none⟩, ⟨(some 71), (.mv (.t 70)), none⟩, ⟨(some 72), (.mv (.t 7)), (some (71, false))⟩, ⟨(some 73), (.call 9 [(.t 72)]), (some (71, false))⟩, ⟨(some 74), (.mv (.t 11)), (some (71, false))⟩, ⟨(some 75), (.mv (.t 74)), (some (71, false))⟩, ⟨(some 76), (.mv (.t 12)), (some (75, false))⟩, ⟨(some 77), (.bin .eql (.t 76) (.c (.v (.int .i64 2)))), (some (75, false))⟩, ⟨(some 78), (.pick (.t 75) (.c (.v (.bool true))) (.t 77)), (some (71, false))⟩, ⟨(some 79), (.beq true false [.b] (.t 73) (.t 78)), (some (71, false))⟩, ⟨(some 80), (.pick (.t 71) (.c (.v (.bool true))) (.t 79)), none⟩]) (.cond (.t 80) (.seq (.reg 18 false [⟨(some 4), (.mv (.c (.v (.bool false)))), none⟩]) .ret) .skip)) (.seq (.reg 19 false [⟨(some 81), (.mv (.t 11)), none⟩, ⟨(some 82), (.un .not (.t 81)), none⟩]) (.cond (.t 82) (.reg 20 false [⟨(some 83), (.mv (.t 8)), none⟩, ⟨(some 84), (.bin .add (.t 83) (.c (.v (.int .i64 1)))), none⟩, ⟨(some 8), (.mv (.t 84)), none⟩]) .skip))))))) (.reg 13 false [⟨(some 39), (.mv (.t 9)), none⟩, ⟨(some 40), (.bin .add (.t 39) (.c (.v (.int .i64 1)))), none⟩, ⟨(some 9), (.mv (.t 40)), none⟩])))))) (.seq (.reg 21 false [⟨(some 13), (.mv (.c (.v (.int .i64 0)))), none⟩]) (.seq (.seq (.reg 22 false [⟨(some 14), (.mv (.c (.v (.int .i64 1)))), none⟩]) (.block 4 (.loop (.seq (.seq (.reg 23 false [⟨(some 85), (.mv (.t 14)), none⟩, ⟨(some 86), (.bin .leq (.t 85) (.c (.v (.int .i64 5)))), none⟩]) (.cond (.t 86) .skip (.exit 4))) (.seq (.block 5 (.reg 25 false [⟨(some 89), (.mv (.t 13)), none⟩, ⟨(some 90), (.mv (.t 7)), none⟩, ⟨(some 91), (.mv (.t 14)), none⟩, ⟨(some 92), (.call 11 [(.t 90), (.t 91)]), none⟩, ⟨(some 93), (.bin .add (.t 89) (.t 92)), none⟩, ⟨(some 13), (.mv (.t 93)), none⟩])) (.reg 24 false [⟨(some 87), (.mv (.t 14)), none⟩, ⟨(some 88), (.bin .add (.t 87) (.c (.v (.int .i64 1)))), none⟩, ⟨(some 14), (.mv (.t 88)), none⟩])))))) (.seq (.reg 26 false [⟨(some 94), (.mv (.t 7)), none⟩, ⟨(some 95), (.call 12 [(.t 94)]), none⟩, ⟨(some 96), (.len false (.t 95)), none⟩, ⟨(some 97), (.mv (.t 8)), none⟩, ⟨(some 98), (.bin .eql (.t 96) (.t 97)), none⟩, ⟨(some 99), (.mv (.t 98)), none⟩, ⟨(some 100), (.mv (.t 13)), (some (99, true))⟩, ⟨(some 101), (.mv (.t 8)), (some (99, true))⟩, ⟨(some 102), (.bin .eql (.t 100) (.t 101)), (some (99, true))⟩, ⟨(some 103), (.pick (.t 99) (.t 102) (.c (.v (.bool false)))), none⟩, ⟨(some 104), (.mv (.t 103)), none⟩, ⟨(some 105), (.call 7 []), (some (104, true))⟩, ⟨(some 106), (.pick (.t 104) (.t 105) (.c (.v (.bool false)))), none⟩, ⟨(some 4), (.mv (.t 106)), none⟩]) .ret))))))))))⟩

theorem healthHalts_ok {A : AProg} (hA : A.get 5 = some af5) (h7 : WpCallG A 7 [] [] (fun v H => v = .v (.bool true) ∧ H = [])) (h8 : A.get 8 = some af8) (h9 : A.get 9 = some af9) (h10 : A.get 10 = some af10) (h11 : A.get 11 = some af11) (h12 : A.get 12 = some af12) (h13 : A.get 13 = some af13) (h14 : A.get 14 = some af14)
    (h0 h1 h2 h3 h4 : Int) (ks : List Int) : WpCallG A 5 [.agg [vI h0, vI h1, vI h2, vI h3, vI h4], .fsl 1 (ks.map encK)] [] (fun v H => v = .v (.bool true) ∧ H = []) := by
  have t0 := T_rng h0
  have t1 := T_rng h1
  have t2 := T_rng h2
  have t3 := T_rng h3
  have t4 := T_rng h4
  refine WpCallG.intro hA rfl rfl ?_
  unfold af5
  change WpG _ _ _ _ _
  refine WpG.seq ?_
  refine WpG.reg ?_
  refine G.box (g := 10) rfl rfl rfl ?_
  refine G.mv rfl ?_
  refine WpOpsG.nil ?_
  change WpG _ _ _ _ _
  refine WpG.seq ?_
  refine WpG.reg ?_
  refine G.box (g := 11) rfl rfl rfl ?_
  refine WpOpsG.nil ?_
  change WpG _ _ _ _ _
  refine WpG.seq ?_
  refine WpG.seq ?_
  refine WpG.reg ?_
  refine G.mv rfl ?_
  refine WpOpsG.nil ?_
  change WpG _ _ _ _ _
  refine WpG.block ?_
  refine WpG.loop (S := Nat) (fun i => [(4, .v (.bool false)), (2, .bptr 10 0), (5, .bptr 11 0), (15, .v (.int .i64 i)), (1, .fsl 1 (ks.map encK))]) (fun i => [(10, .box ((hL h0 h1 h2 h3 h4).map vI)), (11, .box ((tl h0 h1 h2 h3 h4 i).map vI))]) (fun i => i ≤ 5) (fun i => 5 - i) (fun s => ⟨rfl, rfl⟩) ?_ 0 ?_ (by repeat (first | exact trivial | refine ⟨rfl, ?_⟩)) (by repeat (first | exact trivial | refine ⟨rfl, ?_⟩)) rfl
  · intro i hI
    have ht := tm3 ((hL h0 h1 h2 h3 h4).getD ((i : Int)).toNat 0)
    refine WpG.seq ?_
    refine WpG.reg ?_
    refine G.bin rfl rfl rfl ?_
    refine WpOpsG.nil ?_
    change WpG _ _ _ _ _
    refine WpG.seq ?_
    refine WpG.cond rfl (fun hq1 => ?_) (fun hq1 => ?_)
    · (try simp only [decide_eq_true_eq, decide_eq_false_iff_not, Bool.or_eq_true, Bool.and_eq_true, Bool.or_eq_false_iff, Bool.and_eq_false_iff, bne_iff_ne, beq_iff_eq, beq_eq_false_iff_ne, bne_eq_false_iff_eq, ne_eq, Bool.not_eq_true', Bool.not_eq_false', Int.not_lt, Int.not_le, Decidable.not_not, List.length_map, List.length_cons, List.length_nil] at hq1)
      refine WpG.skip ?_
      change WpG _ _ _ _ _
      refine WpG.seq ?_
      refine WpG.block ?_
      refine WpG.seq ?_
      refine WpG.reg ?_
      refine G.mv rfl ?_
      refine G.mv rfl ?_
      refine WpOpsG.nil ?_
      change WpG _ _ _ _ _
      refine WpG.reg ?_
      refine G.mv rfl ?_
      refine G.mv rfl ?_
      first | refine G.aaddrB rfl rfl (by omega) (by omega) ?_ | refine G.aaddrF rfl rfl (by omega) (by omega) ?_
      refine G.load1B rfl rfl (ld0 (hL h0 h1 h2 h3 h4) (i : Int) (by omega) (by show (i : Int) < 5; omega)) ?_
      refine G.remP rfl rfl (by omega) ?_
      first | refine G.addI rfl rfl (by omega) ?_ | refine G.bin rfl rfl rfl ?_
      first | refine G.remN rfl rfl (by omega) (by omega) ?_ | refine G.remP rfl rfl (by omega) ?_
      first | refine G.aaddrB rfl rfl (by omega) (by omega) ?_ | refine G.aaddrF rfl rfl (by omega) (by omega) ?_
      refine G.storeB rfl rfl rfl rfl rfl (st0 (tl h0 h1 h2 h3 h4 i) (i : Int) _ (by omega) (by show (i : Int) < 5; omega)) ?_
      refine WpOpsG.nil ?_
      change WpG _ _ _ _ _
      refine WpG.reg ?_
      first | refine G.addI rfl rfl (by omega) ?_ | refine G.bin rfl rfl rfl ?_
      refine G.mv rfl ?_
      refine WpOpsG.nil ?_
      refine ⟨i + 1, by omega, by omega, ⟨rfl, rfl, rfl, rfl, rfl, trivial⟩, ⟨rfl, ?_, trivial⟩, rfl⟩
      show some (GBlk.box (((tl h0 h1 h2 h3 h4 i).set i (T ((hL h0 h1 h2 h3 h4).getD i 0))).map vI)) = _
      rw [tl_set _ _ _ _ _ i (by omega)]
    · (try simp only [decide_eq_true_eq, decide_eq_false_iff_not, Bool.or_eq_true, Bool.and_eq_true, Bool.or_eq_false_iff, Bool.and_eq_false_iff, bne_iff_ne, beq_iff_eq, beq_eq_false_iff_ne, bne_eq_false_iff_eq, ne_eq, Bool.not_eq_true', Bool.not_eq_false', Int.not_lt, Int.not_le, Decidable.not_not, List.length_map, List.length_cons, List.length_nil] at hq1)
      refine WpG.exit ?_
      change WpG _ _ _ _ _
      refine WpG.seq ?_
      have hi : i = 5 := by omega
      subst hi
      refine WpG.reg ?_
      first | refine G.loadNB rfl rfl rfl ?_ | refine G.loadNF rfl rfl ?_ | refine G.loadNEM rfl rfl (List.getElem?_eq_getElem (by first | omega | (simp only [List.length_map, List.length_append, List.length_cons, List.length_nil, List.length_replicate, List.length_take, List.length_drop, List.length_set]; omega))) rfl ?_
      refine G.call0 rfl rfl (new31 h8 (T h0) (T h1) (T h2) (T h3) (T h4)) ?_
      rintro _ _ ⟨rfl, rfl⟩
      refine ⟨rfl, ?_⟩
      change WpOpsG _ _ ((28, .bptr 31 0) :: _) (LN 31 32 (T h0) (T h1) (T h2) (T h3) (T h4) false (([] : List Flt).map encF) ++ [(10, .box ((hL h0 h1 h2 h3 h4).map vI)), (11, .box ((hL (T h0) (T h1) (T h2) (T h3) (T h4)).map vI))]) _
      refine G.mv rfl ?_
      refine WpOpsG.nil ?_
      change WpG _ _ _ _ _
      refine WpG.seq ?_
      refine WpG.seq ?_
      refine WpG.reg ?_
      refine G.mv rfl ?_
      first | refine G.eqnilB rfl ?_ | refine G.eqnilP rfl ?_ | refine G.eqnilF rfl (fun hnil30 hnil30_e => ?_)
      refine WpOpsG.nil ?_
      change WpG _ _ _ _ _
      refine WpG.cond rfl (fun hq2 => absurd hq2 (by first | decide | simp)) (fun hq2 => ?_)
      refine WpG.skip ?_
      change WpG _ _ _ _ _
      refine WpG.seq ?_
      refine WpG.reg ?_
      refine G.mv rfl ?_
      refine WpOpsG.nil ?_
      change WpG _ _ _ _ _
      refine WpG.seq ?_
      refine WpG.seq ?_
      refine WpG.reg ?_
      refine G.mv rfl ?_
      refine WpOpsG.nil ?_
      change WpG _ _ _ _ _
      refine WpG.block ?_
      refine WpG.loop (S := Nat × List Flt × Bool) (fun s => [(4, .v (.bool false)), (1, .fsl 1 (ks.map encK)), (5, .bptr 11 0), (7, .bptr 31 0), (8, .v (.int .i64 s.2.1.length)), (9, .v (.int .i64 s.1))]) (fun s => LN 31 32 (T h0) (T h1) (T h2) (T h3) (T h4) s.2.2 (s.2.1.map encF) ++ [(11, .box ((hL (T h0) (T h1) (T h2) (T h3) (T h4)).map vI))]) (fun s => s.1 ≤ 30 ∧ s.1 ≤ ks.length ∧ s.2.1.length ≤ s.1 ∧ ∀ f, f ∈ s.2.1 → 1 ≤ f.k ∧ f.k ≤ 5) (fun s => ks.length - s.1) (fun s => ⟨rfl, rfl⟩) ?_ (0, [], false) ?_ (by repeat (first | exact trivial | refine ⟨rfl, ?_⟩)) (by repeat (first | exact trivial | refine ⟨rfl, ?_⟩)) rfl
      · rintro ⟨i, l, st⟩ ⟨hI1, hI2, hI3, hI4⟩
        dsimp only at hI1 hI2 hI3 hI4 ⊢
        refine WpG.seq ?_
        refine WpG.seq ?_
        refine WpG.reg ?_
        refine G.mv rfl ?_
        refine G.mv rfl ?_
        first | refine G.lenM rfl ?_ | refine G.lenOM rfl rfl ?_ | refine G.lenF rfl ?_ | refine G.lenO rfl rfl ?_ | refine G.lenNil rfl ?_
        refine G.bin rfl rfl rfl ?_
        refine G.mv rfl ?_
        apply G.andS rfl rfl rfl rfl rfl rfl
        case hB =>
          intro hs3
          (try simp only [decide_eq_true_eq, decide_eq_false_iff_not, Bool.or_eq_true, Bool.and_eq_true, Bool.or_eq_false_iff, Bool.and_eq_false_iff, bne_iff_ne, beq_iff_eq, beq_eq_false_iff_ne, bne_eq_false_iff_eq, ne_eq, Bool.not_eq_true', Bool.not_eq_false', Int.not_lt, Int.not_le, Decidable.not_not, List.length_map, List.length_cons, List.length_nil] at hs3)
          refine G.mv rfl ?_
          refine G.bin rfl rfl rfl ?_
          refine WpOpsG.nil ?_
          exact ⟨rfl, (by repeat (first | exact LLe.refl _ | refine LLe.cons rfl ?_)), (by repeat (first | exact HLe.refl _ | refine HLe.cons rfl ?_)), rfl⟩
        refine WpOpsG.nil ?_
        change WpG _ _ _ _ _
        refine WpG.cond rfl (fun hq4 => ?_) (fun hq4 => ?_)
        · (try simp only [decide_eq_true_eq, decide_eq_false_iff_not, Bool.or_eq_true, Bool.and_eq_true, Bool.or_eq_false_iff, Bool.and_eq_false_iff, bne_iff_ne, beq_iff_eq, beq_eq_false_iff_ne, bne_eq_false_iff_eq, ne_eq, Bool.not_eq_true', Bool.not_eq_false', Int.not_lt, Int.not_le, Decidable.not_not, List.length_map, List.length_cons, List.length_nil] at hq4)
          refine WpG.skip ?_
          change WpG _ _ _ _ _
          refine WpG.seq ?_
          refine WpG.block ?_
          refine WpG.seq ?_
          have htm := tm5 ks[i]
          refine WpG.reg ?_
          refine G.mv rfl ?_
          refine G.mv rfl ?_
          first | refine G.iaddrN rfl rfl (List.getElem?_eq_getElem (by first | omega | (simp only [List.length_map, List.length_append, List.length_cons, List.length_nil, List.length_replicate, List.length_take, List.length_drop, List.length_set]; omega))) ?_ | refine G.iaddrM rfl rfl (by omega) (List.getElem?_eq_getElem (by first | omega | (simp only [List.length_map, List.length_append, List.length_cons, List.length_nil, List.length_replicate, List.length_take, List.length_drop, List.length_set]; omega))) ?_ | refine G.iaddrF rfl rfl (by omega) rfl ?_ | refine G.iaddrO rfl rfl rfl (by omega) (by first | omega | (simp only [List.length_map, List.length_append, List.length_cons, List.length_nil, List.length_replicate, List.length_take, List.length_drop, List.length_set]; omega)) ?_ | refine G.iaddrF rfl rfl (by omega) (List.getElem?_eq_getElem (by first | omega | (simp only [List.length_map, List.length_append, List.length_cons, List.length_nil, List.length_replicate, List.length_take, List.length_drop, List.length_set]; omega))) ?_
          first | refine G.load1B rfl rfl rfl ?_ | refine G.load1F rfl rfl ?_ | refine G.load1E rfl rfl (List.getElem?_eq_getElem (by first | omega | (simp only [List.length_map, List.length_append, List.length_cons, List.length_nil, List.length_replicate, List.length_take, List.length_drop, List.length_set]; omega))) rfl ?_ | refine G.load1EM rfl rfl (List.getElem?_eq_getElem (by first | omega | (simp only [List.length_map, List.length_append, List.length_cons, List.length_nil, List.length_replicate, List.length_take, List.length_drop, List.length_set]; omega))) rfl ?_
          first | refine G.remN rfl rfl (by omega) (by omega) ?_ | refine G.remP rfl rfl (by omega) ?_
          first | refine G.addI rfl rfl (by omega) ?_ | refine G.bin rfl rfl rfl ?_
          first | refine G.remN rfl rfl (by omega) (by omega) ?_ | refine G.remP rfl rfl (by omega) ?_
          first | refine G.addI rfl rfl (by omega) ?_ | refine G.bin rfl rfl rfl ?_
          refine G.mv rfl ?_
          refine WpOpsG.nil ?_
          change WpG _ _ _ _ _
          refine WpG.seq ?_
          refine WpG.reg ?_
          refine G.mv rfl ?_
          refine G.call (P := LN 31 32 (T h0) (T h1) (T h2) (T h3) (T h4) st (l.map encF)) rfl (by repeat (first | exact trivial | refine ⟨rfl, ?_⟩)) rfl rfl (stopped31 h9 (T h0) (T h1) (T h2) (T h3) (T h4) st (l.map encF)) ?_
          rintro _ _ ⟨rfl, rfl⟩
          refine ⟨rfl, ?_⟩
          change WpOpsG _ _ ((50, .v (.bool st)) :: _) (LN 31 32 (T h0) (T h1) (T h2) (T h3) (T h4) st (l.map encF) ++ [(11, .box ((hL (T h0) (T h1) (T h2) (T h3) (T h4)).map vI))]) _
          refine G.mv rfl ?_
          refine WpOpsG.nil ?_
          change WpG _ _ _ _ _
          refine WpG.seq ?_
          refine WpG.reg ?_
          refine G.mv rfl ?_
          refine G.mv rfl ?_
          refine G.mv rfl ?_
          refine G.call (P := LN 31 32 (T h0) (T h1) (T h2) (T h3) (T h4) st (l.map encF)) rfl (by repeat (first | exact trivial | refine ⟨rfl, ?_⟩)) rfl rfl (tell31 h10 h13 (T h0) (T h1) (T h2) (T h3) (T h4) st (l.map encF) _ _ _ (by unfold i64; omega) (by rw [List.length_map]; omega)) ?_
          rintro _ _ ⟨rfl, rfl⟩
          refine ⟨rfl, ?_⟩
          obtain ⟨l2, hl2⟩ : ∃ l2, l2 = (bif st then l else l ++ [⟨(i : Int), 0, (1 + (ks[i].tmod 5 + 5) % 5)⟩]) := ⟨_, rfl⟩
          obtain ⟨st2, hs2⟩ : ∃ st2, st2 = (bif st then true else act (T h0) (T h1) (T h2) (T h3) (T h4) (1 + (ks[i].tmod 5 + 5) % 5) == 2) := ⟨_, rfl⟩
          have e : (bif st then l.map encF else l.map encF ++ [encF ⟨(i : Int), 0, (1 + (ks[i].tmod 5 + 5) % 5)⟩]) = l2.map encF := by subst hl2; cases st <;> simp
          have hK := act_T (T h0) (T h1) (T h2) (T h3) (T h4) (1 + (ks[i].tmod 5 + 5) % 5) t0 t1 t2 t3 t4 (by omega)
          change WpOpsG _ _ ((54, vI (bif st then -1 else act (T h0) (T h1) (T h2) (T h3) (T h4) (1 + (ks[i].tmod 5 + 5) % 5))) :: _) (LN 31 32 (T h0) (T h1) (T h2) (T h3) (T h4) (bif st then true else act (T h0) (T h1) (T h2) (T h3) (T h4) (1 + (ks[i].tmod 5 + 5) % 5) == 2) (bif st then l.map encF else l.map encF ++ [encF ⟨(i : Int), 0, (1 + (ks[i].tmod 5 + 5) % 5)⟩]) ++ [(11, .box ((hL (T h0) (T h1) (T h2) (T h3) (T h4)).map vI))]) _
          rw [e, ← hs2]
          refine G.mv rfl ?_
          refine WpOpsG.nil ?_
          change WpG _ _ _ _ _
          refine WpG.seq ?_
          refine WpG.seq ?_
          refine WpG.reg ?_
          refine G.mv rfl ?_
          refine G.mv rfl ?_
          refine G.bin rfl rfl rfl ?_
          refine G.beq rfl rfl rfl ?_
          refine G.mv rfl ?_
          apply G.orS rfl rfl rfl rfl rfl rfl
          case hB =>
            intro hs5
            (try simp only [decide_eq_true_eq, decide_eq_false_iff_not, Bool.or_eq_true, Bool.and_eq_true, Bool.or_eq_false_iff, Bool.and_eq_false_iff, bne_iff_ne, beq_iff_eq, beq_eq_false_iff_ne, bne_eq_false_iff_eq, ne_eq, Bool.not_eq_true', Bool.not_eq_false', Int.not_lt, Int.not_le, Decidable.not_not, List.length_map, List.length_cons, List.length_nil] at hs5)
            refine G.mv rfl ?_
            refine G.un rfl rfl ?_
            refine G.mv rfl ?_
            apply G.andS rfl rfl rfl rfl rfl rfl
            case hB =>
              intro hs6
              (try simp only [decide_eq_true_eq, decide_eq_false_iff_not, Bool.or_eq_true, Bool.and_eq_true, Bool.or_eq_false_iff, Bool.and_eq_false_iff, bne_iff_ne, beq_iff_eq, beq_eq_false_iff_ne, bne_eq_false_iff_eq, ne_eq, Bool.not_eq_true', Bool.not_eq_false', Int.not_lt, Int.not_le, Decidable.not_not, List.length_map, List.length_cons, List.length_nil] at hs6)
              refine G.mv rfl ?_
              refine G.mv rfl ?_
              first | refine G.subI rfl rfl (by omega) ?_ | refine G.bin rfl rfl rfl ?_
              first | refine G.aaddrB rfl rfl (by omega) (by omega) ?_ | refine G.aaddrF rfl rfl (by omega) (by omega) ?_
              refine G.load1B rfl rfl (ld0 (hL (T h0) (T h1) (T h2) (T h3) (T h4)) _ (by omega) (by show _ < (5 : Int); omega)) ?_
              refine G.bin rfl rfl rfl ?_
              refine WpOpsG.nil ?_
              exact ⟨rfl, (by repeat (first | exact LLe.refl _ | refine LLe.cons rfl ?_)), (by repeat (first | exact HLe.refl _ | refine HLe.cons rfl ?_)), rfl⟩
            refine WpOpsG.nil ?_
            exact ⟨rfl, (by repeat (first | exact LLe.refl _ | refine LLe.cons rfl ?_)), (by repeat (first | exact HLe.refl _ | refine HLe.cons rfl ?_)), rfl⟩
          refine G.mv rfl ?_
          apply G.orS rfl rfl rfl rfl rfl rfl
          case hB =>
            intro hs7
            (try simp only [decide_eq_true_eq, decide_eq_false_iff_not, Bool.or_eq_true, Bool.and_eq_true, Bool.or_eq_false_iff, Bool.and_eq_false_iff, bne_iff_ne, beq_iff_eq, beq_eq_false_iff_ne, bne_eq_false_iff_eq, ne_eq, Bool.not_eq_true', Bool.not_eq_false', Int.not_lt, Int.not_le, Decidable.not_not, List.length_map, List.length_cons, List.length_nil] at hs7)
            refine G.mv rfl ?_
            refine G.call (P := LN 31 32 (T h0) (T h1) (T h2) (T h3) (T h4) st2 (l2.map encF)) rfl (by repeat (first | exact trivial | refine ⟨rfl, ?_⟩)) rfl rfl (stopped31 h9 (T h0) (T h1) (T h2) (T h3) (T h4) st2 (l2.map encF)) ?_
            rintro _ _ ⟨rfl, rfl⟩
            refine ⟨rfl, ?_⟩
            change WpOpsG _ _ ((73, .v (.bool st2)) :: _) (LN 31 32 (T h0) (T h1) (T h2) (T h3) (T h4) st2 (l2.map encF) ++ [(11, .box ((hL (T h0) (T h1) (T h2) (T h3) (T h4)).map vI))]) _
            refine G.mv rfl ?_
            refine G.mv rfl ?_
            apply G.orS rfl rfl rfl rfl rfl rfl
            case hB =>
              intro hs8
              (try simp only [decide_eq_true_eq, decide_eq_false_iff_not, Bool.or_eq_true, Bool.and_eq_true, Bool.or_eq_false_iff, Bool.and_eq_false_iff, bne_iff_ne, beq_iff_eq, beq_eq_false_iff_ne, bne_eq_false_iff_eq, ne_eq, Bool.not_eq_true', Bool.not_eq_false', Int.not_lt, Int.not_le, Decidable.not_not, List.length_map, List.length_cons, List.length_nil] at hs8)
              refine G.mv rfl ?_
              refine G.bin rfl rfl rfl ?_
              refine WpOpsG.nil ?_
              exact ⟨rfl, (by repeat (first | exact LLe.refl _ | refine LLe.cons rfl ?_)), (by repeat (first | exact HLe.refl _ | refine HLe.cons rfl ?_)), rfl⟩
            refine G.beq rfl rfl rfl ?_
            refine WpOpsG.nil ?_
            exact ⟨rfl, (by repeat (first | exact LLe.refl _ | refine LLe.cons rfl ?_)), (by repeat (first | exact HLe.refl _ | refine HLe.cons rfl ?_)), rfl⟩
          refine WpOpsG.nil ?_
          change WpG _ _ _ _ _
          refine WpG.cond rfl (fun hq9 => ?_) (fun hq9 => ?_)
          · (try simp only [decide_eq_true_eq, decide_eq_false_iff_not, Bool.or_eq_true, Bool.and_eq_true, Bool.or_eq_false_iff, Bool.and_eq_false_iff, bne_iff_ne, beq_iff_eq, beq_eq_false_iff_ne, bne_eq_false_iff_eq, ne_eq, Bool.not_eq_true', Bool.not_eq_false', Int.not_lt, Int.not_le, Decidable.not_not, List.length_map, List.length_cons, List.length_nil] at hq9)
            exfalso
            obtain ⟨hA1, hA2, hA3⟩ := hK
            rw [← hA1, hs2] at hq9
            generalize act (T h0) (T h1) (T h2) (T h3) (T h4) (1 + (ks[i].tmod 5 + 5) % 5) = aa at hq9 hA2 hA3
            cases st with
            | true => simp at hq9
            | false => simp at hq9; omega
          · (try simp only [decide_eq_true_eq, decide_eq_false_iff_not, Bool.or_eq_true, Bool.and_eq_true, Bool.or_eq_false_iff, Bool.and_eq_false_iff, bne_iff_ne, beq_iff_eq, beq_eq_false_iff_ne, bne_eq_false_iff_eq, ne_eq, Bool.not_eq_true', Bool.not_eq_false', Int.not_lt, Int.not_le, Decidable.not_not, List.length_map, List.length_cons, List.length_nil] at hq9)
            refine WpG.skip ?_
            change WpG _ _ _ _ _
            refine WpG.seq ?_
            refine WpG.reg ?_
            refine G.mv rfl ?_
            refine G.un rfl rfl ?_
            refine WpOpsG.nil ?_
            change WpG _ _ _ _ _
            refine WpG.cond rfl (fun hq10 => ?_) (fun hq10 => ?_)
            · (try simp only [decide_eq_true_eq, decide_eq_false_iff_not, Bool.or_eq_true, Bool.and_eq_true, Bool.or_eq_false_iff, Bool.and_eq_false_iff, bne_iff_ne, beq_iff_eq, beq_eq_false_iff_ne, bne_eq_false_iff_eq, ne_eq, Bool.not_eq_true', Bool.not_eq_false', Int.not_lt, Int.not_le, Decidable.not_not, List.length_map, List.length_cons, List.length_nil] at hq10)
              subst hq10
              refine WpG.reg ?_
              refine G.mv rfl ?_
              first | refine G.addI rfl rfl (by omega) ?_ | refine G.bin rfl rfl rfl ?_
              refine G.mv rfl ?_
              refine WpOpsG.nil ?_
              change WpG _ _ _ _ _
              refine WpG.reg ?_
              refine G.mv rfl ?_
              first | refine G.addI rfl rfl (by omega) ?_ | refine G.bin rfl rfl rfl ?_
              refine G.mv rfl ?_
              refine WpOpsG.nil ?_
              have hl3 : l2.length ≤ l.length + 1 := by subst hl2; simp
              refine ⟨(i + 1, l2, st2), by show ks.length - (i + 1) < ks.length - i; omega, ⟨by show i + 1 ≤ 30; omega, by show i + 1 ≤ ks.length; omega, by show l2.length ≤ i + 1; omega, ?_⟩, ⟨rfl, rfl, rfl, rfl, ?_, rfl, trivial⟩, (by repeat (first | exact trivial | refine ⟨rfl, ?_⟩)), rfl⟩
              · intro f hf
                have hf2 : f ∈ l ++ [(⟨(i : Int), 0, (1 + (ks[i].tmod 5 + 5) % 5)⟩ : Flt)] := by (subst hl2; first | exact hf | exact List.mem_append_left _ hf)
                rcases List.mem_append.1 hf2 with h | h
                · exact hI4 f h
                · rw [List.mem_singleton.1 h]; show 1 ≤ (1 + (ks[i].tmod 5 + 5) % 5) ∧ (1 + (ks[i].tmod 5 + 5) % 5) ≤ 5; omega
              · first | (subst hl2; rfl) | (subst hl2; show some (GV.v (.int .i64 ((l.length : Int) + 1))) = some (GV.v (.int .i64 ((l ++ [_]).length : Int))); rw [List.length_append]; rfl)
            · (try simp only [decide_eq_true_eq, decide_eq_false_iff_not, Bool.or_eq_true, Bool.and_eq_true, Bool.or_eq_false_iff, Bool.and_eq_false_iff, bne_iff_ne, beq_iff_eq, beq_eq_false_iff_ne, bne_eq_false_iff_eq, ne_eq, Bool.not_eq_true', Bool.not_eq_false', Int.not_lt, Int.not_le, Decidable.not_not, List.length_map, List.length_cons, List.length_nil] at hq10)
              subst hq10
              refine WpG.skip ?_
              change WpG _ _ _ _ _
              refine WpG.reg ?_
              refine G.mv rfl ?_
              first | refine G.addI rfl rfl (by omega) ?_ | refine G.bin rfl rfl rfl ?_
              refine G.mv rfl ?_
              refine WpOpsG.nil ?_
              have hl3 : l2.length ≤ l.length + 1 := by subst hl2; simp
              refine ⟨(i + 1, l2, st2), by show ks.length - (i + 1) < ks.length - i; omega, ⟨by show i + 1 ≤ 30; omega, by show i + 1 ≤ ks.length; omega, by show l2.length ≤ i + 1; omega, ?_⟩, ⟨rfl, rfl, rfl, rfl, ?_, rfl, trivial⟩, (by repeat (first | exact trivial | refine ⟨rfl, ?_⟩)), rfl⟩
              · intro f hf
                have hf2 : f ∈ l ++ [(⟨(i : Int), 0, (1 + (ks[i].tmod 5 + 5) % 5)⟩ : Flt)] := by (subst hl2; first | exact hf | exact List.mem_append_left _ hf)
                rcases List.mem_append.1 hf2 with h | h
                · exact hI4 f h
                · rw [List.mem_singleton.1 h]; show 1 ≤ (1 + (ks[i].tmod 5 + 5) % 5) ∧ (1 + (ks[i].tmod 5 + 5) % 5) ≤ 5; omega
              · first | (subst hl2; rfl) | (subst hl2; show some (GV.v (.int .i64 ((l.length : Int) + 1))) = some (GV.v (.int .i64 ((l ++ [_]).length : Int))); rw [List.length_append]; rfl)
        · (try simp only [decide_eq_true_eq, decide_eq_false_iff_not, Bool.or_eq_true, Bool.and_eq_true, Bool.or_eq_false_iff, Bool.and_eq_false_iff, bne_iff_ne, beq_iff_eq, beq_eq_false_iff_ne, bne_eq_false_iff_eq, ne_eq, Bool.not_eq_true', Bool.not_eq_false', Int.not_lt, Int.not_le, Decidable.not_not, List.length_map, List.length_cons, List.length_nil] at hq4)
          refine WpG.exit ?_
          change WpG _ _ _ _ _
          refine WpG.seq ?_
          refine WpG.reg ?_
          refine G.mv rfl ?_
          refine WpOpsG.nil ?_
          change WpG _ _ _ _ _
          refine WpG.seq ?_
          refine WpG.seq ?_
          refine WpG.reg ?_
          refine G.mv rfl ?_
          refine WpOpsG.nil ?_
          change WpG _ _ _ _ _
          refine WpG.block ?_
          refine WpG.loop (S := Nat) (fun s => [(4, .v (.bool false)), (7, .bptr 31 0), (8, .v (.int .i64 l.length)), (13, .v (.int .i64 (sumk s l))), (14, .v (.int .i64 ((s : Int) + 1)))]) (fun _ => LN 31 32 (T h0) (T h1) (T h2) (T h3) (T h4) st (l.map encF)) (fun s => s ≤ 5) (fun s => 5 - s) (fun s => ⟨rfl, rfl⟩) ?_ 0 ?_ (by repeat (first | exact trivial | refine ⟨rfl, ?_⟩)) (by repeat (first | exact trivial | refine ⟨rfl, ?_⟩)) rfl
          · intro s hI
            have hsl := sumk_le l s
            have hcl := cnt_le ((s : Int) + 1) l
            have hsl5 : sumk s l ≤ 150 := Nat.le_trans hsl (by have := Nat.mul_le_mul hI (show l.length ≤ 30 by omega); omega)
            refine WpG.seq ?_
            refine WpG.seq ?_
            refine WpG.reg ?_
            refine G.mv rfl ?_
            refine G.bin rfl rfl rfl ?_
            refine WpOpsG.nil ?_
            change WpG _ _ _ _ _
            refine WpG.cond rfl (fun hq11 => ?_) (fun hq11 => ?_)
            · (try simp only [decide_eq_true_eq, decide_eq_false_iff_not, Bool.or_eq_true, Bool.and_eq_true, Bool.or_eq_false_iff, Bool.and_eq_false_iff, bne_iff_ne, beq_iff_eq, beq_eq_false_iff_ne, bne_eq_false_iff_eq, ne_eq, Bool.not_eq_true', Bool.not_eq_false', Int.not_lt, Int.not_le, Decidable.not_not, List.length_map, List.length_cons, List.length_nil] at hq11)
              refine WpG.skip ?_
              change WpG _ _ _ _ _
              refine WpG.seq ?_
              refine WpG.block ?_
              refine WpG.reg ?_
              refine G.mv rfl ?_
              refine G.mv rfl ?_
              refine G.mv rfl ?_
              refine G.call (P := LN 31 32 (T h0) (T h1) (T h2) (T h3) (T h4) st (l.map encF)) rfl (by repeat (first | exact trivial | refine ⟨rfl, ?_⟩)) rfl rfl (count31 h11 (T h0) (T h1) (T h2) (T h3) (T h4) st l ((s : Int) + 1) (by omega)) ?_
              rintro _ _ ⟨rfl, rfl⟩
              refine ⟨rfl, ?_⟩
              change WpOpsG _ _ ((92, .v (.int .i64 (cnt ((s : Int) + 1) l))) :: _) (LN 31 32 (T h0) (T h1) (T h2) (T h3) (T h4) st (l.map encF)) _
              first | refine G.addI rfl rfl (by omega) ?_ | refine G.bin rfl rfl rfl ?_
              refine G.mv rfl ?_
              refine WpOpsG.nil ?_
              change WpG _ _ _ _ _
              refine WpG.reg ?_
              refine G.mv rfl ?_
              first | refine G.addI rfl rfl (by omega) ?_ | refine G.bin rfl rfl rfl ?_
              refine G.mv rfl ?_
              refine WpOpsG.nil ?_
              exact ⟨s + 1, by omega, by omega, ⟨rfl, rfl, rfl, rfl, rfl, trivial⟩, (by repeat (first | exact trivial | refine ⟨rfl, ?_⟩)), rfl⟩
            · (try simp only [decide_eq_true_eq, decide_eq_false_iff_not, Bool.or_eq_true, Bool.and_eq_true, Bool.or_eq_false_iff, Bool.and_eq_false_iff, bne_iff_ne, beq_iff_eq, beq_eq_false_iff_ne, bne_eq_false_iff_eq, ne_eq, Bool.not_eq_true', Bool.not_eq_false', Int.not_lt, Int.not_le, Decidable.not_not, List.length_map, List.length_cons, List.length_nil] at hq11)
              refine WpG.exit ?_
              change WpG _ _ _ _ _
              refine WpG.seq ?_
              have hs5 : s = 5 := by omega
              subst hs5
              refine WpG.reg ?_
              refine G.mv rfl ?_
              refine G.call (P := LN 31 32 (T h0) (T h1) (T h2) (T h3) (T h4) st (l.map encF)) rfl (by repeat (first | exact trivial | refine ⟨rfl, ?_⟩)) rfl rfl (all31 h12 h14 (T h0) (T h1) (T h2) (T h3) (T h4) st (l.map encF) (by rw [List.length_map]; omega)) ?_
              rintro _ _ ⟨rfl, rfl⟩
              refine ⟨rfl, ?_⟩
              change WpOpsG _ _ ((95, .fsl 3 (l.map encF)) :: _) (LN 31 32 (T h0) (T h1) (T h2) (T h3) (T h4) st (l.map encF)) _
              first | refine G.lenM rfl ?_ | refine G.lenOM rfl rfl ?_ | refine G.lenF rfl ?_ | refine G.lenO rfl rfl ?_ | refine G.lenNil rfl ?_
              refine G.mv rfl ?_
              refine G.bin rfl rfl rfl ?_
              refine G.mv rfl ?_
              apply G.andS rfl rfl rfl rfl rfl rfl
              case hB =>
                intro hs12
                (try simp only [decide_eq_true_eq, decide_eq_false_iff_not, Bool.or_eq_true, Bool.and_eq_true, Bool.or_eq_false_iff, Bool.and_eq_false_iff, bne_iff_ne, beq_iff_eq, beq_eq_false_iff_ne, bne_eq_false_iff_eq, ne_eq, Bool.not_eq_true', Bool.not_eq_false', Int.not_lt, Int.not_le, Decidable.not_not, List.length_map, List.length_cons, List.length_nil] at hs12)
                refine G.mv rfl ?_
                refine G.mv rfl ?_
                refine G.bin rfl rfl rfl ?_
                refine WpOpsG.nil ?_
                exact ⟨rfl, (by repeat (first | exact LLe.refl _ | refine LLe.cons rfl ?_)), (by repeat (first | exact HLe.refl _ | refine HLe.cons rfl ?_)), rfl⟩
              refine G.mv rfl ?_
              apply G.andS rfl rfl rfl rfl rfl rfl
              case hB =>
                intro hs13
                (try simp only [decide_eq_true_eq, decide_eq_false_iff_not, Bool.or_eq_true, Bool.and_eq_true, Bool.or_eq_false_iff, Bool.and_eq_false_iff, bne_iff_ne, beq_iff_eq, beq_eq_false_iff_ne, bne_eq_false_iff_eq, ne_eq, Bool.not_eq_true', Bool.not_eq_false', Int.not_lt, Int.not_le, Decidable.not_not, List.length_map, List.length_cons, List.length_nil] at hs13)
                refine G.call0 rfl rfl (h7) ?_
                rintro _ _ ⟨rfl, rfl⟩
                refine ⟨rfl, ?_⟩
                change WpOpsG _ _ (_ :: _) _ _
                refine WpOpsG.nil ?_
                exact ⟨rfl, (by repeat (first | exact LLe.refl _ | refine LLe.cons rfl ?_)), (by repeat (first | exact HLe.refl _ | refine HLe.cons rfl ?_)), rfl⟩
              refine G.mv rfl ?_
              refine WpOpsG.nil ?_
              change WpG _ _ _ _ _
              refine WpG.ret ?_
              refine ⟨_, [], rfl, (hasP_le (by repeat (first | exact trivial | refine ⟨rfl, ?_⟩))), rfl, rfl, rfl, ?_⟩
              refine ⟨?_, rfl⟩
              show GV.v (.bool _) = GV.v (.bool true)
              rw [sumk_all l hI4]
              simp
          · exact Nat.zero_le _
      · exact ⟨by omega, by omega, by decide, fun f h => by cases h⟩
  · exact Nat.zero_le _
end Go.AM.L18
