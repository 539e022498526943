/- Contracts of the functions that the statement reaches. No condition. -/
import Derived.Test.YtnnlhkcpegpfcaaGM12
set_option linter.all false
set_option maxRecDepth 10000
namespace Go.AM.L18
structure Flt where
  t : Int
  p : Int
  k : Int
def encF (x : Flt) : List GV := [vI x.t, vI x.p, vI x.k]
def i64 (n : Int) : Prop := -2 ^ 63 ≤ n ∧ n < 2 ^ 63
abbrev LH (h0 h1 h2 h3 h4 : Int) (st : Bool) (cs : List (List GV)) : GHp := [(1, .box [vI h0, vI h1, vI h2, vI h3, vI h4, .osl 2, .v (.bool st)]), (2, .arr true 3 cs)]

def af8 : AFunc := ⟨1, [(.tmp 2)], (.seq (.reg 0 false [⟨(some 1), (.box (.t 0)), none⟩, ⟨(some 2), (.mv (.c (.v (.pointer none)))), none⟩]) (.seq (.reg 1 false [⟨(some 3), (.loadN 5 (.t 1)), none⟩, ⟨(some 4), (.build [(.v (.int .i64 0)), (.v (.int .i64 0)), (.v (.int .i64 0)), (.v (.int .i64 0)), (.v (.int .i64 0)), (.v (.slice none 0 0)), (.v (.bool false))] [(0, (5, (.t 3)))]), none⟩, ⟨(some 5), (.box (.t 4)), none⟩, ⟨(some 2), (.mv (.t 5)), none⟩]) .ret))⟩

theorem new_ok {A : AProg} (hA : A.get 8 = some af8) (h0 h1 h2 h3 h4 : Int)  : WpCallG A 8 [.agg [vI h0, vI h1, vI h2, vI h3, vI h4]] ([]) (fun v H => v = .bptr 1 0 ∧ H = LH h0 h1 h2 h3 h4 false []) := by
  refine WpCallG.intro hA rfl rfl ?_
  unfold af8
  change WpG _ _ _ _ _
  refine WpG.seq ?_
  refine WpG.reg ?_
  refine G.box (g := 10) rfl rfl rfl ?_
  refine G.mv rfl ?_
  refine WpOpsG.nil ?_
  change WpG _ _ _ _ _
  refine WpG.seq ?_
  refine WpG.reg ?_
  first | refine G.loadNB rfl rfl rfl ?_ | refine G.loadNF rfl rfl ?_ | refine G.loadNEM rfl rfl (List.getElem?_eq_getElem (by first | omega | (simp only [List.length_map, List.length_append, List.length_cons, List.length_nil, List.length_replicate, List.length_take, List.length_drop, List.length_set]; omega))) rfl ?_
  refine G.build rfl ?_
  refine G.box (g := 1) rfl rfl rfl ?_
  refine G.mv rfl ?_
  refine WpOpsG.nil ?_
  change WpG _ _ _ _ _
  refine WpG.ownNilB (b := 1) (off := 5) (g := 2) (w := 3) rfl rfl rfl ?_
  refine WpG.ret ?_
  refine ⟨_, LH h0 h1 h2 h3 h4 false [], rfl, (hasP_le (by repeat (first | exact trivial | refine ⟨rfl, ?_⟩))), rfl, rfl, rfl, ?_⟩
  exact ⟨rfl, rfl⟩
def af9 : AFunc := ⟨1, [(.tmp 2)], (.seq (.reg 0 false [⟨(some 2), (.mv (.c (.v (.bool false)))), none⟩]) (.seq (.reg 1 false [⟨(some 3), (.mv (.t 0)), none⟩, ⟨(some 4), (.nilc (.t 3)), none⟩, ⟨(some 5), (.faddr 6 (.t 4)), none⟩, ⟨(some 6), (.load1 (.t 5)), none⟩, ⟨(some 2), (.mv (.t 6)), none⟩]) .ret))⟩

theorem stopped_ok {A : AProg} (hA : A.get 9 = some af9) (h0 h1 h2 h3 h4 : Int) (st : Bool) (cs : List (List GV))  : WpCallG A 9 [.bptr 1 0] (LH h0 h1 h2 h3 h4 st cs) (fun v H => v = .v (.bool st) ∧ H = LH h0 h1 h2 h3 h4 st cs) := by
  refine WpCallG.intro hA rfl rfl ?_
  unfold af9
  change WpG _ _ _ _ _
  refine WpG.seq ?_
  refine WpG.reg ?_
  refine G.mv rfl ?_
  refine WpOpsG.nil ?_
  change WpG _ _ _ _ _
  refine WpG.seq ?_
  refine WpG.reg ?_
  refine G.mv rfl ?_
  first | refine G.nilcB rfl ?_ | refine G.nilcF rfl ?_ | refine G.nilcE rfl ?_ | refine G.nilcFn rfl ?_
  first | refine G.faddrB rfl ?_ | refine G.faddrF rfl ?_ | refine G.faddrE rfl ?_
  first | refine G.load1B rfl rfl rfl ?_ | refine G.load1F rfl rfl ?_ | refine G.load1E rfl rfl (List.getElem?_eq_getElem (by first | omega | (simp only [List.length_map, List.length_append, List.length_cons, List.length_nil, List.length_replicate, List.length_take, List.length_drop, List.length_set]; omega))) rfl ?_ | refine G.load1EM rfl rfl (List.getElem?_eq_getElem (by first | omega | (simp only [List.length_map, List.length_append, List.length_cons, List.length_nil, List.length_replicate, List.length_take, List.length_drop, List.length_set]; omega))) rfl ?_
  refine G.mv rfl ?_
  refine WpOpsG.nil ?_
  change WpG _ _ _ _ _
  refine WpG.ret ?_
  refine ⟨_, LH h0 h1 h2 h3 h4 st cs, rfl, (hasP_le (by repeat (first | exact trivial | refine ⟨rfl, ?_⟩))), rfl, rfl, rfl, ?_⟩
  exact ⟨rfl, rfl⟩
def hL (h0 h1 h2 h3 h4 : Int) : List Int := [h0, h1, h2, h3, h4]
def act (h0 h1 h2 h3 h4 : Int) (k : Int) : Int :=
  if k < 1 ∨ k > 5 then 2 else if (hL h0 h1 h2 h3 h4).getD (k - 1).toNat 0 = 0 ∨ (hL h0 h1 h2 h3 h4).getD (k - 1).toNat 0 = 1 then (hL h0 h1 h2 h3 h4).getD (k - 1).toNat 0 else 2
theorem hL_at (h0 h1 h2 h3 h4 : Int) (r : List GV) (m : Int) (hm : 0 ≤ m) (hn : m < 5) : ([vI h0, vI h1, vI h2, vI h3, vI h4] ++ r)[0 + m.toNat * 1]? = some (vI ((hL h0 h1 h2 h3 h4).getD m.toNat 0)) :=
  ld_at (hL h0 h1 h2 h3 h4) r m hm hn

def af13 : AFunc := ⟨2, [(.tmp 4)], (.seq (.reg 0 false [⟨(some 4), (.mv (.c (.v (.int .i64 0)))), none⟩]) (.seq (.seq (.reg 1 false [⟨(some 6), (.mv (.t 1)), none⟩, ⟨(some 7), (.bin .lss (.t 6) (.c (.v (.int .i64 1)))), none⟩, ⟨(some 8), (.mv (.t 7)), none⟩, ⟨(some 9), (.mv (.t 1)), (some (8, false))⟩, ⟨(some 10), (.bin .gtr (.t 9) (.c (.v (.int .i64 5)))), (some (8, false))⟩, ⟨(some 11), (.pick (.t 8) (.c (.v (.bool true))) (.t 10)), none⟩]) (.cond (.t 11) (.seq (.reg 2 false [⟨(some 4), (.mv (.c (.v (.int .i64 2)))), none⟩]) .ret) .skip)) (.seq (.seq (.reg 3 false [⟨(some 12), (.mv (.t 0)), none⟩, ⟨(some 13), (.mv (.t 1)), none⟩, ⟨(some 14), (.bin .sub (.t 13) (.c (.v (.int .i64 1)))), none⟩, ⟨(some 15), (.nilc (.t 12)), none⟩, ⟨(some 16), (.faddr 0 (.t 15)), none⟩, ⟨(some 17), (.aaddr 5 1 (.t 16) (.t 14)), none⟩, ⟨(some 18), (.load1 (.t 17)), none⟩, ⟨(some 5), (.mv (.t 18)), none⟩]) (.seq (.reg 4 false [⟨(some 19), (.mv (.t 5)), none⟩, ⟨(some 20), (.bin .eql (.t 19) (.c (.v (.int .i64 0)))), none⟩, ⟨(some 21), (.mv (.t 20)), none⟩, ⟨(some 22), (.mv (.t 5)), (some (21, false))⟩, ⟨(some 23), (.bin .eql (.t 22) (.c (.v (.int .i64 1)))), (some (21, false))⟩, ⟨(some 24), (.pick (.t 21) (.c (.v (.bool true))) (.t 23)), none⟩]) (.cond (.t 24) (.seq (.reg 5 false [⟨(some 25), (.mv (.t 5)), none⟩, ⟨(some 4), (.mv (.t 25)), none⟩]) .ret) .skip))) (.seq (.reg 6 false [⟨(some 4), (.mv (.c (.v (.int .i64 2)))), none⟩]) .ret))))⟩

theorem action_ok {A : AProg} (hA : A.get 13 = some af13) (h0 h1 h2 h3 h4 : Int) (st : Bool) (cs : List (List GV)) (k : Int) (hk : i64 k)  : WpCallG A 13 [.bptr 1 0, .v (.int .i64 k)] (LH h0 h1 h2 h3 h4 st cs) (fun v H => v = vI (act h0 h1 h2 h3 h4 k) ∧ H = LH h0 h1 h2 h3 h4 st cs) := by
  unfold i64 at hk
  refine WpCallG.intro hA rfl rfl ?_
  unfold af13
  change WpG _ _ _ _ _
  refine WpG.seq ?_
  refine WpG.reg ?_
  refine G.mv rfl ?_
  refine WpOpsG.nil ?_
  change WpG _ _ _ _ _
  refine WpG.seq ?_
  refine WpG.seq ?_
  refine WpG.reg ?_
  refine G.mv rfl ?_
  refine G.bin rfl rfl rfl ?_
  refine G.mv rfl ?_
  apply G.orS rfl rfl rfl rfl rfl rfl
  case hB =>
    intro hs1
    (try simp only [decide_eq_true_eq, decide_eq_false_iff_not, Bool.or_eq_true, Bool.and_eq_true, Bool.or_eq_false_iff, Bool.and_eq_false_iff, bne_iff_ne, beq_iff_eq, beq_eq_false_iff_ne, bne_eq_false_iff_eq, ne_eq, Bool.not_eq_true', Bool.not_eq_false', Int.not_lt, Int.not_le, Decidable.not_not, List.length_map, List.length_cons, List.length_nil] at hs1)
    refine G.mv rfl ?_
    refine G.bin rfl rfl rfl ?_
    refine WpOpsG.nil ?_
    exact ⟨rfl, (by repeat (first | exact LLe.refl _ | refine LLe.cons rfl ?_)), (by repeat (first | exact HLe.refl _ | refine HLe.cons rfl ?_)), rfl⟩
  refine WpOpsG.nil ?_
  change WpG _ _ _ _ _
  refine WpG.cond rfl (fun hq2 => ?_) (fun hq2 => ?_)
  · (try simp only [decide_eq_true_eq, decide_eq_false_iff_not, Bool.or_eq_true, Bool.and_eq_true, Bool.or_eq_false_iff, Bool.and_eq_false_iff, bne_iff_ne, beq_iff_eq, beq_eq_false_iff_ne, bne_eq_false_iff_eq, ne_eq, Bool.not_eq_true', Bool.not_eq_false', Int.not_lt, Int.not_le, Decidable.not_not, List.length_map, List.length_cons, List.length_nil] at hq2)
    refine WpG.seq ?_
    refine WpG.reg ?_
    refine G.mv rfl ?_
    refine WpOpsG.nil ?_
    change WpG _ _ _ _ _
    refine WpG.ret ?_
    refine ⟨_, LH h0 h1 h2 h3 h4 st cs, rfl, (hasP_le (by repeat (first | exact trivial | refine ⟨rfl, ?_⟩))), rfl, rfl, rfl, ?_⟩
    refine ⟨?_, rfl⟩
    show GV.v (.int .i64 2) = vI _
    unfold act; rw [if_pos (by omega)]; rfl
  · (try simp only [decide_eq_true_eq, decide_eq_false_iff_not, Bool.or_eq_true, Bool.and_eq_true, Bool.or_eq_false_iff, Bool.and_eq_false_iff, bne_iff_ne, beq_iff_eq, beq_eq_false_iff_ne, bne_eq_false_iff_eq, ne_eq, Bool.not_eq_true', Bool.not_eq_false', Int.not_lt, Int.not_le, Decidable.not_not, List.length_map, List.length_cons, List.length_nil] at hq2)
    refine WpG.skip ?_
    change WpG _ _ _ _ _
    refine WpG.seq ?_
    refine WpG.seq ?_
    refine WpG.reg ?_
    refine G.mv rfl ?_
    refine G.mv rfl ?_
    first | refine G.subI rfl rfl (by omega) ?_ | refine G.bin rfl rfl rfl ?_
    first | refine G.nilcB rfl ?_ | refine G.nilcF rfl ?_ | refine G.nilcE rfl ?_ | refine G.nilcFn rfl ?_
    first | refine G.faddrB rfl ?_ | refine G.faddrF rfl ?_ | refine G.faddrE rfl ?_
    first | refine G.aaddrB rfl rfl (by omega) (by omega) ?_ | refine G.aaddrF rfl rfl (by omega) (by omega) ?_
    refine G.load1B rfl rfl (hL_at h0 h1 h2 h3 h4 [_, _] (k - 1) (by omega) (by omega)) ?_
    refine G.mv rfl ?_
    refine WpOpsG.nil ?_
    change WpG _ _ _ _ _
    refine WpG.seq ?_
    refine WpG.reg ?_
    refine G.mv rfl ?_
    refine G.bin rfl rfl rfl ?_
    refine G.mv rfl ?_
    apply G.orS rfl rfl rfl rfl rfl rfl
    case hB =>
      intro hs3
      (try simp only [decide_eq_true_eq, decide_eq_false_iff_not, Bool.or_eq_true, Bool.and_eq_true, Bool.or_eq_false_iff, Bool.and_eq_false_iff, bne_iff_ne, beq_iff_eq, beq_eq_false_iff_ne, bne_eq_false_iff_eq, ne_eq, Bool.not_eq_true', Bool.not_eq_false', Int.not_lt, Int.not_le, Decidable.not_not, List.length_map, List.length_cons, List.length_nil] at hs3)
      refine G.mv rfl ?_
      refine G.bin rfl rfl rfl ?_
      refine WpOpsG.nil ?_
      exact ⟨rfl, (by repeat (first | exact LLe.refl _ | refine LLe.cons rfl ?_)), (by repeat (first | exact HLe.refl _ | refine HLe.cons rfl ?_)), rfl⟩
    refine WpOpsG.nil ?_
    change WpG _ _ _ _ _
    refine WpG.cond rfl (fun hq4 => ?_) (fun hq4 => ?_)
    · (try simp only [decide_eq_true_eq, decide_eq_false_iff_not, Bool.or_eq_true, Bool.and_eq_true, Bool.or_eq_false_iff, Bool.and_eq_false_iff, bne_iff_ne, beq_iff_eq, beq_eq_false_iff_ne, bne_eq_false_iff_eq, ne_eq, Bool.not_eq_true', Bool.not_eq_false', Int.not_lt, Int.not_le, Decidable.not_not, List.length_map, List.length_cons, List.length_nil] at hq4)
      refine WpG.seq ?_
      refine WpG.reg ?_
      refine G.mv rfl ?_
      refine G.mv rfl ?_
      refine WpOpsG.nil ?_
      change WpG _ _ _ _ _
      refine WpG.ret ?_
      refine ⟨_, LH h0 h1 h2 h3 h4 st cs, rfl, (hasP_le (by repeat (first | exact trivial | refine ⟨rfl, ?_⟩))), rfl, rfl, rfl, ?_⟩
      refine ⟨?_, rfl⟩
      unfold act; rw [if_neg (by omega), if_pos (by omega)]; rfl
    · (try simp only [decide_eq_true_eq, decide_eq_false_iff_not, Bool.or_eq_true, Bool.and_eq_true, Bool.or_eq_false_iff, Bool.and_eq_false_iff, bne_iff_ne, beq_iff_eq, beq_eq_false_iff_ne, bne_eq_false_iff_eq, ne_eq, Bool.not_eq_true', Bool.not_eq_false', Int.not_lt, Int.not_le, Decidable.not_not, List.length_map, List.length_cons, List.length_nil] at hq4)
      refine WpG.skip ?_
      change WpG _ _ _ _ _
      refine WpG.seq ?_
      refine WpG.reg ?_
      refine G.mv rfl ?_
      refine WpOpsG.nil ?_
      change WpG _ _ _ _ _
      refine WpG.ret ?_
      refine ⟨_, LH h0 h1 h2 h3 h4 st cs, rfl, (hasP_le (by repeat (first | exact trivial | refine ⟨rfl, ?_⟩))), rfl, rfl, rfl, ?_⟩
      refine ⟨?_, rfl⟩
      show GV.v (.int .i64 2) = vI _
      unfold act; rw [if_neg (by omega), if_neg (by omega)]; rfl
def cnt (k : Int) (l : List Flt) : Nat := l.countP (fun x => x.k == k)
theorem cnt_snoc (k : Int) (l : List Flt) (x : Flt) : cnt k (l ++ [x]) = cnt k l + if x.k = k then 1 else 0 := by
  unfold cnt
  rw [List.countP_append, List.countP_cons, List.countP_nil]
  by_cases h : x.k = k <;> simp [h]
theorem cnt_le (k : Int) (l : List Flt) : cnt k l ≤ l.length := List.countP_le_length
theorem cnt_take (k : Int) (l : List Flt) (i : Nat) (h : i < l.length) : cnt k (l.take (i + 1)) = cnt k (l.take i) + if l[i].k = k then 1 else 0 := by
  rw [List.take_succ_eq_append_getElem h, cnt_snoc]

def af11 : AFunc := ⟨2, [(.tmp 4)], (.seq (.reg 0 false [⟨(some 4), (.mv (.c (.v (.int .i64 0)))), none⟩]) (.seq (.reg 1 false [⟨(some 5), (.mv (.c (.v (.int .i64 0)))), none⟩]) (.seq (.seq (.reg 2 false [⟨(some 8), (.mv (.t 0)), none⟩, ⟨(some 9), (.nilc (.t 8)), none⟩, ⟨(some 10), (.faddr 5 (.t 9)), none⟩, ⟨(some 11), (.load1 (.t 10)), none⟩, ⟨(some 12), (.len false (.t 11)), none⟩, ⟨(some 13), (.mv (.c (.v (.int .i64 0)))), none⟩]) (.block 0 (.loop (.seq (.reg 3 false [⟨(some 14), (.bin .lss (.t 13) (.t 12)), none⟩]) (.seq (.cond (.t 14) .skip (.exit 0)) (.seq (.block 1 (.seq (.reg 4 false [⟨(some 15), (.iaddr 3 (.t 11) (.t 13)), none⟩, ⟨(some 16), (.loadN 3 (.t 15)), none⟩, ⟨(some 7), (.box (.c (.agg [(.v (.int .i64 0)), (.v (.int .i64 0)), (.v (.int .i64 0))]))), none⟩, ⟨none, (.store 3 (.t 7) (.t 16)), none⟩]) (.seq (.reg 5 false [⟨(some 17), (.faddr 2 (.t 7)), none⟩, ⟨(some 18), (.load1 (.t 17)), none⟩, ⟨(some 19), (.mv (.t 1)), none⟩, ⟨(some 20), (.bin .eql (.t 18) (.t 19)), none⟩]) (.cond (.t 20) (.reg 6 false [⟨(some 21), (.mv (.t 5)), none⟩, ⟨(some 22), (.bin .add (.t 21) (.c (.v (.int .i64 1)))), none⟩, ⟨(some 5), (.mv (.t 22)), none⟩]) .skip)))) (.reg 7 false [⟨(some 23), (.bin .add (.t 13) (.c (.v (.int .i64 1)))), none⟩, ⟨(some 13), (.mv (.t 23)), none⟩]))))))) (.seq (.reg 8 false [⟨(some 24), (.mv (.t 5)), none⟩, ⟨(some 4), (.mv (.t 24)), none⟩]) .ret))))⟩

theorem count_ok {A : AProg} (hA : A.get 11 = some af11) (h0 h1 h2 h3 h4 : Int) (st : Bool) (l : List Flt) (kd : Int) (hl : l.length ≤ 2 ^ 40)  : WpCallG A 11 [.bptr 1 0, .v (.int .i64 kd)] (LH h0 h1 h2 h3 h4 st (l.map encF)) (fun v H => v = vI (cnt kd l) ∧ H = LH h0 h1 h2 h3 h4 st (l.map encF)) := by
  refine WpCallG.intro hA rfl rfl ?_
  unfold af11
  change WpG _ _ _ _ _
  refine WpG.seq ?_
  refine WpG.reg ?_
  refine G.mv rfl ?_
  refine WpOpsG.nil ?_
  change WpG _ _ _ _ _
  refine WpG.seq ?_
  refine WpG.reg ?_
  refine G.mv rfl ?_
  refine WpOpsG.nil ?_
  change WpG _ _ _ _ _
  refine WpG.seq ?_
  refine WpG.seq ?_
  refine WpG.reg ?_
  refine G.mv rfl ?_
  first | refine G.nilcB rfl ?_ | refine G.nilcF rfl ?_ | refine G.nilcE rfl ?_ | refine G.nilcFn rfl ?_
  first | refine G.faddrB rfl ?_ | refine G.faddrF rfl ?_ | refine G.faddrE rfl ?_
  first | refine G.load1B rfl rfl rfl ?_ | refine G.load1F rfl rfl ?_ | refine G.load1E rfl rfl (List.getElem?_eq_getElem (by first | omega | (simp only [List.length_map, List.length_append, List.length_cons, List.length_nil, List.length_replicate, List.length_take, List.length_drop, List.length_set]; omega))) rfl ?_ | refine G.load1EM rfl rfl (List.getElem?_eq_getElem (by first | omega | (simp only [List.length_map, List.length_append, List.length_cons, List.length_nil, List.length_replicate, List.length_take, List.length_drop, List.length_set]; omega))) rfl ?_
  first | refine G.lenM rfl ?_ | refine G.lenOM rfl rfl ?_ | refine G.lenF rfl ?_ | refine G.lenO rfl rfl ?_ | refine G.lenNil rfl ?_
  refine G.mv rfl ?_
  refine WpOpsG.nil ?_
  change WpG _ _ _ _ _
  refine WpG.block ?_
  refine WpG.loop (S := Nat) (fun i => [(5, .v (.int .i64 (cnt kd (l.take i)))), (11, .osl 2), (12, .v (.int .i64 l.length)), (13, .v (.int .i64 i)), (1, .v (.int .i64 kd))]) (fun _ => LH h0 h1 h2 h3 h4 st (l.map encF)) (fun i => i ≤ l.length) (fun i => l.length - i) (fun s => ⟨rfl, rfl⟩) ?_ 0 ?_ (by repeat (first | exact trivial | refine ⟨rfl, ?_⟩)) (by repeat (first | exact trivial | refine ⟨rfl, ?_⟩)) rfl
  · intro i hI
    have hc := cnt_le kd (l.take i)
    rw [List.length_take] at hc
    refine WpG.seq ?_
    refine WpG.reg ?_
    refine G.bin rfl rfl rfl ?_
    refine WpOpsG.nil ?_
    change WpG _ _ _ _ _
    refine WpG.seq ?_
    refine WpG.cond rfl (fun hq1 => ?_) (fun hq1 => ?_)
    · (try simp only [decide_eq_true_eq, decide_eq_false_iff_not, Bool.or_eq_true, Bool.and_eq_true, Bool.or_eq_false_iff, Bool.and_eq_false_iff, bne_iff_ne, beq_iff_eq, beq_eq_false_iff_ne, bne_eq_false_iff_eq, ne_eq, Bool.not_eq_true', Bool.not_eq_false', Int.not_lt, Int.not_le, Decidable.not_not, List.length_map, List.length_cons, List.length_nil] at hq1)
      refine WpG.skip ?_
      change WpG _ _ _ _ _
      refine WpG.seq ?_
      refine WpG.block ?_
      refine WpG.seq ?_
      refine WpG.reg ?_
      first | refine G.iaddrN rfl rfl (List.getElem?_eq_getElem (by first | omega | (simp only [List.length_map, List.length_append, List.length_cons, List.length_nil, List.length_replicate, List.length_take, List.length_drop, List.length_set]; omega))) ?_ | refine G.iaddrM rfl rfl (by omega) (List.getElem?_eq_getElem (by first | omega | (simp only [List.length_map, List.length_append, List.length_cons, List.length_nil, List.length_replicate, List.length_take, List.length_drop, List.length_set]; omega))) ?_ | refine G.iaddrF rfl rfl (by omega) rfl ?_ | refine G.iaddrO rfl rfl rfl (by omega) (by first | omega | (simp only [List.length_map, List.length_append, List.length_cons, List.length_nil, List.length_replicate, List.length_take, List.length_drop, List.length_set]; omega)) ?_ | refine G.iaddrF rfl rfl (by omega) (List.getElem?_eq_getElem (by first | omega | (simp only [List.length_map, List.length_append, List.length_cons, List.length_nil, List.length_replicate, List.length_take, List.length_drop, List.length_set]; omega))) ?_
      first | refine G.loadNB rfl rfl rfl ?_ | refine G.loadNF rfl rfl ?_ | refine G.loadNEM rfl rfl (List.getElem?_eq_getElem (by first | omega | (simp only [List.length_map, List.length_append, List.length_cons, List.length_nil, List.length_replicate, List.length_take, List.length_drop, List.length_set]; omega))) rfl ?_
      refine G.box (g := 10) rfl rfl rfl ?_
      first | refine G.storeB rfl rfl rfl rfl rfl rfl ?_ | refine G.storeEM rfl rfl rfl (List.getElem?_eq_getElem (by first | omega | (simp only [List.length_map, List.length_append, List.length_cons, List.length_nil, List.length_replicate, List.length_take, List.length_drop, List.length_set]; omega))) rfl rfl rfl rfl rfl ?_
      refine WpOpsG.nil ?_
      change WpG _ _ _ _ _
      refine WpG.seq ?_
      refine WpG.reg ?_
      first | refine G.faddrB rfl ?_ | refine G.faddrF rfl ?_ | refine G.faddrE rfl ?_
      first | refine G.load1B rfl rfl rfl ?_ | refine G.load1F rfl rfl ?_ | refine G.load1E rfl rfl (List.getElem?_eq_getElem (by first | omega | (simp only [List.length_map, List.length_append, List.length_cons, List.length_nil, List.length_replicate, List.length_take, List.length_drop, List.length_set]; omega))) rfl ?_ | refine G.load1EM rfl rfl (List.getElem?_eq_getElem (by first | omega | (simp only [List.length_map, List.length_append, List.length_cons, List.length_nil, List.length_replicate, List.length_take, List.length_drop, List.length_set]; omega))) rfl ?_
      refine G.mv rfl ?_
      refine G.bin rfl rfl rfl ?_
      refine WpOpsG.nil ?_
      change WpG _ _ _ _ _
      refine WpG.cond rfl (fun hq2 => ?_) (fun hq2 => ?_)
      · (try simp only [decide_eq_true_eq, decide_eq_false_iff_not, Bool.or_eq_true, Bool.and_eq_true, Bool.or_eq_false_iff, Bool.and_eq_false_iff, bne_iff_ne, beq_iff_eq, beq_eq_false_iff_ne, bne_eq_false_iff_eq, ne_eq, Bool.not_eq_true', Bool.not_eq_false', Int.not_lt, Int.not_le, Decidable.not_not, List.length_map, List.length_cons, List.length_nil] at hq2)
        refine WpG.reg ?_
        refine G.mv rfl ?_
        first | refine G.addI rfl rfl (by omega) ?_ | refine G.bin rfl rfl rfl ?_
        refine G.mv rfl ?_
        refine WpOpsG.nil ?_
        change WpG _ _ _ _ _
        refine WpG.reg ?_
        first | refine G.addI rfl rfl (by omega) ?_ | refine G.bin rfl rfl rfl ?_
        refine G.mv rfl ?_
        refine WpOpsG.nil ?_
        have hct := cnt_take kd l i (by omega)
        refine ⟨i + 1, by omega, by omega, ⟨?_, rfl, rfl, rfl, rfl, trivial⟩, (by repeat (first | exact trivial | refine ⟨rfl, ?_⟩)), rfl⟩
        first | (rw [if_pos (by assumption)] at hct; rw [hct]; rfl) | (rw [if_neg (by assumption)] at hct; rw [hct]; rfl)
      · (try simp only [decide_eq_true_eq, decide_eq_false_iff_not, Bool.or_eq_true, Bool.and_eq_true, Bool.or_eq_false_iff, Bool.and_eq_false_iff, bne_iff_ne, beq_iff_eq, beq_eq_false_iff_ne, bne_eq_false_iff_eq, ne_eq, Bool.not_eq_true', Bool.not_eq_false', Int.not_lt, Int.not_le, Decidable.not_not, List.length_map, List.length_cons, List.length_nil] at hq2)
        refine WpG.skip ?_
        change WpG _ _ _ _ _
        refine WpG.reg ?_
        first | refine G.addI rfl rfl (by omega) ?_ | refine G.bin rfl rfl rfl ?_
        refine G.mv rfl ?_
        refine WpOpsG.nil ?_
        have hct := cnt_take kd l i (by omega)
        refine ⟨i + 1, by omega, by omega, ⟨?_, rfl, rfl, rfl, rfl, trivial⟩, (by repeat (first | exact trivial | refine ⟨rfl, ?_⟩)), rfl⟩
        first | (rw [if_pos (by assumption)] at hct; rw [hct]; rfl) | (rw [if_neg (by assumption)] at hct; rw [hct]; rfl)
    · (try simp only [decide_eq_true_eq, decide_eq_false_iff_not, Bool.or_eq_true, Bool.and_eq_true, Bool.or_eq_false_iff, Bool.and_eq_false_iff, bne_iff_ne, beq_iff_eq, beq_eq_false_iff_ne, bne_eq_false_iff_eq, ne_eq, Bool.not_eq_true', Bool.not_eq_false', Int.not_lt, Int.not_le, Decidable.not_not, List.length_map, List.length_cons, List.length_nil] at hq1)
      refine WpG.exit ?_
      change WpG _ _ _ _ _
      refine WpG.seq ?_
      refine WpG.reg ?_
      refine G.mv rfl ?_
      refine G.mv rfl ?_
      refine WpOpsG.nil ?_
      change WpG _ _ _ _ _
      refine WpG.ret ?_
      refine ⟨_, LH h0 h1 h2 h3 h4 st (l.map encF), rfl, (hasP_le (by repeat (first | exact trivial | refine ⟨rfl, ?_⟩))), rfl, rfl, rfl, ?_⟩
      have hi : i = l.length := by omega
      subst hi
      rw [List.take_length]
      exact ⟨rfl, rfl⟩
  · exact Nat.zero_le _
def af14 : AFunc := ⟨1, [(.tmp 2)], (.seq (.reg 0 false [⟨(some 2), (.mv (.c (.v (.slice none 0 0)))), none⟩]) (.seq (.seq (.reg 1 false [⟨(some 3), (.mv (.t 0)), none⟩, ⟨(some 4), (.eqnil false true (.t 3)), none⟩]) (.cond (.t 4) (.seq (.reg 2 false [⟨(some 2), (.mv (.c (.v (.slice none 0 0)))), none⟩]) .ret) .skip)) (.seq (.reg 3 false [⟨(some 5), (.bslice 3 0 [] []), none⟩, ⟨(some 6), (.mv (.t 0)), none⟩, ⟨(some 7), (.app 3 24 (.t 5) (.t 6)), none⟩, ⟨(some 2), (.mv (.t 7)), none⟩]) .ret)))⟩

theorem clone_ok {A : AProg} (hA : A.get 14 = some af14) (h0 h1 h2 h3 h4 : Int) (st : Bool) (cs : List (List GV)) (hl : cs.length ≤ 2 ^ 40)  : WpCallG A 14 [.osl 2] (LH h0 h1 h2 h3 h4 st cs) (fun v H => v = .fsl 3 cs ∧ H = LH h0 h1 h2 h3 h4 st cs) := by
  refine WpCallG.intro hA rfl rfl ?_
  unfold af14
  change WpG _ _ _ _ _
  refine WpG.seq ?_
  refine WpG.reg ?_
  refine G.mv rfl ?_
  refine WpOpsG.nil ?_
  change WpG _ _ _ _ _
  refine WpG.seq ?_
  refine WpG.seq ?_
  refine WpG.reg ?_
  refine G.mv rfl ?_
  refine G.eqnilO rfl rfl (fun q hq => ?_)
  refine WpOpsG.nil ?_
  change WpG _ _ _ _ _
  refine WpG.cond rfl (fun hq1 => ?_) (fun hq1 => ?_)
  · (try simp only [decide_eq_true_eq, decide_eq_false_iff_not, Bool.or_eq_true, Bool.and_eq_true, Bool.or_eq_false_iff, Bool.and_eq_false_iff, bne_iff_ne, beq_iff_eq, beq_eq_false_iff_ne, bne_eq_false_iff_eq, ne_eq, Bool.not_eq_true', Bool.not_eq_false', Int.not_lt, Int.not_le, Decidable.not_not, List.length_map, List.length_cons, List.length_nil] at hq1)
    have hcs : cs = [] := hq (by simpa using hq1)
    subst hcs
    refine WpG.seq ?_
    refine WpG.reg ?_
    refine G.mv rfl ?_
    refine WpOpsG.nil ?_
    change WpG _ _ _ _ _
    refine WpG.ownNil (g := 20) (k := 2) (w := 3) rfl rfl ?_
    refine WpG.freeze 20 rfl ?_
    refine WpG.ret ?_
    refine ⟨_, LH h0 h1 h2 h3 h4 st [], rfl, (hasP_le (by repeat (first | exact trivial | refine ⟨rfl, ?_⟩))), rfl, rfl, rfl, ?_⟩
    exact ⟨rfl, rfl⟩
  · (try simp only [decide_eq_true_eq, decide_eq_false_iff_not, Bool.or_eq_true, Bool.and_eq_true, Bool.or_eq_false_iff, Bool.and_eq_false_iff, bne_iff_ne, beq_iff_eq, beq_eq_false_iff_ne, bne_eq_false_iff_eq, ne_eq, Bool.not_eq_true', Bool.not_eq_false', Int.not_lt, Int.not_le, Decidable.not_not, List.length_map, List.length_cons, List.length_nil] at hq1)
    refine WpG.skip ?_
    change WpG _ _ _ _ _
    refine WpG.seq ?_
    refine WpG.reg ?_
    refine G.bslice (g := 10) rfl rfl rfl rfl ?_
    refine G.mv rfl ?_
    refine G.app rfl rfl rfl rfl (.inl rfl) (by show (0 + cs.length) * 24 ≤ 2 ^ 47; omega) ?_
    refine G.mv rfl ?_
    refine WpOpsG.nil ?_
    change WpG _ _ _ _ _
    refine WpG.freeze 10 rfl ?_
    refine WpG.ret ?_
    refine ⟨_, LH h0 h1 h2 h3 h4 st cs, rfl, (hasP_le (by repeat (first | exact trivial | refine ⟨rfl, ?_⟩))), rfl, rfl, rfl, ?_⟩
    exact ⟨rfl, rfl⟩
def af12 : AFunc := ⟨1, [(.tmp 2)], (.seq (.reg 0 false [⟨(some 2), (.mv (.c (.v (.slice none 0 0)))), none⟩]) (.seq (.reg 1 false [⟨(some 3), (.mv (.t 0)), none⟩, ⟨(some 4), (.nilc (.t 3)), none⟩, ⟨(some 5), (.faddr 5 (.t 4)), none⟩, ⟨(some 6), (.load1 (.t 5)), none⟩, ⟨(some 7), (.call 14 [(.t 6)]), none⟩, ⟨(some 2), (.mv (.t 7)), none⟩]) .ret))⟩

theorem all_ok {A : AProg} (hA : A.get 12 = some af12) (h14 : A.get 14 = some af14) (h0 h1 h2 h3 h4 : Int) (st : Bool) (cs : List (List GV)) (hl : cs.length ≤ 2 ^ 40)  : WpCallG A 12 [.bptr 1 0] (LH h0 h1 h2 h3 h4 st cs) (fun v H => v = .fsl 3 cs ∧ H = LH h0 h1 h2 h3 h4 st cs) := by
  refine WpCallG.intro hA rfl rfl ?_
  unfold af12
  change WpG _ _ _ _ _
  refine WpG.seq ?_
  refine WpG.reg ?_
  refine G.mv rfl ?_
  refine WpOpsG.nil ?_
  change WpG _ _ _ _ _
  refine WpG.seq ?_
  refine WpG.reg ?_
  refine G.mv rfl ?_
  first | refine G.nilcB rfl ?_ | refine G.nilcF rfl ?_ | refine G.nilcE rfl ?_ | refine G.nilcFn rfl ?_
  first | refine G.faddrB rfl ?_ | refine G.faddrF rfl ?_ | refine G.faddrE rfl ?_
  first | refine G.load1B rfl rfl rfl ?_ | refine G.load1F rfl rfl ?_ | refine G.load1E rfl rfl (List.getElem?_eq_getElem (by first | omega | (simp only [List.length_map, List.length_append, List.length_cons, List.length_nil, List.length_replicate, List.length_take, List.length_drop, List.length_set]; omega))) rfl ?_ | refine G.load1EM rfl rfl (List.getElem?_eq_getElem (by first | omega | (simp only [List.length_map, List.length_append, List.length_cons, List.length_nil, List.length_replicate, List.length_take, List.length_drop, List.length_set]; omega))) rfl ?_
  refine G.call (P := LH h0 h1 h2 h3 h4 st cs) rfl (by repeat (first | exact trivial | refine ⟨rfl, ?_⟩)) rfl rfl (clone_ok h14 h0 h1 h2 h3 h4 st cs hl) ?_
  rintro _ _ ⟨rfl, rfl⟩
  refine ⟨rfl, ?_⟩
  change WpOpsG _ _ ((7, _) :: _) _ _
  refine G.mv rfl ?_
  refine WpOpsG.nil ?_
  change WpG _ _ _ _ _
  refine WpG.ret ?_
  refine ⟨_, LH h0 h1 h2 h3 h4 st cs, rfl, (hasP_le (by repeat (first | exact trivial | refine ⟨rfl, ?_⟩))), rfl, rfl, rfl, ?_⟩
  exact ⟨rfl, rfl⟩
def af10 : AFunc := ⟨4, [(.tmp 8)], (.seq (.reg 0 false [⟨(some 8), (.mv (.c (.v (.int .i64 0)))), none⟩]) (.seq (.seq (.reg 1 false [⟨(some 10), (.mv (.t 0)), none⟩, ⟨(some 11), (.nilc (.t 10)), none⟩, ⟨(some 12), (.faddr 6 (.t 11)), none⟩, ⟨(some 13), (.load1 (.t 12)), none⟩]) (.cond (.t 13) (.seq (.reg 2 false [⟨(some 8), (.mv (.c (.v (.int .i64 (-(0+1)))))), none⟩]) .ret) .skip)) (.seq (.reg 3 false [⟨(some 14), (.mv (.t 0)), none⟩, ⟨(some 15), (.mv (.t 0)), none⟩, ⟨(some 16), (.nilc (.t 15)), none⟩, ⟨(some 17), (.faddr 5 (.t 16)), none⟩, ⟨(some 18), (.load1 (.t 17)), none⟩, ⟨(some 19), (.mv (.t 1)), none⟩, ⟨(some 20), (.mv (.t 2)), none⟩, ⟨(some 21), (.mv (.t 3)), none⟩, ⟨(some 22), (.build [(.v (.int .i64 0)), (.v (.int .i64 0)), (.v (.int .i64 0))] [(0, (1, (.t 19))), (1, (1, (.t 20))), (2, (1, (.t 21)))]), none⟩, ⟨(some 23), (.bslice 3 1 [(.v (.int .i64 0)), (.v (.int .i64 0)), (.v (.int .i64 0))] [(0, (3, (.t 22)))]), none⟩, ⟨(some 24), (.app 3 24 (.t 18) (.t 23)), none⟩, ⟨(some 25), (.nilc (.t 14)), none⟩, ⟨(some 26), (.faddr 5 (.t 25)), none⟩, ⟨none, (.store 1 (.t 26) (.t 24)), none⟩]) (.seq (.reg 4 false [⟨(some 27), (.mv (.t 0)), none⟩, ⟨(some 28), (.mv (.t 3)), none⟩, ⟨(some 29), (.call 13 [(.t 27), (.t 28)]), none⟩, ⟨(some 9), (.mv (.t 29)), none⟩]) (.seq (.reg 5 false [⟨(some 30), (.mv (.t 0)), none⟩, ⟨(some 31), (.mv (.t 9)), none⟩, ⟨(some 32), (.bin .eql (.t 31) (.c (.v (.int .i64 2)))), none⟩, ⟨(some 33), (.nilc (.t 30)), none⟩, ⟨(some 34), (.faddr 6 (.t 33)), none⟩, ⟨none, (.store 1 (.t 34) (.t 32)), none⟩]) (.seq (.reg 6 false [⟨(some 35), (.mv (.t 9)), none⟩, ⟨(some 8), (.mv (.t 35)), none⟩]) .ret))))))⟩

theorem tell_ok {A : AProg} (hA : A.get 10 = some af10) (h13 : A.get 13 = some af13) (h0 h1 h2 h3 h4 : Int) (st : Bool) (cs : List (List GV)) (t p k : Int) (hk : i64 k) (hl : cs.length ≤ 2 ^ 40)  : WpCallG A 10 [.bptr 1 0, .v (.int .i64 t), .v (.int .i64 p), .v (.int .i64 k)] (LH h0 h1 h2 h3 h4 st cs) (fun v H => v = vI (bif st then -1 else act h0 h1 h2 h3 h4 k) ∧ H = LH h0 h1 h2 h3 h4 (bif st then true else act h0 h1 h2 h3 h4 k == 2) (bif st then cs else cs ++ [encF ⟨t, p, k⟩])) := by
  refine WpCallG.intro hA rfl rfl ?_
  unfold af10
  change WpG _ _ _ _ _
  refine WpG.seq ?_
  refine WpG.reg ?_
  refine G.mv rfl ?_
  refine WpOpsG.nil ?_
  change WpG _ _ _ _ _
  refine WpG.seq ?_
  refine WpG.seq ?_
  refine WpG.reg ?_
  refine G.mv rfl ?_
  first | refine G.nilcB rfl ?_ | refine G.nilcF rfl ?_ | refine G.nilcE rfl ?_ | refine G.nilcFn rfl ?_
  first | refine G.faddrB rfl ?_ | refine G.faddrF rfl ?_ | refine G.faddrE rfl ?_
  first | refine G.load1B rfl rfl rfl ?_ | refine G.load1F rfl rfl ?_ | refine G.load1E rfl rfl (List.getElem?_eq_getElem (by first | omega | (simp only [List.length_map, List.length_append, List.length_cons, List.length_nil, List.length_replicate, List.length_take, List.length_drop, List.length_set]; omega))) rfl ?_ | refine G.load1EM rfl rfl (List.getElem?_eq_getElem (by first | omega | (simp only [List.length_map, List.length_append, List.length_cons, List.length_nil, List.length_replicate, List.length_take, List.length_drop, List.length_set]; omega))) rfl ?_
  refine WpOpsG.nil ?_
  change WpG _ _ _ _ _
  refine WpG.cond rfl (fun hq1 => ?_) (fun hq1 => ?_)
  · (try simp only [decide_eq_true_eq, decide_eq_false_iff_not, Bool.or_eq_true, Bool.and_eq_true, Bool.or_eq_false_iff, Bool.and_eq_false_iff, bne_iff_ne, beq_iff_eq, beq_eq_false_iff_ne, bne_eq_false_iff_eq, ne_eq, Bool.not_eq_true', Bool.not_eq_false', Int.not_lt, Int.not_le, Decidable.not_not, List.length_map, List.length_cons, List.length_nil] at hq1)
    subst hq1
    refine WpG.seq ?_
    refine WpG.reg ?_
    refine G.mv rfl ?_
    refine WpOpsG.nil ?_
    change WpG _ _ _ _ _
    refine WpG.ret ?_
    refine ⟨_, LH h0 h1 h2 h3 h4 true cs, rfl, (hasP_le (by repeat (first | exact trivial | refine ⟨rfl, ?_⟩))), rfl, rfl, rfl, ?_⟩
    exact ⟨rfl, rfl⟩
  · (try simp only [decide_eq_true_eq, decide_eq_false_iff_not, Bool.or_eq_true, Bool.and_eq_true, Bool.or_eq_false_iff, Bool.and_eq_false_iff, bne_iff_ne, beq_iff_eq, beq_eq_false_iff_ne, bne_eq_false_iff_eq, ne_eq, Bool.not_eq_true', Bool.not_eq_false', Int.not_lt, Int.not_le, Decidable.not_not, List.length_map, List.length_cons, List.length_nil] at hq1)
    subst hq1
    refine WpG.skip ?_
    change WpG _ _ _ _ _
    refine WpG.seq ?_
    refine WpG.reg ?_
    refine G.mv rfl ?_
    refine G.mv rfl ?_
    first | refine G.nilcB rfl ?_ | refine G.nilcF rfl ?_ | refine G.nilcE rfl ?_ | refine G.nilcFn rfl ?_
    first | refine G.faddrB rfl ?_ | refine G.faddrF rfl ?_ | refine G.faddrE rfl ?_
    first | refine G.load1B rfl rfl rfl ?_ | refine G.load1F rfl rfl ?_ | refine G.load1E rfl rfl (List.getElem?_eq_getElem (by first | omega | (simp only [List.length_map, List.length_append, List.length_cons, List.length_nil, List.length_replicate, List.length_take, List.length_drop, List.length_set]; omega))) rfl ?_ | refine G.load1EM rfl rfl (List.getElem?_eq_getElem (by first | omega | (simp only [List.length_map, List.length_append, List.length_cons, List.length_nil, List.length_replicate, List.length_take, List.length_drop, List.length_set]; omega))) rfl ?_
    refine G.mv rfl ?_
    refine G.mv rfl ?_
    refine G.mv rfl ?_
    refine G.build rfl ?_
    refine G.bsliceF rfl rfl rfl ?_
    refine G.app rfl rfl rfl rfl (.inl rfl) (by show (cs.length + 1) * 24 ≤ 2 ^ 47; omega) ?_
    first | refine G.nilcB rfl ?_ | refine G.nilcF rfl ?_ | refine G.nilcE rfl ?_ | refine G.nilcFn rfl ?_
    first | refine G.faddrB rfl ?_ | refine G.faddrF rfl ?_ | refine G.faddrE rfl ?_
    first | refine G.storeB rfl rfl rfl rfl rfl rfl ?_ | refine G.storeEM rfl rfl rfl (List.getElem?_eq_getElem (by first | omega | (simp only [List.length_map, List.length_append, List.length_cons, List.length_nil, List.length_replicate, List.length_take, List.length_drop, List.length_set]; omega))) rfl rfl rfl rfl rfl ?_
    refine WpOpsG.nil ?_
    change WpG _ _ _ _ _
    refine WpG.seq ?_
    refine WpG.reg ?_
    refine G.mv rfl ?_
    refine G.mv rfl ?_
    refine G.call (P := LH h0 h1 h2 h3 h4 false (cs ++ [encF ⟨t, p, k⟩])) rfl (by repeat (first | exact trivial | refine ⟨rfl, ?_⟩)) rfl rfl (action_ok h13 h0 h1 h2 h3 h4 false _ k hk) ?_
    rintro _ _ ⟨rfl, rfl⟩
    refine ⟨rfl, ?_⟩
    change WpOpsG _ _ ((29, _) :: _) _ _
    refine G.mv rfl ?_
    refine WpOpsG.nil ?_
    change WpG _ _ _ _ _
    refine WpG.seq ?_
    refine WpG.reg ?_
    refine G.mv rfl ?_
    refine G.mv rfl ?_
    refine G.bin rfl rfl rfl ?_
    first | refine G.nilcB rfl ?_ | refine G.nilcF rfl ?_ | refine G.nilcE rfl ?_ | refine G.nilcFn rfl ?_
    first | refine G.faddrB rfl ?_ | refine G.faddrF rfl ?_ | refine G.faddrE rfl ?_
    first | refine G.storeB rfl rfl rfl rfl rfl rfl ?_ | refine G.storeEM rfl rfl rfl (List.getElem?_eq_getElem (by first | omega | (simp only [List.length_map, List.length_append, List.length_cons, List.length_nil, List.length_replicate, List.length_take, List.length_drop, List.length_set]; omega))) rfl rfl rfl rfl rfl ?_
    refine WpOpsG.nil ?_
    change WpG _ _ _ _ _
    refine WpG.seq ?_
    refine WpG.reg ?_
    refine G.mv rfl ?_
    refine G.mv rfl ?_
    refine WpOpsG.nil ?_
    change WpG _ _ _ _ _
    refine WpG.ret ?_
    refine ⟨_, LH h0 h1 h2 h3 h4 (act h0 h1 h2 h3 h4 k == 2) (cs ++ [encF ⟨t, p, k⟩]), rfl, (hasP_le (by repeat (first | exact trivial | refine ⟨rfl, ?_⟩))), rfl, rfl, rfl, ?_⟩
    exact ⟨rfl, rfl⟩
abbrev LN (a b : Nat) (h0 h1 h2 h3 h4 : Int) (st : Bool) (cs : List (List GV)) : GHp := [(a, .box [vI h0, vI h1, vI h2, vI h3, vI h4, .osl b, .v (.bool st)]), (b, .arr true 3 cs)]
theorem new31 {A : AProg} (hA : A.get 8 = some af8) (h0 h1 h2 h3 h4 : Int)  : WpCallG A 8 [.agg [vI h0, vI h1, vI h2, vI h3, vI h4]] ([]) (fun v H => v = .bptr 31 0 ∧ H = LN 31 32 h0 h1 h2 h3 h4 false []) :=
  ((new_ok hA h0 h1 h2 h3 h4).ren [(1, 31), (2, 32)]).mono fun v H ⟨_, _, ⟨k1, k2⟩, e1, e2⟩ => by subst k1; subst k2; exact ⟨e1, e2⟩
theorem stopped31 {A : AProg} (hA : A.get 9 = some af9) (h0 h1 h2 h3 h4 : Int) (st : Bool) (cs : List (List GV)) : WpCallG A 9 [.bptr 31 0] (LN 31 32 h0 h1 h2 h3 h4 st cs) (fun v H => v = .v (.bool st) ∧ H = LN 31 32 h0 h1 h2 h3 h4 st cs) :=
  ((stopped_ok hA h0 h1 h2 h3 h4 st cs).ren [(1, 31), (2, 32)]).mono fun v H ⟨_, _, ⟨k1, k2⟩, e1, e2⟩ => by subst k1; subst k2; exact ⟨e1, e2⟩
theorem count31 {A : AProg} (hA : A.get 11 = some af11) (h0 h1 h2 h3 h4 : Int) (st : Bool) (l : List Flt) (kd : Int) (hl : l.length ≤ 2 ^ 40) : WpCallG A 11 [.bptr 31 0, .v (.int .i64 kd)] (LN 31 32 h0 h1 h2 h3 h4 st (l.map encF)) (fun v H => v = vI (cnt kd l) ∧ H = LN 31 32 h0 h1 h2 h3 h4 st (l.map encF)) :=
  ((count_ok hA h0 h1 h2 h3 h4 st l kd hl).ren [(1, 31), (2, 32)]).mono fun v H ⟨_, _, ⟨k1, k2⟩, e1, e2⟩ => by subst k1; subst k2; exact ⟨e1, e2⟩
theorem all31 {A : AProg} (hA : A.get 12 = some af12) (h14 : A.get 14 = some af14) (h0 h1 h2 h3 h4 : Int) (st : Bool) (cs : List (List GV)) (hl : cs.length ≤ 2 ^ 40) : WpCallG A 12 [.bptr 31 0] (LN 31 32 h0 h1 h2 h3 h4 st cs) (fun v H => v = .fsl 3 cs ∧ H = LN 31 32 h0 h1 h2 h3 h4 st cs) :=
  ((all_ok hA h14 h0 h1 h2 h3 h4 st cs hl).ren [(1, 31), (2, 32)]).mono fun v H ⟨_, _, ⟨k1, k2⟩, e1, e2⟩ => by subst k1; subst k2; exact ⟨e1, e2⟩
theorem tell31 {A : AProg} (hA : A.get 10 = some af10) (h13 : A.get 13 = some af13) (h0 h1 h2 h3 h4 : Int) (st : Bool) (cs : List (List GV)) (t p k : Int) (hk : i64 k) (hl : cs.length ≤ 2 ^ 40) : WpCallG A 10 [.bptr 31 0, .v (.int .i64 t), .v (.int .i64 p), .v (.int .i64 k)] (LN 31 32 h0 h1 h2 h3 h4 st cs) (fun v H => v = vI (bif st then -1 else act h0 h1 h2 h3 h4 k) ∧ H = LN 31 32 h0 h1 h2 h3 h4 (bif st then true else act h0 h1 h2 h3 h4 k == 2) (bif st then cs else cs ++ [encF ⟨t, p, k⟩])) :=
  ((tell_ok hA h13 h0 h1 h2 h3 h4 st cs t p k hk hl).ren [(1, 31), (2, 32)]).mono fun v H ⟨_, _, ⟨k1, k2⟩, e1, e2⟩ => by subst k1; subst k2; exact ⟨e1, e2⟩
theorem new33 {A : AProg} (hA : A.get 8 = some af8) (h0 h1 h2 h3 h4 : Int)  : WpCallG A 8 [.agg [vI h0, vI h1, vI h2, vI h3, vI h4]] ([]) (fun v H => v = .bptr 33 0 ∧ H = LN 33 34 h0 h1 h2 h3 h4 false []) :=
  ((new_ok hA h0 h1 h2 h3 h4).ren [(1, 33), (2, 34)]).mono fun v H ⟨_, _, ⟨k1, k2⟩, e1, e2⟩ => by subst k1; subst k2; exact ⟨e1, e2⟩
theorem stopped33 {A : AProg} (hA : A.get 9 = some af9) (h0 h1 h2 h3 h4 : Int) (st : Bool) (cs : List (List GV)) : WpCallG A 9 [.bptr 33 0] (LN 33 34 h0 h1 h2 h3 h4 st cs) (fun v H => v = .v (.bool st) ∧ H = LN 33 34 h0 h1 h2 h3 h4 st cs) :=
  ((stopped_ok hA h0 h1 h2 h3 h4 st cs).ren [(1, 33), (2, 34)]).mono fun v H ⟨_, _, ⟨k1, k2⟩, e1, e2⟩ => by subst k1; subst k2; exact ⟨e1, e2⟩
theorem count33 {A : AProg} (hA : A.get 11 = some af11) (h0 h1 h2 h3 h4 : Int) (st : Bool) (l : List Flt) (kd : Int) (hl : l.length ≤ 2 ^ 40) : WpCallG A 11 [.bptr 33 0, .v (.int .i64 kd)] (LN 33 34 h0 h1 h2 h3 h4 st (l.map encF)) (fun v H => v = vI (cnt kd l) ∧ H = LN 33 34 h0 h1 h2 h3 h4 st (l.map encF)) :=
  ((count_ok hA h0 h1 h2 h3 h4 st l kd hl).ren [(1, 33), (2, 34)]).mono fun v H ⟨_, _, ⟨k1, k2⟩, e1, e2⟩ => by subst k1; subst k2; exact ⟨e1, e2⟩
theorem all33 {A : AProg} (hA : A.get 12 = some af12) (h14 : A.get 14 = some af14) (h0 h1 h2 h3 h4 : Int) (st : Bool) (cs : List (List GV)) (hl : cs.length ≤ 2 ^ 40) : WpCallG A 12 [.bptr 33 0] (LN 33 34 h0 h1 h2 h3 h4 st cs) (fun v H => v = .fsl 3 cs ∧ H = LN 33 34 h0 h1 h2 h3 h4 st cs) :=
  ((all_ok hA h14 h0 h1 h2 h3 h4 st cs hl).ren [(1, 33), (2, 34)]).mono fun v H ⟨_, _, ⟨k1, k2⟩, e1, e2⟩ => by subst k1; subst k2; exact ⟨e1, e2⟩
theorem tell33 {A : AProg} (hA : A.get 10 = some af10) (h13 : A.get 13 = some af13) (h0 h1 h2 h3 h4 : Int) (st : Bool) (cs : List (List GV)) (t p k : Int) (hk : i64 k) (hl : cs.length ≤ 2 ^ 40) : WpCallG A 10 [.bptr 33 0, .v (.int .i64 t), .v (.int .i64 p), .v (.int .i64 k)] (LN 33 34 h0 h1 h2 h3 h4 st cs) (fun v H => v = vI (bif st then -1 else act h0 h1 h2 h3 h4 k) ∧ H = LN 33 34 h0 h1 h2 h3 h4 (bif st then true else act h0 h1 h2 h3 h4 k == 2) (bif st then cs else cs ++ [encF ⟨t, p, k⟩])) :=
  ((tell_ok hA h13 h0 h1 h2 h3 h4 st cs t p k hk hl).ren [(1, 33), (2, 34)]).mono fun v H ⟨_, _, ⟨k1, k2⟩, e1, e2⟩ => by subst k1; subst k2; exact ⟨e1, e2⟩
def K3 : List Flt := [⟨3, 0, 1⟩, ⟨4, 1, 2⟩, ⟨5, 0, 5⟩]
def af7 : AFunc := ⟨0, [(.tmp 0)], (.seq (.reg 0 false [⟨(some 0), (.mv (.c (.v (.bool false)))), none⟩]) (.seq (.reg 1 false [⟨(some 9), (.build [(.v (.int .i64 0)), (.v (.int .i64 0)), (.v (.int .i64 0)), (.v (.int .i64 0)), (.v (.int .i64 0))] [(0, (1, (.c (.v (.int .i64 1))))), (1, (1, (.c (.v (.int .i64 0))))), (2, (1, (.c (.v (.int .i64 0))))), (3, (1, (.c (.v (.int .i64 0))))), (4, (1, (.c (.v (.int .i64 2)))))]), none⟩, ⟨(some 10), (.call 8 [(.t 9)]), none⟩, ⟨(some 1), (.mv (.t 10)), none⟩]) (.seq (.seq (.reg 2 false [⟨(some 11), (.mv (.t 1)), none⟩, ⟨(some 12), (.eqnil false false (.t 11)), none⟩]) (.cond (.t 12) (.seq (.reg 3 false [⟨(some 0), (.mv (.c (.v (.bool false)))), none⟩]) .ret) .skip)) (.seq (.reg 4 false [⟨(some 13), (.mv (.t 1)), none⟩, ⟨(some 14), (.call 10 [(.t 13), (.c (.v (.int .i64 3))), (.c (.v (.int .i64 0))), (.c (.v (.int .i64 1)))]), none⟩, ⟨(some 15), (.mv (.t 1)), none⟩, ⟨(some 16), (.call 10 [(.t 15), (.c (.v (.int .i64 4))), (.c (.v (.int .i64 1))), (.c (.v (.int .i64 2)))]), none⟩, ⟨(some 2), (.mv (.t 14)), none⟩, ⟨(some 3), (.mv (.t 16)), none⟩]) (.seq (.reg 5 false [⟨(some 17), (.mv (.t 1)), none⟩, ⟨(some 18), (.call 9 [(.t 17)]), none⟩, ⟨(some 4), (.mv (.t 18)), none⟩]) (.seq (.reg 6 false [⟨(some 19), (.mv (.t 1)), none⟩, ⟨(some 20), (.call 10 [(.t 19), (.c (.v (.int .i64 5))), (.c (.v (.int .i64 0))), (.c (.v (.int .i64 5)))]), none⟩, ⟨(some 5), (.mv (.t 20)), none⟩]) (.seq (.reg 7 false [⟨(some 21), (.mv (.t 1)), none⟩, ⟨(some 22), (.call 10 [(.t 21), (.c (.v (.int .i64 6))), (.c (.v (.int .i64 0))), (.c (.v (.int .i64 1)))]), none⟩, ⟨(some 6), (.mv (.t 22)), none⟩]) (.seq (.reg 8 false [⟨(some 23), (.mv (.t 1)), none⟩, ⟨(some 24), (.call 12 [(.t 23)]), none⟩, ⟨(some 7), (.mv (.t 24)), none⟩]) (.seq (.reg 9 false [⟨(some 25), (.build [(.v (.int .i64 0)), (.v (.int .i64 0)), (.v (.int .i64 0)), (.v (.int .i64 0)), (.v (.int .i64 0))] []), none⟩, ⟨(some 26), (.call 8 [(.t 25)]), none⟩, ⟨(some 8), (.mv (.t 26)), none⟩]) (.seq (.reg 10 false [⟨(some 27), (.mv (.t 2)), none⟩, ⟨(some 28), (.bin .eql (.t 27) (.c (.v (.int .i64 1)))), none⟩, ⟨(some 29), (.mv (.t 28)), none⟩, ⟨(some 30), (.mv (.t 3)), (some (29, true))⟩, ⟨(some 31), (.bin .eql (.t 30) (.c (.v (.int .i64 0)))), (some (29, true))⟩, ⟨(some 32), (.pick (.t 29) (.t 31) (.c (.v (.bool false)))), none⟩, ⟨(some 33), (.mv (.t 32)), none⟩, ⟨(some 34), (.mv (.t 4)), (some (33, true))⟩, ⟨(some 35), (.un .not (.t 34)), (some (33, true))⟩, ⟨(some 36), (.pick (.t 33) (.t 35) (.c (.v (.bool false)))), none⟩, ⟨(some 37), (.mv (.t 36)), none⟩, ⟨(some 38), (.mv (.t 5)), (some (37, true))⟩, ⟨(some 39), (.bin .eql (.t 38) (.c (.v (.int .i64 2)))), (some (37, true))⟩, ⟨(some 40), (.pick (.t 37) (.t 39) (.c (.v (.bool false)))), none⟩, ⟨(some 41), (.mv (.t 40)), none⟩, ⟨(some 42), (.mv (.t 6)), (some (41, true))⟩, ⟨(some 43), (.bin .eql (.t 42) (.c (.v (.int .i64 (-(0+1)))))), (some (41, true))⟩, ⟨(some 44), (.pick (.t 41) (.t 43) (.c (.v (.bool false)))), none⟩, ⟨(some 45), (.mv (.t 44)), none⟩, ⟨(some 46), (.mv (.t 1)), (some (45, true))⟩, ⟨(some 47), (.call 9 [(.t 46)]), (some (45, true))⟩, ⟨(some 48), (.pick (.t 45) (.t 47) (.c (.v (.bool false)))), none⟩, ⟨(some 49), (.mv (.t 48)), none⟩, ⟨(some 50), (.mv (.t 7)), (some (49, true))⟩, ⟨(some 51), (.len false (.t 50)), (some (49, true))⟩, ⟨(some 52), (.bin .eql (.t 51) (.c (.v (.int .i64 3)))), (some (49, true))⟩, ⟨(some 53), (.pick (.t 49) (.t 52) (.c (.v (.bool false)))), none⟩, ⟨(some 54), (.mv (.t 53)), none⟩, ⟨(some 55), (.mv (.t 7)), (some (54, true))⟩, ⟨(some 56), (.iaddr 3 (.t 55) (.c (.v (.int .i64 1)))), (some (54, true))⟩, ⟨(some 57), (.loadN 3 (.t 56)), (some (54, true))⟩, ⟨(some 58), (.build [(.v (.int .i64 0)), (.v (.int .i64 0)), (.v (.int .i64 0))] [(0, (1, (.c (.v (.int .i64 4))))), (1, (1, (.c (.v (.int .i64 1))))), (2, (1, (.c (.v (.int .i64 2)))))]), (some (54, true))⟩, ⟨(some 59), (.beq false true [.i, .i, .i] (.t 57) (.t 58)), (some (54, true))⟩, ⟨(some 60), (.pick (.t 54) (.t 59) (.c (.v (.bool false)))), none⟩, ⟨(some 61), (.mv (.t 60)), none⟩, ⟨(some 62), (.mv (.t 1)), (some (61, true))⟩, ⟨(some 63), (.call 11 [(.t 62), (.c (.v (.int .i64 5)))]), (some (61, true))⟩, ⟨(some 64), (.bin .eql (.t 63) (.c (.v (.int .i64 1)))), (some (61, true))⟩, ⟨(some 65), (.pick (.t 61) (.t 64) (.c (.v (.bool false)))), none⟩, ⟨(some 66), (.mv (.t 65)), none⟩, ⟨(some 67), (.mv (.t 1)), (some (66, true))⟩, ⟨(some 68), (.call 11 [(.t 67), (.c (.v (.int .i64 9)))]), (some (66, true))⟩, ⟨(some 69), (.bin .eql (.t 68) (.c (.v (.int .i64 0)))), (some (66, true))⟩, ⟨(some 70), (.pick (.t 66) (.t 69) (.c (.v (.bool false)))), none⟩, ⟨(some 71), (.mv (.t 70)), none⟩, ⟨(some 72), (.mv (.t 8)), (some (71, true))⟩, ⟨(some 73), (.eqnil true false (.t 72)), (some (71, true))⟩, ⟨(some 74), (.pick (.t 71) (.t 73) (.c (.v (.bool false)))), none⟩, ⟨(some 75), (.mv (.t 74)), none⟩, ⟨(some 76), (.mv (.t 8)), (some (75, true))⟩, ⟨(some 77), (.call 10 [(.t 76), (.c (.v (.int .i64 0))), (.c (.v (.int .i64 0))), (.c (.v (.int .i64 9)))]), (some (75, true))⟩, ⟨(some 78), (.bin .eql (.t 77) (.c (.v (.int .i64 2)))), (some (75, true))⟩, ⟨(some 79), (.pick (.t 75) (.t 78) (.c (.v (.bool false)))), none⟩, ⟨(some 0), (.mv (.t 79)), none⟩]) .ret))))))))))⟩

theorem known_ok {A : AProg} (hA : A.get 7 = some af7) (h8 : A.get 8 = some af8) (h9 : A.get 9 = some af9) (h10 : A.get 10 = some af10) (h11 : A.get 11 = some af11) (h12 : A.get 12 = some af12) (h13 : A.get 13 = some af13) (h14 : A.get 14 = some af14)  : WpCallG A 7 [] ([]) (fun v H => v = .v (.bool true) ∧ H = []) := by
  refine WpCallG.intro hA rfl rfl ?_
  unfold af7
  change WpG _ _ _ _ _
  refine WpG.seq ?_
  refine WpG.reg ?_
  refine G.mv rfl ?_
  refine WpOpsG.nil ?_
  change WpG _ _ _ _ _
  refine WpG.seq ?_
  refine WpG.reg ?_
  refine G.build rfl ?_
  refine G.call0 rfl rfl (new31 h8 1 0 0 0 2) ?_
  rintro _ _ ⟨rfl, rfl⟩
  refine ⟨rfl, ?_⟩
  change WpOpsG _ _ (_ :: _) (LN 31 32 1 0 0 0 2 false (List.map encF [])) _
  refine G.mv rfl ?_
  refine WpOpsG.nil ?_
  change WpG _ _ _ _ _
  refine WpG.seq ?_
  refine WpG.seq ?_
  refine WpG.reg ?_
  refine G.mv rfl ?_
  first | refine G.eqnilB rfl ?_ | refine G.eqnilP rfl ?_ | refine G.eqnilF rfl (fun hnil12 hnil12_e => ?_)
  refine WpOpsG.nil ?_
  change WpG _ _ _ _ _
  refine WpG.cond rfl (fun hq1 => absurd hq1 (by first | decide | simp)) (fun hq1 => ?_)
  refine WpG.skip ?_
  change WpG _ _ _ _ _
  refine WpG.seq ?_
  refine WpG.reg ?_
  refine G.mv rfl ?_
  refine G.call (P := LN 31 32 1 0 0 0 2 false (List.map encF [])) rfl (by repeat (first | exact trivial | refine ⟨rfl, ?_⟩)) rfl rfl (tell31 h10 h13 1 0 0 0 2 false (List.map encF []) 3 0 1 (by unfold i64; omega) (by decide)) ?_
  rintro _ _ ⟨rfl, rfl⟩
  refine ⟨rfl, ?_⟩
  change WpOpsG _ _ ((14, vI (1)) :: _) (LN 31 32 1 0 0 0 2 false (List.map encF [⟨3, 0, 1⟩])) _
  refine G.mv rfl ?_
  refine G.call (P := LN 31 32 1 0 0 0 2 false (List.map encF [⟨3, 0, 1⟩])) rfl (by repeat (first | exact trivial | refine ⟨rfl, ?_⟩)) rfl rfl (tell31 h10 h13 1 0 0 0 2 false (List.map encF [⟨3, 0, 1⟩]) 4 1 2 (by unfold i64; omega) (by decide)) ?_
  rintro _ _ ⟨rfl, rfl⟩
  refine ⟨rfl, ?_⟩
  change WpOpsG _ _ ((16, vI (0)) :: _) (LN 31 32 1 0 0 0 2 false (List.map encF [⟨3, 0, 1⟩, ⟨4, 1, 2⟩])) _
  refine G.mv rfl ?_
  refine G.mv rfl ?_
  refine WpOpsG.nil ?_
  change WpG _ _ _ _ _
  refine WpG.seq ?_
  refine WpG.reg ?_
  refine G.mv rfl ?_
  refine G.call (P := LN 31 32 1 0 0 0 2 false (List.map encF [⟨3, 0, 1⟩, ⟨4, 1, 2⟩])) rfl (by repeat (first | exact trivial | refine ⟨rfl, ?_⟩)) rfl rfl (stopped31 h9 1 0 0 0 2 false (List.map encF [⟨3, 0, 1⟩, ⟨4, 1, 2⟩])) ?_
  rintro _ _ ⟨rfl, rfl⟩
  refine ⟨rfl, ?_⟩
  change WpOpsG _ _ ((18, .v (.bool false)) :: _) (LN 31 32 1 0 0 0 2 false (List.map encF [⟨3, 0, 1⟩, ⟨4, 1, 2⟩])) _
  refine G.mv rfl ?_
  refine WpOpsG.nil ?_
  change WpG _ _ _ _ _
  refine WpG.seq ?_
  refine WpG.reg ?_
  refine G.mv rfl ?_
  refine G.call (P := LN 31 32 1 0 0 0 2 false (List.map encF [⟨3, 0, 1⟩, ⟨4, 1, 2⟩])) rfl (by repeat (first | exact trivial | refine ⟨rfl, ?_⟩)) rfl rfl (tell31 h10 h13 1 0 0 0 2 false (List.map encF [⟨3, 0, 1⟩, ⟨4, 1, 2⟩]) 5 0 5 (by unfold i64; omega) (by decide)) ?_
  rintro _ _ ⟨rfl, rfl⟩
  refine ⟨rfl, ?_⟩
  change WpOpsG _ _ ((20, vI (2)) :: _) (LN 31 32 1 0 0 0 2 true (List.map encF [⟨3, 0, 1⟩, ⟨4, 1, 2⟩, ⟨5, 0, 5⟩])) _
  refine G.mv rfl ?_
  refine WpOpsG.nil ?_
  change WpG _ _ _ _ _
  refine WpG.seq ?_
  refine WpG.reg ?_
  refine G.mv rfl ?_
  refine G.call (P := LN 31 32 1 0 0 0 2 true (List.map encF [⟨3, 0, 1⟩, ⟨4, 1, 2⟩, ⟨5, 0, 5⟩])) rfl (by repeat (first | exact trivial | refine ⟨rfl, ?_⟩)) rfl rfl (tell31 h10 h13 1 0 0 0 2 true (List.map encF [⟨3, 0, 1⟩, ⟨4, 1, 2⟩, ⟨5, 0, 5⟩]) 6 0 1 (by unfold i64; omega) (by decide)) ?_
  rintro _ _ ⟨rfl, rfl⟩
  refine ⟨rfl, ?_⟩
  change WpOpsG _ _ ((22, vI (-1)) :: _) (LN 31 32 1 0 0 0 2 true (List.map encF [⟨3, 0, 1⟩, ⟨4, 1, 2⟩, ⟨5, 0, 5⟩])) _
  refine G.mv rfl ?_
  refine WpOpsG.nil ?_
  change WpG _ _ _ _ _
  refine WpG.seq ?_
  refine WpG.reg ?_
  refine G.mv rfl ?_
  refine G.call (P := LN 31 32 1 0 0 0 2 true (List.map encF [⟨3, 0, 1⟩, ⟨4, 1, 2⟩, ⟨5, 0, 5⟩])) rfl (by repeat (first | exact trivial | refine ⟨rfl, ?_⟩)) rfl rfl (all31 h12 h14 1 0 0 0 2 true (List.map encF [⟨3, 0, 1⟩, ⟨4, 1, 2⟩, ⟨5, 0, 5⟩]) (by decide)) ?_
  rintro _ _ ⟨rfl, rfl⟩
  refine ⟨rfl, ?_⟩
  change WpOpsG _ _ ((24, .fsl 3 (List.map encF [⟨3, 0, 1⟩, ⟨4, 1, 2⟩, ⟨5, 0, 5⟩])) :: _) (LN 31 32 1 0 0 0 2 true (List.map encF [⟨3, 0, 1⟩, ⟨4, 1, 2⟩, ⟨5, 0, 5⟩])) _
  refine G.mv rfl ?_
  refine WpOpsG.nil ?_
  change WpG _ _ _ _ _
  refine WpG.seq ?_
  refine WpG.reg ?_
  refine G.build rfl ?_
  refine G.call0 rfl rfl (new33 h8 0 0 0 0 0) ?_
  rintro _ _ ⟨rfl, rfl⟩
  refine ⟨rfl, ?_⟩
  change WpOpsG _ _ (_ :: _) (LN 33 34 0 0 0 0 0 false [] ++ LN 31 32 1 0 0 0 2 true (List.map encF [⟨3, 0, 1⟩, ⟨4, 1, 2⟩, ⟨5, 0, 5⟩])) _
  refine G.mv rfl ?_
  refine WpOpsG.nil ?_
  change WpG _ _ _ _ _
  refine WpG.seq ?_
  refine WpG.reg ?_
  refine G.mv rfl ?_
  refine G.bin rfl rfl rfl ?_
  refine G.mv rfl ?_
  refine G.yes rfl ?_
  refine G.mv rfl ?_
  refine G.yes rfl ?_
  refine G.bin rfl rfl rfl ?_
  first | refine G.pickT rfl rfl ?_ | refine G.pickF rfl rfl ?_ | refine G.pick rfl rfl rfl ?_
  refine G.mv rfl ?_
  refine G.yes rfl ?_
  refine G.mv rfl ?_
  refine G.yes rfl ?_
  refine G.un rfl rfl ?_
  first | refine G.pickT rfl rfl ?_ | refine G.pickF rfl rfl ?_ | refine G.pick rfl rfl rfl ?_
  refine G.mv rfl ?_
  refine G.yes rfl ?_
  refine G.mv rfl ?_
  refine G.yes rfl ?_
  refine G.bin rfl rfl rfl ?_
  first | refine G.pickT rfl rfl ?_ | refine G.pickF rfl rfl ?_ | refine G.pick rfl rfl rfl ?_
  refine G.mv rfl ?_
  refine G.yes rfl ?_
  refine G.mv rfl ?_
  refine G.yes rfl ?_
  refine G.bin rfl rfl rfl ?_
  first | refine G.pickT rfl rfl ?_ | refine G.pickF rfl rfl ?_ | refine G.pick rfl rfl rfl ?_
  refine G.mv rfl ?_
  refine G.yes rfl ?_
  refine G.mv rfl ?_
  refine G.yes rfl ?_
  refine G.call (P := LN 31 32 1 0 0 0 2 true (List.map encF [⟨3, 0, 1⟩, ⟨4, 1, 2⟩, ⟨5, 0, 5⟩])) rfl (by repeat (first | exact trivial | refine ⟨rfl, ?_⟩)) rfl rfl (stopped31 h9 1 0 0 0 2 true (List.map encF [⟨3, 0, 1⟩, ⟨4, 1, 2⟩, ⟨5, 0, 5⟩])) ?_
  rintro _ _ ⟨rfl, rfl⟩
  refine ⟨rfl, ?_⟩
  change WpOpsG _ _ ((47, .v (.bool true)) :: _) (LN 31 32 1 0 0 0 2 true (List.map encF [⟨3, 0, 1⟩, ⟨4, 1, 2⟩, ⟨5, 0, 5⟩]) ++ LN 33 34 0 0 0 0 0 false []) _
  first | refine G.pickT rfl rfl ?_ | refine G.pickF rfl rfl ?_ | refine G.pick rfl rfl rfl ?_
  refine G.mv rfl ?_
  refine G.yes rfl ?_
  refine G.mv rfl ?_
  refine G.yes rfl ?_
  first | refine G.lenM rfl ?_ | refine G.lenOM rfl rfl ?_ | refine G.lenF rfl ?_ | refine G.lenO rfl rfl ?_ | refine G.lenNil rfl ?_
  refine G.yes rfl ?_
  refine G.bin rfl rfl rfl ?_
  first | refine G.pickT rfl rfl ?_ | refine G.pickF rfl rfl ?_ | refine G.pick rfl rfl rfl ?_
  refine G.mv rfl ?_
  refine G.yes rfl ?_
  refine G.mv rfl ?_
  refine G.yes rfl ?_
  refine G.iaddrF rfl rfl (by omega) rfl ?_
  refine G.yes rfl ?_
  first | refine G.loadNB rfl rfl rfl ?_ | refine G.loadNF rfl rfl ?_ | refine G.loadNEM rfl rfl (List.getElem?_eq_getElem (by first | omega | (simp only [List.length_map, List.length_append, List.length_cons, List.length_nil, List.length_replicate, List.length_take, List.length_drop, List.length_set]; omega))) rfl ?_
  refine G.yes rfl ?_
  refine G.build rfl ?_
  refine G.yes rfl ?_
  refine G.beq rfl rfl rfl ?_
  first | refine G.pickT rfl rfl ?_ | refine G.pickF rfl rfl ?_ | refine G.pick rfl rfl rfl ?_
  refine G.mv rfl ?_
  refine G.yes rfl ?_
  refine G.mv rfl ?_
  refine G.yes rfl ?_
  refine G.call (P := LN 31 32 1 0 0 0 2 true (List.map encF [⟨3, 0, 1⟩, ⟨4, 1, 2⟩, ⟨5, 0, 5⟩])) rfl (by repeat (first | exact trivial | refine ⟨rfl, ?_⟩)) rfl rfl (count31 h11 1 0 0 0 2 true [⟨3, 0, 1⟩, ⟨4, 1, 2⟩, ⟨5, 0, 5⟩] 5 (by decide)) ?_
  rintro _ _ ⟨rfl, rfl⟩
  refine ⟨rfl, ?_⟩
  change WpOpsG _ _ ((63, vI 1) :: _) (LN 31 32 1 0 0 0 2 true (List.map encF [⟨3, 0, 1⟩, ⟨4, 1, 2⟩, ⟨5, 0, 5⟩]) ++ LN 33 34 0 0 0 0 0 false []) _
  refine G.yes rfl ?_
  refine G.bin rfl rfl rfl ?_
  first | refine G.pickT rfl rfl ?_ | refine G.pickF rfl rfl ?_ | refine G.pick rfl rfl rfl ?_
  refine G.mv rfl ?_
  refine G.yes rfl ?_
  refine G.mv rfl ?_
  refine G.yes rfl ?_
  refine G.call (P := LN 31 32 1 0 0 0 2 true (List.map encF [⟨3, 0, 1⟩, ⟨4, 1, 2⟩, ⟨5, 0, 5⟩])) rfl (by repeat (first | exact trivial | refine ⟨rfl, ?_⟩)) rfl rfl (count31 h11 1 0 0 0 2 true [⟨3, 0, 1⟩, ⟨4, 1, 2⟩, ⟨5, 0, 5⟩] 9 (by decide)) ?_
  rintro _ _ ⟨rfl, rfl⟩
  refine ⟨rfl, ?_⟩
  change WpOpsG _ _ ((68, vI 0) :: _) (LN 31 32 1 0 0 0 2 true (List.map encF [⟨3, 0, 1⟩, ⟨4, 1, 2⟩, ⟨5, 0, 5⟩]) ++ LN 33 34 0 0 0 0 0 false []) _
  refine G.yes rfl ?_
  refine G.bin rfl rfl rfl ?_
  first | refine G.pickT rfl rfl ?_ | refine G.pickF rfl rfl ?_ | refine G.pick rfl rfl rfl ?_
  refine G.mv rfl ?_
  refine G.yes rfl ?_
  refine G.mv rfl ?_
  refine G.yes rfl ?_
  first | refine G.eqnilB rfl ?_ | refine G.eqnilP rfl ?_ | refine G.eqnilF rfl (fun hnil73 hnil73_e => ?_)
  first | refine G.pickT rfl rfl ?_ | refine G.pickF rfl rfl ?_ | refine G.pick rfl rfl rfl ?_
  refine G.mv rfl ?_
  refine G.yes rfl ?_
  refine G.mv rfl ?_
  refine G.yes rfl ?_
  refine G.call (P := LN 33 34 0 0 0 0 0 false []) rfl (by repeat (first | exact trivial | refine ⟨rfl, ?_⟩)) rfl rfl (tell33 h10 h13 0 0 0 0 0 false [] 0 0 9 (by unfold i64; omega) (by decide)) ?_
  rintro _ _ ⟨rfl, rfl⟩
  refine ⟨rfl, ?_⟩
  change WpOpsG _ _ ((77, vI 2) :: _) _ _
  refine G.yes rfl ?_
  refine G.bin rfl rfl rfl ?_
  first | refine G.pickT rfl rfl ?_ | refine G.pickF rfl rfl ?_ | refine G.pick rfl rfl rfl ?_
  refine G.mv rfl ?_
  refine WpOpsG.nil ?_
  change WpG _ _ _ _ _
  refine WpG.ret ?_
  refine ⟨_, [], rfl, (hasP_le (by repeat (first | exact trivial | refine ⟨rfl, ?_⟩))), rfl, rfl, rfl, ?_⟩
  exact ⟨rfl, rfl⟩
end Go.AM.L18
