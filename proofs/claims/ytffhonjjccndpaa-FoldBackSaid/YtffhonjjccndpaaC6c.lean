/- Contracts of the functions that the statement reaches. No condition. -/
import Derived.Test.YtffhonjjccndpaaC6b
set_option linter.all false
set_option maxRecDepth 10000
namespace Go.AM.L6
open Go.AM.PL
theorem index6_ok (l : List Rn) (r : Rn) (hn : l.length ≤ 2 ^ 40) (hr : r ∈ l) : WpCallG A 29 [.fsl 2 (l.map encN), .agg (encN r)] [] (fun v H => v = .v (.int .i64 ((l.findIdx fun y => decide (r = y) : Nat) : Int)) ∧ H = []) := by
 refine WpCallG.intro g29 rfl rfl ?_
 unfold af29
 change WpG _ _ _ _ _
 refine WpG.seq ?_
 refine WpG.reg ?_
 refine G.box (g := 10) rfl rfl rfl ?_
 refine G.mv rfl ?_
 refine WpOpsG.nil ?_
 change WpG _ _ _ _ _
 refine WpG.seq ?_
 refine WpG.seq ?_
 refine WpG.reg ?_
 refine G.mv rfl ?_
 refine G.lenM rfl ?_
 refine G.mv rfl ?_
 refine WpOpsG.nil ?_
 change WpG _ _ _ _ _
 refine WpG.block ?_
 refine WpG.loop (S := Nat) (fun i => [(0, .fsl 2 (l.map encN)), (3, .bptr 10 0), (6, .fsl 2 (l.map encN)), (7, .v (.int .i64 (l.length : Int))), (8, .v (.int .i64 ((i : Nat) : Int)))]) (fun _ => [(10, .box (encN r))]) (fun i => i ≤ l.length ∧ ∀ x ∈ l.take i, (decide (r = x)) = false) (fun i => l.length - i) (fun s => ⟨rfl, rfl⟩) ?_ 0 ?_ (by repeat (first | exact trivial | refine ⟨rfl, ?_⟩)) (by repeat (first | exact trivial | refine ⟨rfl, ?_⟩)) rfl
 ·rintro i ⟨hI, hno⟩
  refine WpG.seq ?_
  refine WpG.reg ?_
  refine G.bin rfl rfl rfl ?_
  refine WpOpsG.nil ?_
  change WpG _ _ _ _ _
  refine WpG.seq ?_
  refine WpG.cond rfl (fun hq1 => ?_) (fun hq1 => ?_)
  ·(try simp only [zN] at hq1)
   refine WpG.skip ?_
   change WpG _ _ _ _ _
   refine WpG.seq ?_
   refine WpG.block ?_
   refine WpG.seq ?_
   refine WpG.reg ?_
   refine G.mv rfl ?_
   refine G.mv rfl ?_
   refine WpOpsG.nil ?_
   change WpG _ _ _ _ _
   refine WpG.seq ?_
   refine WpG.reg ?_
   refine G.loadNB rfl rfl rfl ?_
   refine G.mv rfl ?_
   refine G.mv rfl ?_
   refine G.iaddrN rfl rfl (List.getElem?_eq_getElem (by omega)) ?_
   refine G.loadNF rfl rfl ?_
   refine G.beq rfl rfl rfl ?_
   refine WpOpsG.nil ?_
   change WpG _ _ _ _ _
   refine WpG.cond rfl (fun hq2 => ?_) (fun hq2 => ?_)
   ·(try simp only [zN] at hq2)
    have he : r = l[i] := rn_t2 hq2
    refine WpG.seq ?_
    refine WpG.reg ?_
    refine G.mv rfl ?_
    refine G.mv rfl ?_
    refine WpOpsG.nil ?_
    change WpG _ _ _ _ _
    refine WpG.ret ?_
    refine ⟨_, [], rfl, (hasP_le (by repeat (first | exact trivial | refine ⟨rfl, ?_⟩))), rfl, rfl, rfl, ?_⟩
    rw [find_at (by omega) hno (decide_eq_true he)]; exact ⟨rfl, rfl⟩
   ·(try simp only [zN] at hq2)
    have hne : ¬ r = l[i] := rn_f2 hq2
    refine WpG.skip ?_
    change WpG _ _ _ _ _
    refine WpG.reg ?_
    refine G.addI rfl rfl (by omega) ?_
    refine G.mv rfl ?_
    refine WpOpsG.nil ?_
    refine ⟨i + 1, by omega, ⟨by omega, fun x hx => ?_⟩, ⟨rfl, rfl, rfl, rfl, rfl, trivial⟩, ⟨rfl, trivial⟩, rfl⟩
    rw [List.take_succ_eq_append_getElem (by omega)] at hx
    rcases List.mem_append.1 hx with h | h
    ·exact hno x h
    ·rw [List.mem_singleton.1 h]; exact decide_eq_false hne
  ·(try simp only [zN] at hq1)
   refine WpG.exit ?_
   change WpG _ _ _ _ _
   refine WpG.seq ?_
   refine WpG.reg ?_
   refine G.mv rfl ?_
   refine WpOpsG.nil ?_
   change WpG _ _ _ _ _
   refine WpG.ret ?_
   refine ⟨_, [], rfl, (hasP_le (by repeat (first | exact trivial | refine ⟨rfl, ?_⟩))), rfl, rfl, rfl, ?_⟩
   exfalso
   rw [show l.take i = l from List.take_of_length_le (by omega)] at hno
   have := hno r hr
   rw [decide_eq_true rfl] at this
   cases this
 ·exact ⟨Nat.zero_le _, fun x hx => by simp at hx⟩
theorem same61_ok (x y : List Nd) (hx : x.length ≤ 2 ^ 50) (hy : y.length ≤ 2 ^ 50) : WpCallG A 35 [.fsl 3 (y.map encD), .fptr [.fsl 3 (x.map encD)] 0] [] (fun v H => v = .v (.bool (decide (x = y))) ∧ H = []) := by
 refine WpCallG.intro g35 rfl rfl ?_
 unfold af35
 change WpG _ _ _ _ _
 refine WpG.seq ?_
 refine WpG.reg ?_
 refine G.mv rfl ?_
 refine WpOpsG.nil ?_
 change WpG _ _ _ _ _
 refine WpG.seq ?_
 refine WpG.reg ?_
 refine G.load1F rfl rfl ?_
 refine G.mv rfl ?_
 refine G.call0 rfl rfl (equalD_ok x y hx hy) ?_
 rintro _ _ ⟨rfl, rfl⟩
 refine ⟨rfl, ?_⟩
 change WpOpsG _ _ ((6, _) :: _) _ _
 refine G.mv rfl ?_
 refine WpOpsG.nil ?_
 change WpG _ _ _ _ _
 refine WpG.ret ?_
 refine ⟨_, [], rfl, (hasP_le (by repeat (first | exact trivial | refine ⟨rfl, ?_⟩))), rfl, rfl, rfl, ?_⟩
 exact ⟨rfl, rfl⟩
theorem idxf6_ok (xs : List (List Nd)) (x : List Nd) (hn : xs.length ≤ 2 ^ 40) (hx : x ∈ xs) (hl : ∀ y ∈ xs, y.length ≤ 2 ^ 50) : WpCallG A 34 [.fsl 1 (xs.map encTb), .fn 35 [.fptr [.fsl 3 (x.map encD)] 0]] [] (fun v H => v = .v (.int .i64 ((xs.findIdx fun y => decide (x = y) : Nat) : Int)) ∧ H = []) := by
 refine WpCallG.intro g34 rfl rfl ?_
 unfold af34
 change WpG _ _ _ _ _
 refine WpG.seq ?_
 refine WpG.reg ?_
 refine G.mv rfl ?_
 refine WpOpsG.nil ?_
 change WpG _ _ _ _ _
 refine WpG.seq ?_
 refine WpG.seq ?_
 refine WpG.reg ?_
 refine G.mv rfl ?_
 refine G.lenM rfl ?_
 refine G.mv rfl ?_
 refine WpOpsG.nil ?_
 change WpG _ _ _ _ _
 refine WpG.block ?_
 refine WpG.loop (S := Nat) (fun i => [(0, .fsl 1 (xs.map encTb)), (1, .fn 35 [.fptr [.fsl 3 (x.map encD)] 0]), (6, .fsl 1 (xs.map encTb)), (7, .v (.int .i64 (xs.length : Int))), (8, .v (.int .i64 ((i : Nat) : Int)))]) (fun _ => []) (fun i => i ≤ xs.length ∧ ∀ y ∈ xs.take i, (decide (x = y)) = false) (fun i => xs.length - i) (fun s => ⟨rfl, rfl⟩) ?_ 0 ?_ (by repeat (first | exact trivial | refine ⟨rfl, ?_⟩)) (by repeat (first | exact trivial | refine ⟨rfl, ?_⟩)) rfl
 ·rintro i ⟨hI, hno⟩
  refine WpG.seq ?_
  refine WpG.reg ?_
  refine G.bin rfl rfl rfl ?_
  refine WpOpsG.nil ?_
  change WpG _ _ _ _ _
  refine WpG.seq ?_
  refine WpG.cond rfl (fun hq1 => ?_) (fun hq1 => ?_)
  ·(try simp only [zN] at hq1)
   refine WpG.skip ?_
   change WpG _ _ _ _ _
   refine WpG.seq ?_
   refine WpG.block ?_
   refine WpG.seq ?_
   refine WpG.reg ?_
   refine G.mv rfl ?_
   refine G.mv rfl ?_
   refine WpOpsG.nil ?_
   change WpG _ _ _ _ _
   refine WpG.seq ?_
   refine WpG.reg ?_
   refine G.mv rfl ?_
   refine G.mv rfl ?_
   refine G.mv rfl ?_
   refine G.iaddrN rfl rfl (List.getElem?_eq_getElem (by omega)) ?_
   refine G.load1F rfl rfl ?_
   refine G.callv0 rfl rfl rfl (same61_ok x xs[i] (hl x hx) (hl _ (List.getElem_mem (by omega)))) ?_
   rintro _ _ ⟨rfl, rfl⟩
   refine ⟨rfl, ?_⟩
   change WpOpsG _ _ ((16, _) :: _) _ _
   refine WpOpsG.nil ?_
   change WpG _ _ _ _ _
   refine WpG.cond rfl (fun hq2 => ?_) (fun hq2 => ?_)
   ·(try simp only [zN] at hq2)
    have he : x = xs[i] := hq2
    refine WpG.seq ?_
    refine WpG.reg ?_
    refine G.mv rfl ?_
    refine G.mv rfl ?_
    refine WpOpsG.nil ?_
    change WpG _ _ _ _ _
    refine WpG.ret ?_
    refine ⟨_, [], rfl, (hasP_le (by repeat (first | exact trivial | refine ⟨rfl, ?_⟩))), rfl, rfl, rfl, ?_⟩
    rw [find_at (by omega) hno (decide_eq_true he)]; exact ⟨rfl, rfl⟩
   ·(try simp only [zN] at hq2)
    have hne : ¬ x = xs[i] := hq2
    refine WpG.skip ?_
    change WpG _ _ _ _ _
    refine WpG.reg ?_
    refine G.addI rfl rfl (by omega) ?_
    refine G.mv rfl ?_
    refine WpOpsG.nil ?_
    refine ⟨i + 1, by omega, ⟨by omega, fun y hy => ?_⟩, ⟨rfl, rfl, rfl, rfl, rfl, trivial⟩, trivial, rfl⟩
    rw [List.take_succ_eq_append_getElem (by omega)] at hy
    rcases List.mem_append.1 hy with h | h
    ·exact hno y h
    ·rw [List.mem_singleton.1 h]; exact decide_eq_false hne
  ·(try simp only [zN] at hq1)
   refine WpG.exit ?_
   change WpG _ _ _ _ _
   refine WpG.seq ?_
   refine WpG.reg ?_
   refine G.mv rfl ?_
   refine WpOpsG.nil ?_
   change WpG _ _ _ _ _
   refine WpG.ret ?_
   refine ⟨_, [], rfl, (hasP_le (by repeat (first | exact trivial | refine ⟨rfl, ?_⟩))), rfl, rfl, rfl, ?_⟩
   exfalso
   rw [show xs.take i = xs from List.take_of_length_le (by omega)] at hno
   have := hno x hx
   rw [decide_eq_true rfl] at this
   cases this
 ·exact ⟨Nat.zero_le _, fun x hx => by simp at hx⟩
theorem fsame6_ok (xs : List (List Nd)) (hn : xs.length ≤ 2 ^ 40) (hl : ∀ y ∈ xs, y.length ≤ 2 ^ 50) : WpCallG A 22 [.fsl 1 (xs.map encTb)] [] (fun v H => v = .tup [.fsl 1 ((idxV xs).map encK), .fsl 1 ((lenI xs).map encK)] ∧ H = []) := by
 refine WpCallG.intro g22 rfl rfl ?_
 unfold af22
 change WpG _ _ _ _ _
 refine WpG.seq ?_
 refine WpG.reg ?_
 refine G.mv rfl ?_
 refine G.mv rfl ?_
 refine WpOpsG.nil ?_
 change WpG _ _ _ _ _
 refine WpG.seq ?_
 refine WpG.reg ?_
 refine G.mv rfl ?_
 refine G.mv rfl ?_
 refine WpOpsG.nil ?_
 change WpG _ _ _ _ _
 refine WpG.seq ?_
 refine WpG.seq ?_
 refine WpG.reg ?_
 refine G.mv rfl ?_
 refine G.lenM rfl ?_
 refine G.mv rfl ?_
 refine WpOpsG.nil ?_
 change WpG _ _ _ _ _
 refine WpG.block ?_
 refine WpG.ownNil (g := 20) (k := 4) (w := 1) rfl rfl ?_
 refine WpG.ownNil (g := 21) (k := 5) (w := 1) rfl rfl ?_
 refine WpG.loop (S := Nat) (fun i => [(0, .fsl 1 (xs.map encTb)), (4, .osl 20), (5, .osl 21), (8, .fsl 1 (xs.map encTb)), (9, .v (.int .i64 (xs.length : Int))), (10, .v (.int .i64 ((i : Nat) : Int)))]) (fun i => [(20, .arr .yes 1 ((idxP xs i).map encK)), (21, .arr .yes 1 (((lenI xs).take i).map encK))]) (fun i => i ≤ xs.length) (fun i => xs.length - i) (fun s => ⟨rfl, rfl⟩) ?_ 0 ?_ (by repeat (first | exact trivial | refine ⟨rfl, ?_⟩)) (by repeat (first | exact trivial | refine ⟨rfl, ?_⟩)) rfl
 ·intro i hI
  refine WpG.seq ?_
  refine WpG.reg ?_
  refine G.bin rfl rfl rfl ?_
  refine WpOpsG.nil ?_
  change WpG _ _ _ _ _
  refine WpG.seq ?_
  refine WpG.cond rfl (fun hq1 => ?_) (fun hq1 => ?_)
  ·(try simp only [zN] at hq1)
   refine WpG.skip ?_
   change WpG _ _ _ _ _
   refine WpG.seq ?_
   refine WpG.block ?_
   refine WpG.seq ?_
   refine WpG.reg ?_
   refine G.iaddrN rfl rfl (List.getElem?_eq_getElem (by omega)) ?_
   refine G.load1F rfl rfl ?_
   refine G.box (g := 10) rfl rfl rfl ?_
   refine G.storeB rfl rfl rfl rfl rfl rfl ?_
   refine WpOpsG.nil ?_
   change WpG _ _ _ _ _
   refine WpG.seq ?_
   refine WpG.reg ?_
   refine G.mv rfl ?_
   refine G.mv rfl ?_
   refine G.mkfn rfl ?_
   refine G.lend rfl rfl (idxf6_ok xs xs[i] hn (List.getElem_mem (by omega)) hl) ?_
   rintro _ _ ⟨rfl, rfl⟩
   refine ⟨rfl, trivial, rfl, ?_⟩
   change WpOpsG _ _ ((17, _) :: _) _ _
   refine G.bsliceF rfl rfl rfl ?_
   change WpOpsG _ _ ((18, .fsl 1 (([((xs.findIdx fun y => decide (xs[i] = y) : Nat) : Int)] : List Int).map encK)) :: _) _ _
   refine G.app rfl rfl rfl rfl trivial (by rw [List.length_map]; rw [idxP_len (by omega)]; show (_ + 1) * 8 ≤ 2 ^ 47; omega) ?_
   rw [← List.map_append]
   refine G.mv rfl ?_
   refine WpOpsG.nil ?_
   change WpG _ _ _ _ _
   refine WpG.reg ?_
   refine G.mv rfl ?_
   refine G.load1B rfl rfl rfl ?_
   refine G.lenM rfl ?_
   refine G.bsliceF rfl rfl rfl ?_
   change WpOpsG _ _ ((23, .fsl 1 (([(xs[i].length : Int)] : List Int).map encK)) :: _) _ _
   refine G.app rfl rfl rfl rfl trivial (by rw [List.length_map]; rw [List.length_take, lenI_len]; show (_ + 1) * 8 ≤ 2 ^ 47; omega) ?_
   rw [← List.map_append]
   refine G.mv rfl ?_
   refine WpOpsG.nil ?_
   change WpG _ _ _ _ _
   refine WpG.reg ?_
   refine G.addI rfl rfl (by omega) ?_
   refine G.mv rfl ?_
   refine WpOpsG.nil ?_
   refine ⟨i + 1, by omega, by omega, ⟨rfl, rfl, rfl, rfl, rfl, rfl, trivial⟩, ⟨?_, ?_, trivial⟩, rfl⟩
   ·rw [idxP_snoc (by omega)]; rfl
   ·rw [lenI_snoc (by omega)]; rfl
  ·(try simp only [zN] at hq1)
   refine WpG.exit ?_
   change WpG _ _ _ _ _
   refine WpG.seq ?_
   refine WpG.freeze 20 rfl ?_
   refine WpG.freeze 21 rfl ?_
   rw [idxP_all (by omega), show (lenI xs).take i = lenI xs from List.take_of_length_le (by rw [lenI_len]; omega)]
   refine WpG.reg ?_
   refine G.mv rfl ?_
   refine G.mv rfl ?_
   refine G.mv rfl ?_
   refine G.mv rfl ?_
   refine WpOpsG.nil ?_
   change WpG _ _ _ _ _
   refine WpG.ret ?_
   refine ⟨_, [], rfl, (hasP_le (by repeat (first | exact trivial | refine ⟨rfl, ?_⟩))), rfl, rfl, rfl, ?_⟩
   exact ⟨rfl, rfl⟩
 ·exact Nat.zero_le _
theorem fagain6_ok (ids : List Int) (a p : Nat) (hl : ids.length ≤ 300) (ha : a ≤ 300) (hp : 1 ≤ p ∧ p ≤ 300) : WpCallG A 33 [.fsl 1 (ids.map encK), .v (.int .i64 (a : Int)), .v (.int .i64 (p : Int))] [] (fun v H => v = .v (.int .i64 (againV ids a p : Int)) ∧ H = []) := by
 refine WpCallG.intro g33 rfl rfl ?_
 unfold af33
 change WpG _ _ _ _ _
 refine WpG.seq ?_
 refine WpG.reg ?_
 refine G.mv rfl ?_
 refine WpOpsG.nil ?_
 change WpG _ _ _ _ _
 refine WpG.seq ?_
 refine WpG.reg ?_
 refine G.mv rfl ?_
 refine WpOpsG.nil ?_
 change WpG _ _ _ _ _
 refine WpG.seq ?_
 refine WpG.block ?_
 refine WpG.loop (S := Nat) (fun n => [(0, .fsl 1 (ids.map encK)), (1, .v (.int .i64 (a : Int))), (2, .v (.int .i64 (p : Int))), (7, .v (.int .i64 (n : Int)))]) (fun _ => []) (fun n => 1 ≤ n ∧ n ≤ ids.length + 1 ∧ agF ids a p (ids.length + 1 - n) n = againV ids a p) (fun n => ids.length + 1 - n) (fun s => ⟨rfl, rfl⟩) ?_ 1 ?_ (by repeat (first | exact trivial | refine ⟨rfl, ?_⟩)) (by repeat (first | exact trivial | refine ⟨rfl, ?_⟩)) rfl
 ·rintro n ⟨hn1, hn2, hag⟩
  have hmp : (n + 1) * p = n * p + p := by rw [Nat.add_mul, Nat.one_mul]
  have hnp : n + 1 ≤ (n + 1) * p := Nat.le_mul_of_pos_right _ hp.1
  have hb1 : (n + 1) * p ≤ 302 * 300 := Nat.mul_le_mul (by omega) hp.2
  have hi1 : ((n : Int) + 1) * (p : Int) = (((n + 1) * p : Nat) : Int) := by rw [Int.natCast_mul]; rfl
  have hi0 : (n : Int) * (p : Int) = ((n * p : Nat) : Int) := by rw [Int.natCast_mul]
  have hc1 : (a : Int) + ((n : Int) + 1) * (p : Int) = ((a + (n + 1) * p : Nat) : Int) := by rw [hi1, Int.natCast_add]
  have hc0 : (a : Int) + (n : Int) * (p : Int) = ((a + n * p : Nat) : Int) := by rw [hi0, Int.natCast_add]
  refine WpG.seq ?_
  refine WpG.seq ?_
  refine WpG.reg ?_
  refine G.mv rfl ?_
  refine G.mv rfl ?_
  refine G.addI rfl rfl (by omega) ?_
  refine G.mv rfl ?_
  refine G.mulI rfl rfl (by omega) ?_
  refine G.addI rfl rfl (by omega) ?_
  rw [hc1]
  refine G.mv rfl ?_
  refine G.lenM rfl ?_
  refine G.bin rfl rfl rfl ?_
  refine G.mv rfl ?_
  apply G.andS rfl rfl rfl rfl rfl rfl
  case hB =>
   intro hs1
   (try simp only [zN] at hs1)
   refine G.mv rfl ?_
   refine G.mv rfl ?_
   refine G.mv rfl ?_
   refine G.mv rfl ?_
   refine G.addI rfl rfl (by omega) ?_
   rw [show (a : Int) + (p : Int) = ((a + p : Nat) : Int) by omega]
   refine G.slMid (n := a) (m := a + p) rfl rfl rfl (by omega) (by omega) ?_
   refine G.mv rfl ?_
   refine G.mv rfl ?_
   refine G.mv rfl ?_
   refine G.mv rfl ?_
   refine G.mulI rfl rfl (by omega) ?_
   refine G.addI rfl rfl (by omega) ?_
   rw [hc0]
   refine G.mv rfl ?_
   refine G.mv rfl ?_
   refine G.addI rfl rfl (by omega) ?_
   refine G.mv rfl ?_
   refine G.mulI rfl rfl (by omega) ?_
   refine G.addI rfl rfl (by omega) ?_
   rw [hc1]
   refine G.slMid (n := a + n * p) (m := a + (n + 1) * p) rfl rfl rfl (by omega) (by omega) ?_
   refine G.call0 rfl rfl (equalI_ok ((ids.take (a + p)).drop a) ((ids.take (a + (n + 1) * p)).drop (a + n * p)) (by rw [List.length_drop, List.length_take]; omega) (by rw [List.length_drop, List.length_take]; omega)) ?_
   rintro _ _ ⟨rfl, rfl⟩
   refine ⟨rfl, ?_⟩
   change WpOpsG _ _ ((37, _) :: _) _ _
   refine WpOpsG.nil ?_
   exact ⟨rfl, (by repeat (first | exact LLe.refl _ | refine LLe.cons rfl ?_)), (by repeat (first | exact HLe.refl _ | refine HLe.cons rfl ?_)), rfl⟩
  refine WpOpsG.nil ?_
  change WpG _ _ _ _ _
  refine WpG.cond rfl (fun hq2 => ?_) (fun hq2 => ?_)
  ·(try simp only [zN] at hq2)
   have hyes : a + (n + 1) * p ≤ ids.length ∧ win ids a p = win ids (a + n * p) p := ⟨by omega, by rw [← win_eq, ← win_eq' (b := a + (n + 1) * p) (by omega)]; exact hq2.2⟩
   refine WpG.skip ?_
   change WpG _ _ _ _ _
   refine WpG.block ?_
   refine WpG.reg ?_
   refine G.mv rfl ?_
   refine G.addI rfl rfl (by omega) ?_
   refine G.mv rfl ?_
   refine WpOpsG.nil ?_
   refine ⟨n + 1, by omega, ⟨by omega, by omega, ?_⟩, ⟨rfl, rfl, rfl, rfl, trivial⟩, trivial, rfl⟩
   rw [← hag, show ids.length + 1 - n = (ids.length + 1 - (n + 1)) + 1 by omega, agF_yes hyes.1 hyes.2]
  ·(try simp only [zN] at hq2)
   have hno : ¬ (a + (n + 1) * p ≤ ids.length ∧ win ids a p = win ids (a + n * p) p) := fun c => by
    rw [← win_eq, ← win_eq' (b := a + (n + 1) * p) (by omega)] at c
    rcases hq2 with h | h
    ·omega
    ·exact h c.2
   refine WpG.exit ?_
   change WpG _ _ _ _ _
   refine WpG.seq ?_
   refine WpG.reg ?_
   refine G.mv rfl ?_
   refine G.mv rfl ?_
   refine WpOpsG.nil ?_
   change WpG _ _ _ _ _
   refine WpG.ret ?_
   refine ⟨_, [], rfl, (hasP_le (by repeat (first | exact trivial | refine ⟨rfl, ?_⟩))), rfl, rfl, rfl, ?_⟩
   rw [agF_no hno] at hag
   rw [← hag]; exact ⟨rfl, rfl⟩
 ·exact ⟨Nat.le_refl _, by omega, by rw [Nat.add_sub_cancel]; rfl⟩
end Go.AM.L6
