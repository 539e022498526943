/- Contracts of the functions that the statement reaches. No condition. -/
import Derived.Test.YtabhoinefficpaaPL2
set_option linter.all false
set_option maxRecDepth 10000
namespace Go.AM.PL
structure Nd where
  k : Int
  p : Int
  n : Int
deriving DecidableEq
def encD (x : Nd) : List GV := [.v (.int .i64 x.k), .v (.int .i64 x.p), .v (.int .i64 x.n)]
structure Fm where
  x : Nd
  left : Int
  dep : Int
  tot : Int
def encF (f : Fm) : List GV := [.v (.int .i64 f.x.k), .v (.int .i64 f.x.p), .v (.int .i64 f.x.n), .v (.int .i64 f.left), .v (.int .i64 f.dep), .v (.int .i64 f.tot)]
def kidV (x : Nd) : Int :=
  if x.n < 1 ∨ (x.k ≠ 1 ∧ x.p ≠ 0) then -1
  else if (x.k = 1 ∧ 0 ≤ x.p ∧ x.p < 6) ∨ x.k = 2 then 0
  else if x.k = 3 ∧ x.n ≤ 128 then x.n
  else if x.k = 4 then 1 else -1
theorem kidV_rng (x : Nd) : -1 ≤ kidV x ∧ kidV x ≤ 128 := by unfold kidV; (repeat' split) <;> omega
theorem kidV_pos {x : Nd} (h : 0 ≤ kidV x) : 1 ≤ x.n := by unfold kidV at h; split at h <;> omega
def timV (a b : Int) : Int := min 4097 (IntKind.i64.wrap (min 4097 a * b))
def addV (a b : Int) : Int := min 4097 (IntKind.i64.wrap (a + min 4097 b))
/-- the place behind the node, from what is still to come -/
def scan : List Nd → Int → Int → Int
  | [], _, _ => 0
  | x :: l, s, c => if kidV x < 0 then 0 else if s + (kidV x - 1) = 0 then c + 1 else scan l (s + (kidV x - 1)) (c + 1)
def sizeV (l : List Nd) (a : Int) : Int := if a < 0 ∨ (l.length : Int) ≤ a then 0 else scan (l.drop a.toNat) 1 0
theorem scan_rng : ∀ (l : List Nd) (s c : Int), 0 ≤ c → 0 ≤ scan l s c ∧ scan l s c ≤ c + l.length
  | [], s, c, h => by simp [scan]; omega
  | x :: l, s, c, h => by
    have ih := scan_rng l (s + (kidV x - 1)) (c + 1) (by omega)
    rw [scan, List.length_cons]
    split
    · omega
    · split <;> omega
theorem sizeV_rng (l : List Nd) (a : Int) : 0 ≤ sizeV l a ∧ (0 < sizeV l a → 0 ≤ a ∧ a < l.length ∧ a + sizeV l a ≤ l.length) := by
  unfold sizeV
  split
  · omega
  · have := scan_rng (l.drop a.toNat) 1 0 (by omega)
    rw [List.length_drop] at this
    omega
def wholeV (l : List Nd) : Bool := decide (0 < l.length) && decide (sizeV l 0 = l.length)
def pop1 (F G : Fm) : Fm := ⟨G.x, IntKind.i64.wrap (G.left - 1), max G.dep (IntKind.i64.wrap (F.dep + 1)), addV G.tot (if F.x.k = 4 then timV F.x.n F.tot else F.tot)⟩
def settleF : Fm → List Fm → Fm × List Fm
  | F, [] => (F, [])
  | F, G :: S => if F.left = 0 then settleF (pop1 F G) S else (F, G :: S)
def mk (x : Nd) : Fm := ⟨x, kidV x, 0, if kidV x = 0 then min 4097 x.n else 0⟩
def push (s : Fm × List Fm) (x : Nd) : Fm × List Fm := settleF (mk x) (s.1 :: s.2)
def sent : Fm := ⟨⟨0, 0, 0⟩, 1, 0, 0⟩
def runS (l : List Nd) : Fm × List Fm := l.foldl push (sent, [])
def stk (F : Fm) (S : List Fm) : List Fm := S.reverse ++ [F]
theorem stk_len (F : Fm) (S : List Fm) : (stk F S).length = S.length + 1 := by unfold stk; simp
theorem stk_top (F : Fm) (S : List Fm) : (stk F S)[S.length]? = some F := by
  unfold stk; rw [List.getElem?_append_right (by simp)]; simp
theorem stk_cons (F G : Fm) (S : List Fm) : stk F (G :: S) = stk G S ++ [F] := by unfold stk; simp
theorem stk_nx (F G : Fm) (S : List Fm) : (stk F (G :: S))[S.length]? = some G := by
  rw [stk_cons, List.getElem?_append_left (by rw [stk_len]; omega)]; exact stk_top G S
theorem stk_take (F G : Fm) (S : List Fm) : (stk F (G :: S)).take (S.length + 1) = stk G S := by
  rw [stk_cons, ← stk_len G S, List.take_left']; rfl
theorem stk_set (F F' : Fm) (S : List Fm) : (stk F S).set S.length F' = stk F' S := by
  unfold stk
  rw [List.set_append_right _ _ (by simp)]
  simp
def botF (s : Fm × List Fm) : Fm := (stk s.1 s.2).headD sent
theorem stk_head (F : Fm) (S : List Fm) : (stk F S)[0]? = some ((stk F S).headD sent) := by
  cases h : stk F S with
  | nil => have := stk_len F S; rw [h] at this; simp at this
  | cons a b => rfl
theorem runS_snoc {l : List Nd} {i : Nat} (h : i < l.length) : runS (l.take (i + 1)) = push (runS (l.take i)) l[i] := by
  unfold runS; rw [foldl_take _ _ h]
theorem settle_len : ∀ (S : List Fm) (F : Fm), (settleF F S).2.length ≤ S.length
  | [], _ => Nat.le_refl _
  | G :: S, F => by
    rw [settleF]; split
    · have := settle_len S (pop1 F G); rw [List.length_cons]; omega
    · exact Nat.le_refl _
theorem runS_len (l : List Nd) : (runS l).2.length ≤ l.length := by
  have key : ∀ (l : List Nd) (s : Fm × List Fm), (l.foldl push s).2.length ≤ s.2.length + l.length := by
    intro l
    induction l with
    | nil => intro s; exact Nat.le_refl _
    | cons x l ih =>
      intro s
      have h1 := ih (push s x)
      have h2 := settle_len (s.1 :: s.2) (mk x)
      rw [List.foldl_cons, List.length_cons]
      rw [List.length_cons] at h2
      have h3 : (push s x).2.length = (settleF (mk x) (s.1 :: s.2)).2.length := rfl
      omega
  have := key l (sent, [])
  simpa [runS] using this
def depV (l : List Nd) : Int := if wholeV l = true then (botF (runS l)).dep else 0
def lenV (l : List Nd) : Int × Bool := if wholeV l = true ∧ (botF (runS l)).tot ≤ 4096 then ((botF (runS l)).tot, true) else (0, false)
def rightN (l : List Nd) : Int := if 128 < l.length then 3 else if wholeV l = false then 12 else if 16 < depV l then 14 else if (lenV l).2 = false then 18 else 0

end Go.AM.PL
