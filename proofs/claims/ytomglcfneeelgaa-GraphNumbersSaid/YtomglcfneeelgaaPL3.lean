/- Contracts of the functions that the statement reaches. No condition. -/
import Derived.Test.YtomglcfneeelgaaPL2
set_option linter.all false
set_option maxRecDepth 10000
namespace Go.AM.PL
structure Nd where
  k : Int
  p : Int
  n : Int
deriving DecidableEq
def encD (x : Nd) : List GV := [.v (.int .i64 x.k), .v (.int .i64 x.p), .v (.int .i64 x.n)]
structure Fm where
  x : Nd
  left : Int
  dep : Int
  tot : Int
def kidV (x : Nd) : Int :=
  if x.n < 1 ∨ (x.k ≠ 1 ∧ x.p ≠ 0) then -1
  else if (x.k = 1 ∧ 0 ≤ x.p ∧ x.p < 6) ∨ x.k = 2 then 0
  else if x.k = 3 ∧ x.n ≤ 128 then x.n
  else if x.k = 4 then 1 else -1
theorem kidV_rng (x : Nd) : -1 ≤ kidV x ∧ kidV x ≤ 128 := by unfold kidV; (repeat' split) <;> omega
theorem kidV_pos {x : Nd} (h : 0 ≤ kidV x) : 1 ≤ x.n := by unfold kidV at h; split at h <;> omega
def timV (a b : Int) : Int := min 4097 (IntKind.i64.wrap (min 4097 a * b))
def addV (a b : Int) : Int := min 4097 (IntKind.i64.wrap (a + min 4097 b))
def scan : List Nd → Int → Int → Int
  | [], _, _ => 0
  | x :: l, s, c => if kidV x < 0 then 0 else if s + (kidV x - 1) = 0 then c + 1 else scan l (s + (kidV x - 1)) (c + 1)
def sizeV (l : List Nd) (a : Int) : Int := if a < 0 ∨ (l.length : Int) ≤ a then 0 else scan (l.drop a.toNat) 1 0
theorem scan_rng : ∀ (l : List Nd) (s c : Int), 0 ≤ c → 0 ≤ scan l s c ∧ scan l s c ≤ c + l.length
  | [], s, c, h => by simp [scan]; omega
  | x :: l, s, c, h => by
    have ih := scan_rng l (s + (kidV x - 1)) (c + 1) (by omega)
    rw [scan, List.length_cons]
    split
    · omega
    · split <;> omega
theorem sizeV_rng (l : List Nd) (a : Int) : 0 ≤ sizeV l a ∧ (0 < sizeV l a → 0 ≤ a ∧ a < l.length ∧ a + sizeV l a ≤ l.length) := by
  unfold sizeV
  split
  · omega
  · have := scan_rng (l.drop a.toNat) 1 0 (by omega)
    rw [List.length_drop] at this
    omega
def wholeV (l : List Nd) : Bool := decide (0 < l.length) && decide (sizeV l 0 = l.length)
def pop1 (F G : Fm) : Fm := ⟨G.x, IntKind.i64.wrap (G.left - 1), max G.dep (IntKind.i64.wrap (F.dep + 1)), addV G.tot (if F.x.k = 4 then timV F.x.n F.tot else F.tot)⟩
def settleF : Fm → List Fm → Fm × List Fm
  | F, [] => (F, [])
  | F, G :: S => if F.left = 0 then settleF (pop1 F G) S else (F, G :: S)
def mk (x : Nd) : Fm := ⟨x, kidV x, 0, if kidV x = 0 then min 4097 x.n else 0⟩
def push (s : Fm × List Fm) (x : Nd) : Fm × List Fm := settleF (mk x) (s.1 :: s.2)
def sent : Fm := ⟨⟨0, 0, 0⟩, 1, 0, 0⟩
def runS (l : List Nd) : Fm × List Fm := l.foldl push (sent, [])
def stk (F : Fm) (S : List Fm) : List Fm := S.reverse ++ [F]
def botF (s : Fm × List Fm) : Fm := (stk s.1 s.2).headD sent
def depV (l : List Nd) : Int := if wholeV l = true then (botF (runS l)).dep else 0
def lenV (l : List Nd) : Int × Bool := if wholeV l = true ∧ (botF (runS l)).tot ≤ 4096 then ((botF (runS l)).tot, true) else (0, false)
def rightN (l : List Nd) : Int := if 128 < l.length then 3 else if wholeV l = false then 12 else if 16 < depV l then 14 else if (lenV l).2 = false then 18 else 0
end Go.AM.PL
