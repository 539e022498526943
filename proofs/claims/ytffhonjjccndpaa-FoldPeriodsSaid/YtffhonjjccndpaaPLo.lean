/- Contracts of the functions that the statement reaches. No condition. -/
import Derived.Test.YtffhonjjccndpaaPLn
import Derived.Test.YtffhonjjccndpaaPLm
set_option linter.all false
set_option maxRecDepth 10000
namespace Go.AM.PL
/-! what is asked -/
structure Pt where
 name : ByteArray
 bud : Int
 per : Int
 sched : Bool
 stop : Bool
 h0 : Int
 h1 : Int
 h2 : Int
 h3 : Int
 h4 : Int
end Go.AM.PL
namespace Go.AM.PL
end Go.AM.PL
namespace Go.AM.PL
end Go.AM.PL
namespace Go.AM.PL
end Go.AM.PL
set_option linter.all false
set_option maxRecDepth 10000
namespace Go.AM.PL
section
variable {l : List Rn} (h : ∀ r ∈ l, 1 ≤ r.n) (k : Nat)
include h
end
section
variable {l : List Rn} {p q v : Int}
end
end Go.AM.PL
set_option linter.all false
set_option maxRecDepth 10000
namespace Go.AM.PL
/-! square tables that are filled row by row -/
/-! who depends, who sways -/
/-! what goes on over others -/
end Go.AM.PL
set_option linter.all false
set_option maxRecDepth 10000
namespace Go.AM.PL
namespace Fo
end Fo
end Go.AM.PL
set_option linter.all false
set_option maxRecDepth 10000
namespace Go.AM.PL
namespace Fo
def repL : Nat → List Rn → List Rn
 | 0, _ => []
 | n + 1, l => repL n l ++ l
def lvX (x : Nd) (t : List Rn) : List Rn := if x.k = 4 then repL x.n.toNat t else if kidV x = 0 then [⟨if x.k = 1 then x.p else -1, x.n⟩] else t
def lv : Fo → List Rn
 | nil => []
 | cons x ks r => lvX x (lv ks) ++ lv r
theorem lv_one (x : Nd) (ks : Fo) : (one x ks).lv = lvX x ks.lv := by simp [one, lv]
theorem enc_inj : ∀ {f g : Fo} {a b : List Nd}, f.ok → g.ok → f.cnt = g.cnt → enc f ++ a = enc g ++ b → f = g ∧ a = b
 | nil, g, a, b, _, _, hc, h => by
   obtain rfl := cnt_zero (f := g) hc.symm
   exact ⟨rfl, h⟩
 | cons x ks r, nil, a, b, _, _, hc, h => by simp only [cnt] at hc; omega
 | cons x ks r, cons x' ks' r', a, b, hf, hg, hc, h => by
   simp only [enc, List.cons_append, List.cons.injEq, List.append_assoc] at h
   obtain ⟨rfl, h⟩ := h
   obtain ⟨rfl, h2⟩ := enc_inj hf.2.1 hg.2.1 (by have h1 := hf.1; have h2 := hg.1; omega) h
   simp only [cnt] at hc
   obtain ⟨rfl, h3⟩ := enc_inj hf.2.2 hg.2.2 (by omega) h2
   exact ⟨rfl, h3⟩
theorem enc_one {x y : Nd} {ks js : Fo} (hx : (one x ks).ok) (hy : (one y js).ok) (h : enc (one x ks) = enc (one y js)) : x = y ∧ ks = js := by
 have := (enc_inj (a := []) (b := []) hx hy rfl (by rw [List.append_nil, List.append_nil]; exact h)).1
 cases this
 exact ⟨rfl, rfl⟩
end Fo
end Go.AM.PL
set_option linter.all false
set_option maxRecDepth 10000
namespace Go.AM.PL
end Go.AM.PL
set_option linter.all false
set_option maxRecDepth 10000
namespace Go.AM.PL
section
variable {w : List Int} {p q : Int} {t v : Nat}
end
section
variable {l : List Rn} {p q : Int}
end
end Go.AM.PL
