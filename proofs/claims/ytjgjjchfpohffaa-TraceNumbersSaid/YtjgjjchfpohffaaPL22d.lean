/- Contracts of the functions that the statement reaches. No condition. -/
import Derived.Test.YtjgjjchfpohffaaPL22c
set_option linter.all false
set_option maxRecDepth 10000
namespace Go.AM.PL
def base : List Lcl := [⟨1, 2, 4, 5, 0, 7⟩, ⟨2, 0, 0, 0, 0, 0⟩, ⟨3, 0, 0, 0, 0, 0⟩, ⟨4, 0, 0, 0, 0, 0⟩]
def updK (k : Int) (x : Lcl) : Lcl :=
  if k = 0 then { x with t := IntKind.i64.wrap (x.t + 1) } else if k = 1 then { x with p := IntKind.i64.wrap (x.p + 1) } else if k = 2 then { x with c := IntKind.i64.wrap (x.c + 1) }
  else if k = 3 then { x with o := IntKind.i64.wrap (x.o + 1) } else if k = 4 then { x with f := IntKind.i64.wrap (x.f + 1) } else if k = 5 then { x with v := IntKind.u32.wrap (x.v + 1) } else x
theorem small2 {a b : List Lcl} (h1 : a.length ≤ 2 ^ 50) (h2 : b.length ≤ 2 ^ 50) : small [a, b] := small1 _ (by simp) (fun r hr => by
  simp only [List.mem_cons, List.not_mem_nil, or_false] at hr
  rcases hr with h | h <;> rw [h] <;> assumption)
theorem small0 {a : List Lcl} (h1 : a.length ≤ 2 ^ 50) : small [a] := small1 _ (by simp) (fun r hr => by
  rw [List.mem_singleton.1 hr]; exact h1)

end Go.AM.PL
