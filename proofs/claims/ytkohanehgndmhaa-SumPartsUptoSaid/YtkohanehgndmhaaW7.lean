/- Rules for the machine. No condition. -/
import Derived.Test.YtkohanehgndmhaaW6
set_option linter.all false
namespace Go.AM
section
variable {L : List (Nat × AV)} {H : Heap}
/-! ## Results -/
theorem R.nil {fr : T AV} : getResults H fr [] = some [] := rfl
theorem R.cons {fr : T AV} {r : ARes} {rs : List ARes} {v : AV} {vs : List AV} (h : getResult H fr r = some v) (k : getResults H fr rs = some vs) : getResults H fr (r :: rs) = some (v :: vs) := by
  rw [getResults, h, k]
theorem R.tmp {t : Nat} {v : AV} (h : lk L t = some v) : getResult H (mkF L) (.tmp t) = some v := lk_get h
theorem R.cell1 {t b off : Nat} {blk : Blk} {v : AV} (h : lk L t = some (.ptr b off)) (hb : H.blks.get b = some blk) (hv : blk.cells[off]? = some v) : getResult H (mkF L) (.cell1 t) = some v := by
  have : takeN 1 (blk.cells.drop off) = some [v] := by
    have e : (blk.cells.drop off).head? = some v := by rw [List.head?_drop, hv]
    match hd : blk.cells.drop off, e with
    | x :: r, e => simp at e; simp [takeN, e]
  simp only [getResult, lk_get h, getN, hb, this]
theorem R.cellN {t n b off : Nat} {blk : Blk} {vs : List AV} (h : lk L t = some (.ptr b off)) (hb : H.blks.get b = some blk) (hv : takeN n (blk.cells.drop off) = some vs) : getResult H (mkF L) (.cellN t n) = some (.agg vs) := by
  simp only [getResult, lk_get h, getN, hb, hv, Option.map]
theorem R.done {fr : T AV} {rs : List ARes} {vs : List AV} {Q : AV → Heap → Prop} {e : AE} (he : ∀ i, e ≠ .ex i) (h : getResults H fr rs = some vs) (k : Q (outA vs) H) : funP rs Q e fr H := by
  cases e with
  | ex i => exact absurd rfl (he i)
  | nm => exact ⟨vs, h, k⟩
  | rt => exact ⟨vs, h, k⟩
end
end Go.AM
