/- Contracts of the functions that the statement reaches. No condition. -/
import Derived.Test.YthmcocmhalhbfaaPLo
set_option linter.all false
set_option maxRecDepth 10000
namespace Go.AM.PL
structure Pc where
 p : Pt
 pr : List Sp
def encX (c : Pc) : List GV := [.v (.string c.p.name), .v (.int .i64 c.p.bud), .v (.int .i64 c.p.per), .v (.bool c.p.sched), .v (.bool c.p.stop), .fsl 2 (c.pr.map encSp), .v (.int .i64 c.p.h0), .v (.int .i64 c.p.h1), .v (.int .i64 c.p.h2), .v (.int .i64 c.p.h3), .v (.int .i64 c.p.h4)]
def encTb (t : List Nd) : List GV := [.fsl 3 (t.map encD)]
def parts (X : List Pc) : List Pt := X.map (·.p)
theorem VR.fany {Z : ZM} {om : Om} {w k : Nat} {cs : List (List GV)} {a : AV} (h : VR Z om (.fsl w cs) a) : VR Z om (.fsl w (cs.map fun c => c.set k .any)) a := by
 have hp := h.fsl_inv
 cases a with
 | sl b off len cap ex =>
   obtain ⟨rfl, h2, zb, h3, h4, h5⟩ := hp.sl_inv
   have := PR.sl (zb := zb) (cs := cs.map fun c => c.set k .any) (ex := ex) (cap := cap) h3 h4 (by rw [List.length_map]) h2 h5.any
   exact .pure this
 | v x => cases hp; exact .pure .fnil
 | _ => cases hp
theorem encX_any (X : List Pc) : (X.map encX).map (fun c => c.set 5 .any) = (parts X).map encP := by
 unfold parts; rw [List.map_map, List.map_map]; rfl
theorem cfgAny {A : AProg} {f : Nat} {X : List Pc} {b c : GV} {vs : List GV} {P : GHp} {K : GV → GHp → Prop} (hc : WpCallG A f (.agg [.fsl 11 ((parts X).map encP), b, c] :: vs) P K) : WpCallG A f (.agg [.fsl 11 (X.map encX), b, c] :: vs) P K := fun Z om as H hr hv => by
 cases hv with
 | cons h k =>
   obtain ⟨bs, rfl, h1, h2⟩ := h.agg_inv
   refine hc Z om _ H hr (.cons (.agg h1 fun i x y e f => ?_) k)
   match i, e with
   | 0, e => cases e; rw [← encX_any]; exact VR.fany (h2 0 _ y rfl f)
   | 1, e => cases e; exact h2 1 b y rfl f
   | 2, e => cases e; exact h2 2 c y rfl f
theorem parts_len (X : List Pc) : (parts X).length = X.length := by unfold parts; rw [List.length_map]
def hs5 (c : Pc) : List Int := [c.p.h0, c.p.h1, c.p.h2, c.p.h3, c.p.h4]
theorem hs5_at {c : Pc} {k : Nat} (h : k < 5) : ([.v (.int .i64 c.p.h0), .v (.int .i64 c.p.h1), .v (.int .i64 c.p.h2), .v (.int .i64 c.p.h3), .v (.int .i64 c.p.h4)] : List GV)[k]? = some (.v (.int .i64 ((hs5 c).getD k 0))) := by
 have : k = 0 ∨ k = 1 ∨ k = 2 ∨ k = 3 ∨ k = 4 := by omega
 rcases this with rfl | rfl | rfl | rfl | rfl <;> rfl
theorem str_at {s : ByteArray} {k : Nat} (h : (k : Int) < (s.size : Int)) : s.data.toList[k]? = some (s.data.toList.getD k 0) := by
 have h2 : k < s.data.toList.length := by
  have : s.size = s.data.size := rfl
  rw [Array.length_toList]; omega
 rw [List.getD_eq_getElem?_getD, List.getElem?_eq_getElem h2]; rfl
end Go.AM.PL
set_option linter.all false
set_option maxRecDepth 10000
namespace Go.AM.PL
def encRs (r : List Rn) : List GV := [.fsl 2 (r.map encN)]
def okCh (n : Int) (x : Ch) : Prop := (0 ≤ x.fr ∧ x.fr < n) ∧ 0 ≤ x.to ∧ x.to < n
def okCs (n : Int) (C : List Ch) : Prop := ∀ x ∈ C, okCh n x
def okXs (X : List Pc) : Prop := ∀ c ∈ X, c.p.name.size ≤ 2 ^ 40 ∧ c.pr.length ≤ 2 ^ 40 ∧ i64 c.p.per
theorem okCs_set {n : Int} {C : List Ch} (h : okCs n C) {i : Nat} {x : Ch} (hx : okCh n x) : okCs n (C.set i x) := fun y hy => by
 rcases List.mem_or_eq_of_mem_set hy with h1 | rfl
 ·exact h y h1
 ·exact hx
theorem okXs_set {X : List Pc} (h : okXs X) {i : Nat} (hi : i < X.length) {b p : Int} (hp : i64 p) : okXs (X.set i { X[i] with p := { X[i].p with bud := b, per := p } }) := fun y hy => by
 rcases List.mem_or_eq_of_mem_set hy with h1 | rfl
 ·exact h y h1
 ·have := h X[i] (List.getElem_mem hi)
  exact ⟨this.1, this.2.1, hp⟩
def divV (per : Int) : Nat → Int
 | 0 => per
 | 1 => per
 | k + 2 => if per % ((k + 2 : Nat) : Int) = 0 then per / ((k + 2 : Nat) : Int) else divV per (k + 1)
theorem divV_T {per : Int} {k : Nat} (h : 1 < k) (e : per % (k : Int) = 0) : divV per k = per / (k : Int) := by
 obtain ⟨m, rfl⟩ : ∃ m, k = m + 2 := ⟨k - 2, by omega⟩
 unfold divV; rw [if_pos e]
theorem divV_F {per : Int} {k : Nat} (h : 1 < k) (e : ¬ per % (k : Int) = 0) : divV per k = divV per (k - 1) := by
 obtain ⟨m, rfl⟩ : ∃ m, k = m + 2 := ⟨k - 2, by omega⟩
 rw [divV, if_neg e]; rfl
theorem divV_1 {per : Int} {k : Nat} (h : ¬ 1 < k) : divV per k = per := by
 have : k = 0 ∨ k = 1 := by omega
 rcases this with rfl | rfl <;> rfl
theorem divV_rng {per : Int} (h0 : 0 ≤ per) (h : per ≤ 4096) : ∀ k, 0 ≤ divV per k ∧ divV per k ≤ 4096
 | 0 => ⟨h0, h⟩
 | 1 => ⟨h0, h⟩
 | k + 2 => by
   unfold divV
   split
   ·have h1 := Int.ediv_nonneg h0 (show (0 : Int) ≤ ((k + 2 : Nat) : Int) by omega)
    have h2 := Int.ediv_le_self (((k + 2 : Nat) : Int)) h0
    omega
   ·exact divV_rng h0 h (k + 1)
theorem late_up {r : List Rn} (h : goodR r) (p q : Int) : -1 ≤ lateV r p q ∧ lateV r p q ≤ 4096 := by
 have h1 : ∀ x ∈ r, 1 ≤ x.n := fun x hx => (h.1 x hx).2
 cases r with
 | nil => unfold lateV; rw [if_pos (by rfl)]; decide
 | cons x r =>
   have := late_le h1 (wlen_pos h1 (by simp)) p q
   have := h.2.2
   omega
theorem total_good {r : List Rn} (h : goodR r) : 0 ≤ total r ∧ total r ≤ 4096 := by
 have h1 : ∀ x ∈ r, 1 ≤ x.n := fun x hx => (h.1 x hx).2
 have h2 := h.2.2
 have h3 : 0 ≤ wlen r := by unfold wlen; omega
 rw [total_wlen h1 (by omega)]; omega
theorem rs_good {rs : List (List Rn)} {r : List Rn} (h : ∀ x ∈ rs, goodR x) (hr : goodR r) : ∀ x ∈ rs ++ [r], goodR x := fun x hx => by
 rcases List.mem_append.1 hx with h1 | h1
 ·exact h x h1
 ·rw [List.mem_singleton.1 h1]; exact hr
theorem enc_size (n : Int) : (Utf8.encode n).size ≤ 4 := by
 unfold Utf8.encode
 dsimp only
 (repeat' split) <;> exact of_decide_eq_true rfl
section
variable {rs : List (List Rn)} {n : Int} {C : List Ch} {X : List Pc}
def chR (rs : List (List Rn)) (c : Ch) : Prop := ∀ r ∈ rs, lateBad r c = false
def okCR (rs : List (List Rn)) (n : Int) (C : List Ch) : Prop := okCs n C ∧ ∀ c ∈ C, chR rs c
def ptR (rs : List (List Rn)) (i : Nat) (p : Pt) : Prop := ∀ r ∈ rs, shortBad r i p = false
def okXR (rs : List (List Rn)) (X : List Pc) : Prop := okXs X ∧ ∀ i (h : i < X.length), ptR rs i X[i].p
theorem chR_0 {c : Ch} (h : c.late = 0) : chR rs c := fun r _ => by unfold lateBad; rw [h]; rfl
theorem ptR_0 {i : Nat} {p : Pt} (h : p.bud = 0) : ptR rs i p := fun r _ => by unfold shortBad; rw [h]; rfl
theorem okCR_0 (h : okCs n C) (h0 : ∀ c ∈ C, c.late = 0) : okCR rs n C := ⟨h, fun c hc => chR_0 (h0 c hc)⟩
theorem okXR_0 (h : okXs X) (h0 : ∀ c ∈ X, c.p.bud = 0) : okXR rs X := ⟨h, fun i hi => ptR_0 (h0 _ (List.getElem_mem hi))⟩
theorem okCR_set (h : okCR rs n C) {i : Nat} (hi : i < C.length) {x : Int} (hx : ∀ r ∈ rs, 0 ≤ lateV r C[i].fr C[i].to ∧ lateV r C[i].fr C[i].to ≤ x) : okCR rs n (C.set i { C[i] with late := x }) := by
 refine ⟨okCs_set h.1 (h.1 C[i] (List.getElem_mem hi)), fun c hc => ?_⟩
 rcases List.mem_or_eq_of_mem_set hc with h1 | rfl
 ·exact h.2 c h1
 ·intro r hr
  have := hx r hr
  unfold lateBad
  dsimp only
  rw [decide_eq_false (show ¬ lateV r C[i].fr C[i].to > x by omega), show (lateV r C[i].fr C[i].to == -1) = false from beq_eq_false_iff_ne.2 (by omega), Bool.or_self, Bool.and_false]
theorem okXR_set (h : okXR rs X) {i : Nat} (hi : i < X.length) {b p : Int} (hp : i64 p) (hb : ∀ r ∈ rs, b ≤ 0 ∨ b ≤ budV r (i : Int) p) : okXR rs (X.set i { X[i] with p := { X[i].p with bud := b, per := p } }) := by
 refine ⟨okXs_set h.1 hi hp, fun k hk => ?_⟩
 rw [List.length_set] at hk
 rw [List.getElem_set]
 split
 ·rename_i e
  subst e
  intro r hr
  unfold shortBad
  dsimp only
  rcases hb r hr with h1 | h1
  ·rw [decide_eq_false (by omega), Bool.false_and]
  ·rw [decide_eq_false (show ¬ budV r (i : Int) p < b by omega), Bool.and_false]
 ·exact h.2 k hk
theorem hold_R (hC : okCR rs n C) (hX : okXR rs X) {r : List Rn} (hr : r ∈ rs) : holdV C (X.map Pc.p) r = 0 := by
 unfold holdV
 rw [if_neg, if_neg]
 ·rw [anyShort_no.2 fun i hi => by
   rw [List.length_map] at hi
   rw [List.getElem_map, Nat.zero_add]
   exact hX.2 i hi r hr]
  decide
 ·intro c
  obtain ⟨x, hx, h1⟩ := List.any_eq_true.1 c
  rw [hC.2 x hx r hr] at h1
  cases h1
def lwI (rs : List (List Rn)) (fr to : Int) (k : Nat) (w : Int) : Prop := w = -1 ∨ ∀ r ∈ rs.take k, 0 ≤ lateV r fr to ∧ lateV r fr to ≤ w
theorem lw_0 {fr to : Int} : lwI rs fr to 0 0 := .inr fun r hr => by simp at hr
theorem lw_max {fr to w z : Int} {k : Nat} (hk : k < rs.length) (h : lwI rs fr to k w) (hw : ¬ w < 0) (hz : lateV rs[k] fr to = z) (hz0 : ¬ z < 0) : lwI rs fr to (k + 1) (max w z) := by
 refine .inr fun r hr => ?_
 rw [List.take_succ_eq_append_getElem hk] at hr
 rcases List.mem_append.1 hr with h1 | h1
 ·have := (h.resolve_left (by omega)) r h1
  omega
 ·rw [List.mem_singleton.1 h1, hz]; omega
theorem lw_end {fr to w : Int} {k : Nat} (h : lwI rs fr to k w) (hk : rs.length ≤ k) (hw : 0 < w) {x : Int} (hx : w ≤ x) : ∀ r ∈ rs, 0 ≤ lateV r fr to ∧ lateV r fr to ≤ x := fun r hr => by
 have h1 := h.resolve_left (by omega)
 rw [List.take_of_length_le hk] at h1
 have := h1 r hr
 omega
def bdI (rs : List (List Rn)) (i pe : Int) (k : Nat) (w : Int) : Prop := ∀ r ∈ rs.take k, w ≤ budV r i pe
theorem bd_0 {i pe w : Int} : bdI rs i pe 0 w := fun r hr => by simp at hr
theorem bd_min {i pe w z : Int} {k : Nat} (hk : k < rs.length) (h : bdI rs i pe k w) (hz : budV rs[k] i pe = z) : bdI rs i pe (k + 1) (min w z) := fun r hr => by
 rw [List.take_succ_eq_append_getElem hk] at hr
 rcases List.mem_append.1 hr with h1 | h1
 ·have := h r h1; omega
 ·rw [List.mem_singleton.1 h1, hz]; omega
theorem bd_end {i pe w : Int} {k : Nat} (h : bdI rs i pe k w) (hk : rs.length ≤ k) {x : Int} (hx : x ≤ w) : ∀ r ∈ rs, x ≤ 0 ∨ x ≤ budV r i pe := fun r hr => by
 unfold bdI at h
 rw [List.take_of_length_le hk] at h
 have := h r hr
 omega
end
end Go.AM.PL
set_option linter.all false
set_option maxRecDepth 10000
namespace Go.AM.PL
def CfgOk (X : List Pc) (C : List Ch) (tabs : List (List Nd)) : Prop := ((1 ≤ X.length ∧ X.length ≤ 4) ∧ okXs X) ∧ (C.length ≤ 20 ∧ okCs (X.length : Int) C) ∧ (1 ≤ tabs.length ∧ tabs.length ≤ 3) ∧ (∀ t ∈ tabs, t.length ≤ 2 ^ 20) ∧ ∀ tb ∈ tabs, holdV C (X.map Pc.p) (ofV tb) = 0
def setH (c : Pc) (k : Nat) (z : Int) : Pc := match k with
 | 0 => { c with p := { c.p with h0 := z } }
 | 1 => { c with p := { c.p with h1 := z } }
 | 2 => { c with p := { c.p with h2 := z } }
 | 3 => { c with p := { c.p with h3 := z } }
 | _ => { c with p := { c.p with h4 := z } }
theorem putH {c : Pc} {k : Nat} {z : Int} (h : k < 5) : putG (encX c) (0 + 6 + k * 1) [.v (.int .i64 z)] = some (encX (setH c k z)) := by
 have : k = 0 ∨ k = 1 ∨ k = 2 ∨ k = 3 ∨ k = 4 := by omega
 rcases this with rfl | rfl | rfl | rfl | rfl <;> rfl
def okX1 (c : Pc) : Prop := (c.p.name.size ≤ 2 ^ 40 ∧ c.pr.length ≤ 2 ^ 40 ∧ i64 c.p.per) ∧ c.p.bud = 0
def okX0 (X : List Pc) : Prop := okXs X ∧ ∀ c ∈ X, c.p.bud = 0
def okC0 (n : Int) (C : List Ch) : Prop := okCs n C ∧ ∀ c ∈ C, c.late = 0
theorem okX1_set {c : Pc} {k : Nat} {z : Int} (h : okX1 c) : okX1 (setH c k z) := by
 unfold setH; split <;> exact h
theorem okX0_app {X : List Pc} {c : Pc} (h : okX0 X) (k : okX1 c) : okX0 (X ++ [c]) := by
 refine ⟨fun y hy => ?_, fun y hy => ?_⟩
 ·rcases List.mem_append.1 hy with h1 | h1
  ·exact h.1 y h1
  ·rw [List.mem_singleton.1 h1]; exact k.1
 ·rcases List.mem_append.1 hy with h1 | h1
  ·exact h.2 y h1
  ·rw [List.mem_singleton.1 h1]; exact k.2
theorem okCs_app {n : Int} {C : List Ch} {x : Ch} (h : okCs n C) (k : okCh n x) : okCs n (C ++ [x]) := fun y hy => by
 rcases List.mem_append.1 hy with h1 | h1
 ·exact h y h1
 ·rw [List.mem_singleton.1 h1]; exact k
theorem okC0_app {n : Int} {C : List Ch} {x : Ch} (h : okC0 n C) (k : okCh n x) (l : x.late = 0) : okC0 n (C ++ [x]) := by
 refine ⟨okCs_app h.1 k, fun y hy => ?_⟩
 rcases List.mem_append.1 hy with h1 | h1
 ·exact h.2 y h1
 ·rw [List.mem_singleton.1 h1]; exact l
theorem tabs_app {tabs : List (List Nd)} {tb : List Nd} (h : ∀ x ∈ tabs, x.length ≤ 2 ^ 20) (k : tb.length ≤ 2 ^ 20) : ∀ x ∈ tabs ++ [tb], x.length ≤ 2 ^ 20 := fun y hy => by
 rcases List.mem_append.1 hy with h1 | h1
 ·exact h y h1
 ·rw [List.mem_singleton.1 h1]; exact k
theorem addStr {a b : ByteArray} (h : a.size + b.size ≤ 2 ^ 62) : binV .add (.string a) (.string b) = some (.string (a ++ b)) := by
 show (if ((a.size + b.size : Nat) : Int) > IntKind.i64.max then none else _) = _
 rw [if_neg (by rw [show IntKind.i64.max = 9223372036854775807 by decide]; omega)]
theorem addStr1 {n : Int} : binV .add (.string ⟨#[112]⟩) (.string (Utf8.encode n)) = some (.string (⟨#[112]⟩ ++ Utf8.encode n)) := addStr (by have := enc_size n; have : (⟨#[112]⟩ : ByteArray).size = 1 := rfl; omega)
theorem name_size {s : ByteArray} {n : Int} (h : s.size ≤ 100) : (s ++ Utf8.encode n).size ≤ 2 ^ 40 := by
 have := enc_size n
 rw [ByteArray.size_append]; omega
theorem ch_ok {n u v : Int} (hn : 1 < n) (h0 : 0 ≤ u) (h1 : u < n) {q : Bool} {c m l : Int} : okCh n ⟨u, v % n, q, c, m, l⟩ := ⟨⟨h0, h1⟩, Int.emod_nonneg _ (by omega), Int.emod_lt_of_pos _ (by omega)⟩
end Go.AM.PL
set_option linter.all false
set_option maxRecDepth 10000
namespace Go.AM.PL
section
variable {P : List Pt} {C : List Ch} {n : Nat} {f g : Nat → Nat → Bool} {x : Ch}
end
/-! with a channel more -/
section
variable {P : List Pt} {C : List Ch} {ch : Ch}
end
section
variable {F : Nat → Bool} {now : List Nat} {j : Nat}
end
end Go.AM.PL
namespace Go.AM.PL
end Go.AM.PL
namespace Go.AM.PL
end Go.AM.PL
namespace Go.AM.PL
end Go.AM.PL
