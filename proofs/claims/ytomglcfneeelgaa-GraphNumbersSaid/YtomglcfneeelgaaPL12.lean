/- Contracts of the functions that the statement reaches. No condition. -/
import Derived.Test.YtomglcfneeelgaaPL9f
set_option linter.all false
set_option maxRecDepth 10000
namespace Go.AM.PL
structure Pc where
  p : Pt
  pr : List Sp
def encX (c : Pc) : List GV := [.v (.string c.p.name), .v (.int .i64 c.p.bud), .v (.int .i64 c.p.per), .v (.bool c.p.sched), .v (.bool c.p.stop), .fsl 2 (c.pr.map encSp), .v (.int .i64 c.p.h0), .v (.int .i64 c.p.h1), .v (.int .i64 c.p.h2), .v (.int .i64 c.p.h3), .v (.int .i64 c.p.h4)]
def encTb (t : List Nd) : List GV := [.fsl 3 (t.map encD)]
def parts (X : List Pc) : List Pt := X.map (·.p)
theorem VR.fany {Z : ZM} {om : Om} {w k : Nat} {cs : List (List GV)} {a : AV} (h : VR Z om (.fsl w cs) a) : VR Z om (.fsl w (cs.map fun c => c.set k .any)) a := by
  have hp := h.fsl_inv
  cases a with
  | sl b off len cap ex =>
    obtain ⟨rfl, h2, zb, h3, h4, h5⟩ := hp.sl_inv
    have := PR.sl (zb := zb) (cs := cs.map fun c => c.set k .any) (ex := ex) (cap := cap) h3 h4 (by rw [List.length_map]) h2 h5.any
    exact .pure this
  | v x => cases hp; exact .pure .fnil
  | _ => cases hp
theorem encX_any (X : List Pc) : (X.map encX).map (fun c => c.set 5 .any) = (parts X).map encP := by
  unfold parts; rw [List.map_map, List.map_map]; rfl
theorem cfgAny {A : AProg} {f : Nat} {X : List Pc} {b c : GV} {vs : List GV} {P : GHp} {K : GV → GHp → Prop} (hc : WpCallG A f (.agg [.fsl 11 ((parts X).map encP), b, c] :: vs) P K) : WpCallG A f (.agg [.fsl 11 (X.map encX), b, c] :: vs) P K := fun Z om as H hr hv => by
  cases hv with
  | cons h k =>
    obtain ⟨bs, rfl, h1, h2⟩ := h.agg_inv
    refine hc Z om _ H hr (.cons (.agg h1 fun i x y e f => ?_) k)
    match i, e with
    | 0, e => cases e; rw [← encX_any]; exact VR.fany (h2 0 _ y rfl f)
    | 1, e => cases e; exact h2 1 b y rfl f
    | 2, e => cases e; exact h2 2 c y rfl f
theorem parts_len (X : List Pc) : (parts X).length = X.length := by unfold parts; rw [List.length_map]
def hs5 (c : Pc) : List Int := [c.p.h0, c.p.h1, c.p.h2, c.p.h3, c.p.h4]
theorem hs5_at {c : Pc} {k : Nat} (h : k < 5) : ([.v (.int .i64 c.p.h0), .v (.int .i64 c.p.h1), .v (.int .i64 c.p.h2), .v (.int .i64 c.p.h3), .v (.int .i64 c.p.h4)] : List GV)[k]? = some (.v (.int .i64 ((hs5 c).getD k 0))) := by
  have : k = 0 ∨ k = 1 ∨ k = 2 ∨ k = 3 ∨ k = 4 := by omega
  rcases this with rfl | rfl | rfl | rfl | rfl <;> rfl
theorem str_at {s : ByteArray} {k : Nat} (h : (k : Int) < (s.size : Int)) : s.data.toList[k]? = some (s.data.toList.getD k 0) := by
  have h2 : k < s.data.toList.length := by
    have : s.size = s.data.size := rfl
    rw [Array.length_toList]; omega
  rw [List.getD_eq_getElem?_getD, List.getElem?_eq_getElem h2]; rfl
end Go.AM.PL
