/- Rules for the machine. No condition. -/
import Derived.Test.YtkohanehgndmhaaW2
set_option linter.all false
namespace Go.AM
section
variable {A : AProg}
def evOp0 (o : AOp) (fr : T AV) (H : Heap) (K : AV → Heap → Prop) : Prop :=
  match evOp (fun _ _ _ => none) o fr H with
  | some (v, H') => K v H'
  | none => False
def wpOp (A : AProg) (o : AOp) (fr : T AV) (H : Heap) (K : AV → Heap → Prop) : Prop :=
  match o with
  | .call f xs => match evXs fr xs with | some vs => WpCall A f vs H K | none => False
  | .callv x xs => match evX fr x with
    | some (.fn f cs) => match evXs fr xs with | some vs => WpCall A f (vs ++ cs) H K | none => False
    | _ => False
  | o => evOp0 o fr H K
def wpOps (A : AProg) : List AOper → T AV → Heap → (T AV → Heap → Prop) → Prop
  | [], fr, H, Q => Q fr H
  | o :: l, fr, H, Q => match o.guard with
    | none => wpOp A o.op fr H (fun v H => wpOps A l (putD fr o.dst v) H Q)
    | some (g, w) => match fr.get g with
      | some (.v (.bool b)) => if b = w then wpOp A o.op fr H (fun v H => wpOps A l (putD fr o.dst v) H Q) else wpOps A l (putD fr o.dst (.tup [])) H Q
      | some (.tup _) => wpOps A l (putD fr o.dst (.tup [])) H Q
      | _ => False
theorem evOp0_ok {o : AOp} {fr : T AV} {H : Heap} {K : AV → Heap → Prop} (h : evOp0 o fr H K) : WpOp A o fr H K := by
  unfold evOp0 at h
  split at h
  · rename_i v H' e; exact WpOp.eval e h
  · exact h.elim
theorem wpOp_ok {o : AOp} {fr : T AV} {H : Heap} {K : AV → Heap → Prop} (h : wpOp A o fr H K) : WpOp A o fr H K := by
  unfold wpOp at h
  split at h
  · split at h
    · rename_i e; exact WpOp.call e h
    · exact h.elim
  · split at h
    · rename_i e0
      split at h
      · rename_i e; exact WpOp.callv e0 e h
      · exact h.elim
    · exact h.elim
  · exact evOp0_ok h
theorem wpOps_ok : ∀ {l : List AOper} {fr : T AV} {H : Heap} {Q : T AV → Heap → Prop}, wpOps A l fr H Q → WpOps A l fr H Q
  | [], fr, H, Q, h => WpOps.nil h
  | o :: l, fr, H, Q, h => by
    rw [wpOps] at h
    split at h
    · rename_i hg
      exact WpOps.cons hg ((wpOp_ok h).mono fun v H h => wpOps_ok h)
    · rename_i g w hg
      split at h
      · rename_i b hx
        refine WpOps.consG hg hx (fun hb => ?_) (fun hb => ?_)
        · rw [if_pos hb] at h; exact (wpOp_ok h).mono fun v H h => wpOps_ok h
        · rw [if_neg hb] at h; exact wpOps_ok h
      · rename_i vs hx
        exact WpOps.consT hg hx (wpOps_ok h)
      · exact h.elim
theorem Wp.regS {id : Nat} {l : List AOper} {fr : T AV} {H : Heap} {Q : AE → T AV → Heap → Prop} (h : wpOps A l fr H (Q .nm)) : Wp A (.reg id false l) fr H Q := Wp.reg (wpOps_ok h)
theorem T.get_set_self {α : Type} (t : T α) (k : Nat) (x : Option α) : (t.set k x).get k = x := by rw [T.get_set, if_pos rfl]
end
end Go.AM
