/- The machine over plain data: rules for each operation, calls. No condition. -/
import Derived.Test.YtkohanehgndmhaaGM11
set_option linter.all false
namespace Go.AM
section
variable {A : AProg} {L : GFr} {HG : GHp} {l : List AOper}
theorem GRel.reblk {Z : ZM} {om : Om} {H : Heap} (hr : GRel Z om HG H) {g : Nat} {ob nb : GBlk} (e : lkP HG g = some ob) (hb : BR Z om H g nb) :
    GRel Z om ((g, nb) :: HG) H ∧ Ext Z om HG H Z om ((g, nb) :: HG) H := by
  have hS : ∀ k, (lkP ((g, nb) :: HG) k).isSome = true ↔ (lkP HG k).isSome = true := fun k => by
    rw [lkP_cons]
    split
    · rename_i c; rw [← c, e]; simp
    · exact Iff.rfl
  refine ⟨⟨fun k h => hr.dom k ?_, hr.zok, fun k blk h => ?_, fun g1 g2 b n e1 e2 => hr.sep g1 g2 b n ((hS _).1 e1) ((hS _).1 e2), fun k b h => hr.zsep k b ((hS _).1 h), fun k b blk m h i hb hm => ?_⟩,
    ⟨Nat.le_refl _, .refl _, fun _ _ _ => ⟨rfl, rfl⟩, fun b _ hf => ?_, fun _ _ _ h => h, fun b _ ho => ?_, fun _ _ h k => absurd h k⟩⟩
  · have := (hS k)
    rw [h] at this
    cases hk : lkP HG k with
    | none => rfl
    | some b => rw [hk] at this; simp at this
  · rw [lkP_cons] at h
    split at h
    · rename_i c; cases h; rw [← c]; exact hb
    · exact hr.own k blk h
  · obtain ⟨a1, a2, a3⟩ := hr.mate k b blk m ((hS _).1 h) i hb hm
    exact ⟨a1, a2, fun g' e' => a3 g' ((hS _).1 e')⟩
  · obtain ⟨k, e, f⟩ := hf; exact ⟨k, (hS k).1 e, f⟩
  · obtain ⟨k, e, f⟩ := ho; exact ⟨k, (hS k).1 e, f⟩
theorem GRel.rebox {Z : ZM} {om : Om} {H : Heap} (hr : GRel Z om HG H) {g : Nat} {cs cs' : List GV} (e : lkP HG g = some (.box cs)) (hb : BR Z om H g (.box cs')) :
    GRel Z om ((g, .box cs') :: HG) H ∧ Ext Z om HG H Z om ((g, .box cs') :: HG) H := hr.reblk e hb
/-- the constant nil in a box, as a slice of one's own -/
theorem WpG.ownNilB {c : AC} {b g off w : Nat} {cs : List GV} {Q : AE → GFr → GHp → Prop} (hb : lkP HG b = some (.box cs)) (ho : cs[off]? = some (.v (.slice none 0 0))) (hg : (lkP HG g).isNone = true)
    (h : WpG A c L ((b, .box (cs.set off (.osl g))) :: (g, .arr .yes w []) :: HG) Q) : WpG A c L HG Q := fun Z om fr H hr hf => by
  have hg' : lkP HG g = none := by simpa using hg
  have hr' := hr.nil (full := .yes) (w := w) hg'
  have hle := Om.le_set om g .nil (hr.dom g hg')
  have hne : ¬ g = b := fun c => by rw [c, hb] at hg'; cases hg'
  have e : lkP ((g, GBlk.arr .yes w []) :: HG) b = some (.box cs) := by rw [lkP_cons, if_neg hne]; exact hb
  have hB : BR Z (om.set g .nil) H b (.box (cs.set off (.osl g))) := by
    cases hr'.1.own b _ e with
    | box h1 h2 h3 h4 h5 =>
      refine .box h1 h2 h3 (by rw [List.length_set]; exact h4) (fun i c a e1 e2 => ?_)
      by_cases hi : i = off
      · subst hi
        have hlt : i < cs.length := (List.getElem?_eq_some_iff.1 ho).1
        rw [List.getElem?_set_self hlt] at e1
        cases e1
        obtain rfl := (h5 i _ a ho e2).v_inv
        exact .onil (Om.set_self ..)
      · rw [List.getElem?_set_ne (fun c => hi c.symm)] at e1
        exact h5 i c a e1 e2
  obtain ⟨r1, r2⟩ := hr'.1.rebox e hB
  refine (h Z _ fr H r1 (hf.mono (.refl _) hle)).mono ?_
  rintro e fr' H' ⟨Z', om', L', HG', a, b, c, d⟩
  exact ⟨Z', om', L', HG', a, b, (hr'.2.trans r2).trans c, d⟩
theorem G.eqnilO {d g w : Nat} {full : Fl} {neq : Bool} {x : AX} {cs : List (List GV)} {Q : GFr → GHp → Prop} (hx : lkGX L x = some (.osl g)) (hg : lkP HG g = some (.arr full w cs)) (k : ∀ q : Bool, (q = true → cs = []) → WpOpsG A l ((d, .v (.bool (xor neq q))) :: L) HG Q) : WpOpsG A (⟨some d, .eqnil neq true x, none⟩ :: l) L HG Q :=
  WpOpsG.pureX (d := some d) fun Z om fr H hr hf => by
    obtain ⟨u, h1, h2⟩ := hf.x hx
    rcases h2.osl_inv with ⟨b, o, len, cap, ex, w', e1, rfl⟩ | ⟨e1, rfl⟩
    · exact ⟨_, .v (.bool neq), by simp only [evOp, h1], by rw [Bool.xor_false]; exact .pure (.v _), k false (fun h => by cases h)⟩
    · rcases hr.arr hg with ⟨_, c2⟩ | ⟨_, _, _, _, _, c1, _⟩
      · exact ⟨_, .v (.bool !neq), by simp only [evOp, h1], by rw [Bool.xor_true]; exact .pure (.v _), k true (fun _ => c2)⟩
      · rw [e1] at c1; cases c1
def vI (n : Int) : GV := .v (.int .i64 n)
theorem ld_at (l : List Int) (r : List GV) (m : Int) (hm : 0 ≤ m) (hn : m < l.length) : (l.map vI ++ r)[0 + m.toNat * 1]? = some (vI (l.getD m.toNat 0)) := by
  have h : m.toNat < l.length := by omega
  rw [Nat.zero_add, Nat.mul_one, List.getElem?_append_left (by simpa using h), List.getElem?_map, List.getD_eq_getElem?_getD, List.getElem?_eq_getElem h]; rfl
theorem putG_map (v : Int) : ∀ (l : List Int) (n : Nat), n < l.length → putG (l.map vI) n [vI v] = some ((l.set n v).map vI)
  | x :: l, 0, _ => by
    rw [List.map_cons, putG]
    cases l <;> rfl
  | x :: l, n + 1, h => by
    rw [List.map_cons, putG, putG_map v l n (by simpa using h)]; rfl
  | [], n, h => by simp at h
end
end Go.AM
