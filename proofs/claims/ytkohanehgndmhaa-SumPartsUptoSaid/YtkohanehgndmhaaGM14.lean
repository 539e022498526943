/- The machine over plain data: rules for each operation, calls. No condition. -/
import Derived.Test.YtkohanehgndmhaaGM13
set_option linter.all false
namespace Go.AM
section
variable {A : AProg} {L : GFr} {HG : GHp} {l : List AOper} {Q : GFr → GHp → Prop}
/-! parts of a value's row -/
theorem G.slTake {d w n : Nat} {x xh : AX} {α : Type} {enc : α → List GV} {xs : List α} {k' : IntKind} (hx : lkGX L x = some (.fsl w (xs.map enc))) (hh : lkGX L xh = some (.v (.int k' (n : Int)))) (hn : n ≤ xs.length) (k : WpOpsG A l ((d, .fsl w ((xs.take n).map enc)) :: L) HG Q) : WpOpsG A (⟨some d, .slice w x none (some xh), none⟩ :: l) L HG Q :=
  G.slF (lo := 0) (hi := n) hx (by
    have := bndG_some (L := L) (d := (xs.map enc).length) (hi := (xs.map enc).length) hh ⟨by omega, by rw [List.length_map]; omega⟩
    simpa using this) rfl (by rw [List.drop_zero, ← List.map_take]; exact k)
theorem G.slDrop {d w n : Nat} {x xl : AX} {α : Type} {enc : α → List GV} {xs : List α} {k' : IntKind} (hx : lkGX L x = some (.fsl w (xs.map enc))) (hl : lkGX L xl = some (.v (.int k' (n : Int)))) (hn : n ≤ xs.length) (k : WpOpsG A l ((d, .fsl w ((xs.drop n).map enc)) :: L) HG Q) : WpOpsG A (⟨some d, .slice w x (some xl) none, none⟩ :: l) L HG Q :=
  G.slF (lo := n) (hi := xs.length) hx (by show some (xs.map enc).length = _; rw [List.length_map]) (by
    have := bndG_some (L := L) (d := 0) (hi := xs.length) hl ⟨by omega, by omega⟩
    simpa using this) (by rw [← List.map_take, ← List.map_drop, List.take_length]; exact k)
theorem G.slMid {d w n m : Nat} {x xl xh : AX} {α : Type} {enc : α → List GV} {xs : List α} {k' k'' : IntKind} (hx : lkGX L x = some (.fsl w (xs.map enc))) (hl : lkGX L xl = some (.v (.int k' (n : Int)))) (hh : lkGX L xh = some (.v (.int k'' (m : Int)))) (hn : n ≤ m) (hm : m ≤ xs.length) (k : WpOpsG A l ((d, .fsl w (((xs.take m).drop n).map enc)) :: L) HG Q) : WpOpsG A (⟨some d, .slice w x (some xl) (some xh), none⟩ :: l) L HG Q :=
  G.slF (lo := n) (hi := m) hx (by
    have := bndG_some (L := L) (d := (xs.map enc).length) (hi := (xs.map enc).length) hh ⟨by omega, by rw [List.length_map]; omega⟩
    simpa using this) (by
    have := bndG_some (L := L) (d := 0) (hi := m) hl ⟨by omega, by omega⟩
    simpa using this) (by rw [← List.map_take, ← List.map_drop]; exact k)
/-! more operations -/
theorem G.capNil {d : Nat} {x : AX} (hx : lkGX L x = some (.v (.slice none 0 0))) (k : WpOpsG A l ((d, .v (.int .i64 0)) :: L) HG Q) : WpOpsG A (⟨some d, .capx x, none⟩ :: l) L HG Q :=
  WpOpsG.pure (d := some d) (fun Z om fr H hr hf => by
    obtain ⟨u, h1, h2⟩ := hf.x hx
    obtain rfl := h2.v_inv
    exact ⟨_, by simp only [evOp, h1], .pure (.v _)⟩) k
theorem G.convis {d : Nat} {k' : IntKind} {x : AX} {n : Int} (hx : lkGX L x = some (.v (.int k' n))) (k : WpOpsG A l ((d, .v (.string (Utf8.encode n))) :: L) HG Q) : WpOpsG A (⟨some d, .convis x, none⟩ :: l) L HG Q :=
  WpOpsG.pure (d := some d) (fun Z om fr H hr hf => by
    obtain ⟨u, h1, h2⟩ := hf.x hx
    obtain rfl := h2.v_inv
    exact ⟨_, by simp only [evOp, h1], .pure (.v _)⟩) k
theorem G.aidx {d len : Nat} {k' : IntKind} {x i : AX} {n : Int} {cs : List GV} {v : GV} (hx : lkGX L x = some (.agg cs)) (hi : lkGX L i = some (.v (.int k' n))) (h0 : 0 ≤ n) (hn : n < len) (hv : cs[n.toNat]? = some v) (k : WpOpsG A l ((d, v) :: L) HG Q) : WpOpsG A (⟨some d, .aidx len x i, none⟩ :: l) L HG Q :=
  WpOpsG.pure (d := some d) (fun Z om fr H hr hf => by
    obtain ⟨u, h1, h2⟩ := hf.x hx
    obtain ⟨as, rfl, h3, h4⟩ := h2.agg_inv
    obtain ⟨w, k1, k2⟩ := hf.x hi
    obtain rfl := k2.v_inv
    have hlt : n.toNat < as.length := by rw [← h3]; exact (List.getElem?_eq_some_iff.1 hv).1
    have ha : as[n.toNat]? = some as[n.toNat] := by simp [hlt]
    exact ⟨as[n.toNat], by simp only [evOp, h1, k1, if_pos (And.intro h0 hn), ha], h4 _ _ _ hv ha⟩) k
theorem G.convlO {d g w : Nat} {full : Fl} {x : AX} {cs : List (List GV)} (hx : lkGX L x = some (.osl g)) (hg : lkP HG g = some (.arr full w cs)) (hc : 0 < cs.length) (k : WpOpsG A l ((d, .osl g) :: L) HG Q) : WpOpsG A (⟨some d, .convl x, none⟩ :: l) L HG Q :=
  WpOpsG.pure (d := some d) (fun Z om fr H hr hf => by
    obtain ⟨u, h1, h2⟩ := hf.x hx
    rcases hr.arr hg with ⟨c1, rfl⟩ | ⟨b, o, cap, ex, blk, c1, c2, c3, c4, c5, c6, c7, c8⟩
    · simp at hc
    · rcases h2.osl_inv with ⟨_, _, _, _, _, _, e', rfl⟩ | ⟨e', rfl⟩
      · rw [c1] at e'; cases e'
        exact ⟨_, by simp only [evOp, h1, c2]; rw [if_pos ⟨c3, by omega⟩], h2⟩
      · rw [c1] at e'; cases e') k
theorem G.appz {d g w by_ : Nat} {z : List AV} {x y : AX} {n : Int} (hx : lkGX L x = some (.v (.slice none 0 0))) (hy : lkGX L y = some (.v (.int .i64 n))) (h0 : 0 < n) (hs : n * (by_ : Int) ≤ 2 ^ 47)
    (hz : Nat.beq z.length w = true) (hw : Nat.ble 1 w = true) (hp : GV.plL (cvt.cvts z) = true) (hg : (lkP HG g).isNone = true)
    (k : WpOpsG A l ((d, .osl g) :: L) ((g, .arr (.rm 0) w (List.replicate n.toNat (cvt.cvts z))) :: HG) Q) : WpOpsG A (⟨some d, .appz w by_ z x y, none⟩ :: l) L HG Q :=
  WpOpsG.step (d := some d) (fun Z om fr H hr hf => by
    obtain ⟨u, h1, h2⟩ := hf.x hx
    obtain rfl := h2.v_inv
    obtain ⟨v, h3, h4⟩ := hf.x hy
    obtain rfl := h4.v_inv
    have hg' : lkP HG g = none := by simpa using hg
    have hzw := Nat.eq_of_beq_eq_true hz
    have hw' := Nat.le_of_ble_eq_true hw
    obtain ⟨f1, f2⟩ := flatten_rep z w hzw n.toNat
    obtain ⟨q1, q2⟩ := cvts_ok (Z := Z) (om := om) z
    have ha : ArrAt Z (List.replicate n.toNat z).flatten 0 w (List.replicate n.toNat (cvt.cvts z)) := fun i c' e => by
      rw [List.getElem?_replicate] at e
      split at e
      · rename_i hi
        cases e
        refine ⟨by rw [q1, hzw], fun k x e' => ?_⟩
        have hk : k < w := by rw [← hzw, ← q1]; exact (List.getElem?_eq_some_iff.1 e').1
        have hzk : z[k]? = some (z[k]'(by omega)) := List.getElem?_eq_getElem (by omega)
        exact ⟨z[k]'(by omega), by rw [Nat.zero_add, f2 i k (by omega) hk, hzk], (q2 k x _ e' hzk).toPR (GV.plL_at hp e')⟩
      · cases e
    obtain ⟨r1, r2⟩ := hr.alloc hg' (es := w) (cs := (List.replicate n.toNat z).flatten) (l := .sl H.next 0 (List.replicate n.toNat (cvt.cvts z)).length n.toNat false w) (nb := .arr (.rm 0) w (List.replicate n.toNat (cvt.cvts z))) (.inl rfl)
      (.arr (Om.set_self ..) (Heap.alloc_self rfl) rfl rfl (by simp) (by simp only [Nat.zero_add]; exact f1) (by show n.toNat = _ + 0; simp) ha)
    exact WpOp.eval (by simp only [evOp, h1, h3, if_pos (And.intro h0 hs), List.length_replicate]) ⟨Z, _, r1, hf.mono (.refl _) (Om.le_set _ _ _ (hr.dom g hg')), .osl (Om.set_self ..), r2⟩) k
/-- a value's row with its end as its room's end -/
theorem G.sl3F {d w n : Nat} {x xh xm : AX} {cs : List (List GV)} {k1 k2 : IntKind} (hx : lkGX L x = some (.fsl w cs)) (hh : lkGX L xh = some (.v (.int k1 (n : Int)))) (hm : lkGX L xm = some (.v (.int k2 (n : Int)))) (hn : n ≤ cs.length)
    (k : WpOpsG A l ((d, .fsl w (cs.take n)) :: L) HG Q) : WpOpsG A (⟨some d, .slice3 w x none xh xm, none⟩ :: l) L HG Q :=
  WpOpsG.pure (d := some d) (fun Z om fr H hr hf => by
    obtain ⟨u, h1, h2⟩ := hf.x hx
    obtain ⟨v, h3, h4⟩ := hf.x hh
    obtain rfl := h4.v_inv
    obtain ⟨v', h5, h6⟩ := hf.x hm
    obtain rfl := h6.v_inv
    have hb : ∀ (xx : AX) (kk : IntKind) (c : Nat), evX fr xx = some (.v (.int kk (n : Int))) → n ≤ c → boundX fr 0 c (some xx) = some n := fun xx kk c e hc => by
      simp only [boundX, e, natOf]
      rw [if_pos ⟨by omega, by omega⟩]; simp
    have b0 : ∀ m, boundX fr 0 m none = some 0 := fun _ => rfl
    have hp := h2.fsl_inv
    generalize hu : u = u' at hp
    cases hp with
    | fnil =>
      subst hu
      have h0 : n = 0 := by simpa using hn
      subst h0
      exact ⟨.v (.slice none 0 0), by simp only [evOp, h1, hb xm k2 0 h5 (Nat.le_refl _), hb xh k1 0 h3 (Nat.le_refl _), b0], .pure (by simpa using PR.fnil)⟩
    | @fsl w' b off len cap ex cs' zb f hz hes hl hcap hw hc hp =>
      subst hu
      obtain ⟨_, blk, z1, z2, z3⟩ := hr.zok _ _ hz
      refine ⟨.sl b (off + 0 * w) (n - 0) (n - 0) true, by simp only [evOp, h1, hb xm k2 cap h5 (by omega), hb xh k1 n h3 (Nat.le_refl _), b0, z1, z3, hes, if_true], .pure ?_⟩
      rw [Nat.zero_mul, Nat.add_zero, Nat.sub_zero]
      refine .fsl f hz hes (by rw [List.length_take]; omega) (Nat.le_refl _) (fun c h => hw c (List.mem_of_mem_take h)) (fun i k c x e e' => ?_) (fun i k c x e e' => ?_)
      · rw [List.getElem?_take] at e
        split at e
        · exact hc i k c x e e'
        · cases e
      · rw [List.getElem?_take] at e
        split at e
        · exact hp i k c x e e'
        · cases e) k
end
end Go.AM
