/- The machine over plain data: rules for each operation, calls. No condition. -/
import Derived.Test.YtkohanehgndmhaaGM4
set_option linter.all false
namespace Go.AM
/-! ## Slices that are made, grow, are cut; what is never written again -/
/-- what held a name that has moved holds nothing -/
def GV.st (g : Nat) (v : GV) : GV := match v.ok (fun h => !Nat.beq h g) with
  | true => v
  | false => .any
def stL (g : Nat) : GFr → GFr
  | [] => []
  | p :: r => (p.1, p.2.st g) :: stL g r
def stC (g : Nat) : List GV → List GV
  | [] => []
  | c :: r => c.st g :: stC g r
def stB (g : Nat) : GBlk → GBlk
  | .box cs => .box (stC g cs)
  | .arr f w cs => .arr f w cs
def stH (g : Nat) : GHp → GHp
  | [] => []
  | p :: r => (p.1, stB g p.2) :: stH g r
theorem lkP_stL {g : Nat} : ∀ {L : GFr} {k : Nat}, lkP (stL g L) k = (lkP L k).map (GV.st g)
  | [], _ => rfl
  | p :: r, k => by
    rw [stL, lkP_cons, lkP_cons, lkP_stL]
    split <;> rfl
theorem lkP_stH {g : Nat} : ∀ {L : GHp} {k : Nat}, lkP (stH g L) k = (lkP L k).map (stB g)
  | [], _ => rfl
  | p :: r, k => by
    rw [stH, lkP_cons, lkP_cons, lkP_stH]
    split <;> rfl
theorem stH_some {g : Nat} {L : GHp} {k : Nat} : (lkP (stH g L) k).isSome = (lkP L k).isSome := by rw [lkP_stH]; cases lkP L k <;> rfl
theorem stC_len {g : Nat} : ∀ {cs : List GV}, (stC g cs).length = cs.length
  | [] => rfl
  | c :: r => by simp [stC, stC_len]
theorem stC_at {g : Nat} : ∀ {cs : List GV} {i : Nat}, (stC g cs)[i]? = (cs[i]?).map (GV.st g)
  | [], i => by simp [stC]
  | c :: r, 0 => by simp [stC]
  | c :: r, i + 1 => by simp [stC, stC_at]
theorem VR.st {Z Z' : ZM} {om om' : Om} {g : Nat} {v : GV} {a : AV} (h : VR Z om v a) (hz : ZLe Z Z') (ho : ∀ k, k ≠ g → om' k = om k) : VR Z' om' (v.st g) a := by
  unfold GV.st
  split
  · rename_i hk
    refine (h.cut hk).mono hz fun k x e => ?_
    unfold Om.cut at e
    split at e
    · rename_i c
      rw [ho k (fun x => by subst x; simp at c)]; exact e
    · cases e
  · exact .any
theorem FR.st {Z Z' : ZM} {om om' : Om} {g : Nat} {L : GFr} {fr : T AV} (h : FR Z om L fr) (hz : ZLe Z Z') (ho : ∀ k, k ≠ g → om' k = om k) : FR Z' om' (stL g L) fr := fun k v e => by
  rw [lkP_stL] at e
  cases hx : lkP L k with
  | none => rw [hx] at e; cases e
  | some x =>
    rw [hx] at e; cases e
    obtain ⟨a, h1, h2⟩ := h k x hx
    exact ⟨a, h1, h2.st hz ho⟩
theorem idOf_eq {om : Om} {g b : Nat} {l : OL} (h : om g = some l) (k : l.id = some b) : idOf om g = some b := by unfold idOf; rw [h]; exact k
section
variable {Z : ZM} {om : Om} {HG : GHp} {H : Heap}
/-- a slice of one's own gets another place -/
theorem GRel.move (h : GRel Z om HG H) {g : Nat} {full : Fl} {w : Nat} {cs : List (List GV)} (e : lkP HG g = some (.arr full w cs)) {l' : OL} {H' : Heap} {nb : GBlk}
    (hnx : H.next ≤ H'.next)
    (hkeep : ∀ b, b < H.next → idOf om g ≠ some b → (∀ b' blk, idOf om g = some b' → H.blks.get b' = some blk → blk.mate ≠ some b) → H'.blks.get b = H.blks.get b)
    (hid : ∀ b, l'.id = some b → idOf om g = some b ∨ (H.next ≤ b ∧ b < H'.next))
    (hmate : ∀ b blk m, l'.id = some b → H'.blks.get b = some blk → blk.mate = some m → (idOf om g = some m ∧ l'.id ≠ some m) ∨ (idOf om g = some b ∧ ∃ blk0, H.blks.get b = some blk0 ∧ blk0.mate = some m))
    (hn : BR Z (om.set g l') H' g nb) :
    GRel Z (om.set g l') ((g, nb) :: stH g HG) H' ∧ Ext Z om HG H Z (om.set g l') ((g, nb) :: stH g HG) H' := by
  have eS : (lkP HG g).isSome = true := by rw [e]; rfl
  have hS : ∀ k, (lkP ((g, nb) :: stH g HG) k).isSome = true → (lkP HG k).isSome = true := fun k hk => by
    rcases isSome_cons hk with rfl | hk
    · exact eS
    · rwa [stH_some] at hk
  have hset : ∀ k, k ≠ g → om.set g l' k = om k := fun k n => Om.set_ne n
  have hother : ∀ k b, k ≠ g → (lkP HG k).isSome = true → idOf om k = some b → H'.blks.get b = H.blks.get b := fun k b n hk hi =>
    hkeep b (h.old hk hi) (fun c => h.sep k g b n hk eS hi c) (fun b' blk i hb c => (h.mate g b' blk b eS i hb c).2.2 k hk hi)
  have hznone : ∀ b, l'.id = some b → Z b = none := fun b hb => by
    rcases hid b hb with i | ⟨i, _⟩
    · exact (h.zsep g b eS i).1
    · cases hz : Z b with
      | none => rfl
      | some zb => have := (h.zok b zb hz).1; omega
  refine ⟨⟨fun k hk => ?_, fun b zb hz => ?_, fun k blk hk => ?_, fun g1 g2 b n e1 e2 i1 i2 => ?_, fun k b hk i => ?_, fun k b blk m hk i hb hm => ?_⟩, ⟨hnx, .refl _, fun b hb hf => ?_, fun b hb hf => ?_, fun k b _ hk => ?_, fun b hb ho => ?_, fun _ _ h k => absurd h k⟩⟩
  · rw [lkP_cons] at hk
    split at hk
    · cases hk
    · rename_i c
      rw [lkP_stH] at hk
      rw [hset k (fun x => c x.symm)]
      exact h.dom k (by cases hx : lkP HG k with | none => rfl | some _ => rw [hx] at hk; cases hk)
  · obtain ⟨a1, blk, a2, a3⟩ := h.zok b zb hz
    refine ⟨by omega, blk, ?_, a3⟩
    rw [hkeep b a1 (fun c => by rw [(h.zsep g b eS c).1] at hz; cases hz) (fun b' blk' i hb c => by rw [(h.mate g b' blk' b eS i hb c).2.1] at hz; cases hz)]
    exact a2
  · rw [lkP_cons] at hk
    split at hk
    · rename_i c; cases hk; subst c; exact hn
    · rename_i c
      have n : k ≠ g := fun x => c x.symm
      rw [lkP_stH] at hk
      cases hx : lkP HG k with
      | none => rw [hx] at hk; cases hk
      | some old =>
        rw [hx] at hk; cases hk
        have hk' : (lkP HG k).isSome = true := by rw [hx]; rfl
        cases h.own k old hx with
        | box h1 h2 h3 h4 h5 =>
          have hi := idOf_eq h1 rfl
          refine .box (by rw [hset k n]; exact h1) (by rw [hother k _ n hk' hi]; exact h2) h3 (by rw [stC_len]; exact h4) fun i c a e1 e2 => ?_
          rw [stC_at] at e1
          cases hy : (_ : List GV)[i]? with
          | none => rw [hy] at e1; cases e1
          | some y => rw [hy] at e1; cases e1; exact (h5 i y a hy e2).st (.refl _) hset
        | nil h1 hq => exact .nil (by rw [hset k n]; exact h1) hq
        | arr h1 h2 h3 h4 h5 h6 h7 h8 =>
          have hi := idOf_eq h1 rfl
          exact .arr (by rw [hset k n]; exact h1) (by rw [hother k _ n hk' hi]; exact h2) h3 h4 h5 h6 h7 h8
  · have f1 := hS _ e1
    have f2 := hS _ e2
    by_cases c1 : g1 = g
    · subst c1
      rw [idOf_set] at i1
      have n2 : g2 ≠ g1 := fun c => n c.symm
      rw [idOf_set_ne n2] at i2
      rcases hid b i1 with i | ⟨i, _⟩
      · exact h.sep g1 g2 b n eS f2 i i2
      · have := h.old f2 i2; omega
    · rw [idOf_set_ne c1] at i1
      by_cases c2 : g2 = g
      · subst c2
        rw [idOf_set] at i2
        rcases hid b i2 with i | ⟨i, _⟩
        · exact h.sep g1 g2 b n f1 eS i1 i
        · have := h.old f1 i1; omega
      · rw [idOf_set_ne c2] at i2
        exact h.sep g1 g2 b n f1 f2 i1 i2
  · by_cases c : k = g
    · subst c
      rw [idOf_set] at i
      refine ⟨hznone b i, ?_⟩
      rcases hid b i with j | ⟨_, j⟩
      · have := h.old eS j; omega
      · exact j
    · rw [idOf_set_ne c] at i
      have := h.zsep k b (hS k hk) i
      exact ⟨this.1, by omega⟩
  · have claim : ∀ m, Z m = none → m < H.next → (∀ k', (lkP HG k').isSome = true → k' ≠ g → idOf om k' ≠ some m) → l'.id ≠ some m → m < H'.next ∧ Z m = none ∧ ∀ k', (lkP ((g, nb) :: stH g HG) k').isSome = true → idOf (om.set g l') k' ≠ some m := fun m a1 a2 a3 a4 => by
      refine ⟨by omega, a1, fun k' hk' i' => ?_⟩
      by_cases c : k' = g
      · subst c; rw [idOf_set] at i'; exact a4 i'
      · rw [idOf_set_ne c] at i'; exact a3 k' (hS k' hk') c i'
    by_cases c : k = g
    · subst c
      rw [idOf_set] at i
      rcases hmate b blk m i hb hm with ⟨j1, j2⟩ | ⟨j1, blk0, j2, j3⟩
      · exact claim m (h.zsep k m eS j1).1 (h.old eS j1) (fun k' hk' n i' => h.sep k' k m n hk' eS i' j1) j2
      · obtain ⟨a1, a2, a3⟩ := h.mate k b blk0 m eS j1 j2 j3
        refine claim m a2 a1 (fun k' hk' _ => a3 k' hk') (fun x => ?_)
        rcases hid m x with y | ⟨y, _⟩
        · exact a3 k eS y
        · omega
    · rw [idOf_set_ne c] at i
      have hk' := hS k hk
      rw [hother k b c hk' i] at hb
      obtain ⟨a1, a2, a3⟩ := h.mate k b blk m hk' i hb hm
      refine claim m a2 a1 (fun k' hk' _ => a3 k' hk') (fun x => ?_)
      rcases hid m x with y | ⟨y, _⟩
      · exact a3 g eS y
      · omega
  · exact ⟨hkeep b hb (fun c => hf ⟨g, eS, .inl c⟩) (fun b' blk i hb' c => hf ⟨g, eS, .inr ⟨b', blk, i, hb', c⟩⟩), rfl⟩
  · obtain ⟨k, hk, hf⟩ := hf
    have hk' := hS k hk
    by_cases c : k = g
    · subst c
      rw [idOf_set] at hf
      rcases hf with hf | ⟨b', blk, hf, hf2, hf3⟩
      · rcases hid b hf with j | ⟨j, _⟩
        · exact ⟨k, eS, .inl j⟩
        · omega
      · rcases hmate b' blk b hf hf2 hf3 with ⟨j1, j2⟩ | ⟨j1, blk0, j2, j3⟩
        · exact ⟨k, eS, .inl j1⟩
        · exact ⟨k, eS, .inr ⟨b', blk0, j1, j2, j3⟩⟩
    · rw [idOf_set_ne c] at hf
      refine ⟨k, hk', ?_⟩
      rcases hf with hf | ⟨b', blk, hf, hf2, hf3⟩
      · exact .inl hf
      · exact .inr ⟨b', blk, hf, by rw [← hother k b' c hk' hf]; exact hf2, hf3⟩
  · by_cases c : k = g
    · subst c
      rcases h.arr e with ⟨c1, _⟩ | ⟨_, _, _, _, _, c1, _⟩ <;> rw [c1] at hk <;> cases hk
    · rw [hset k c]; exact hk
  · obtain ⟨k, hk, hf⟩ := ho
    by_cases c : k = g
    · subst c
      rw [idOf_set] at hf
      rcases hid b hf with j | ⟨j, _⟩
      · exact ⟨k, eS, j⟩
      · omega
    · rw [idOf_set_ne c] at hf
      exact ⟨k, hS k hk, hf⟩
/-- nothing, as a slice of one's own -/
theorem GRel.nil {full : Fl} (hr : GRel Z om HG H) {g w : Nat} (hg' : lkP HG g = none) (hq : FlOk full true 0 0 := by exact .inl rfl) : GRel Z (om.set g .nil) ((g, .arr full w []) :: HG) H ∧ Ext Z om HG H Z (om.set g .nil) ((g, .arr full w []) :: HG) H := by
  have hid : ∀ k b, idOf (om.set g .nil) k = some b → k ≠ g ∧ idOf om k = some b := fun k b i => by
    by_cases c : k = g
    · subst c; rw [idOf_set] at i; cases i
    · rw [idOf_set_ne c] at i; exact ⟨c, i⟩
  have hS : ∀ k, k ≠ g → (lkP ((g, GBlk.arr full w []) :: HG) k).isSome = true → (lkP HG k).isSome = true := fun k n i => by
    rcases isSome_cons i with c | c
    · exact absurd c n
    · exact c
  refine ⟨⟨fun k e => ?_, hr.zok, fun k blk e => ?_, fun g1 g2 b n e1 e2 i1 i2 => ?_, fun k b e i => ?_, fun k b blk m e i hb hm => ?_⟩, ⟨Nat.le_refl _, .refl _, fun _ _ _ => ⟨rfl, rfl⟩, fun b hb hf => ?_, fun k b _ e => Om.le_set _ _ _ (hr.dom g hg') _ _ e, fun b hb ho => ?_, fun _ _ h k => absurd h k⟩⟩
  · rw [lkP_cons] at e
    split at e
    · cases e
    · rename_i c; rw [Om.set_ne (fun x => c x.symm)]; exact hr.dom k e
  · rw [lkP_cons] at e
    split at e
    · rename_i c; cases e; subst c; exact .nil (Om.set_self ..) hq
    · rename_i c; exact (hr.own k blk e).keep (Om.set_ne (fun x => c x.symm)) (fun _ _ => rfl) (fun v a hv => hv.mono (.refl _) (Om.le_set _ _ _ (hr.dom g hg'))) (.refl _)
  · obtain ⟨n1, i1⟩ := hid _ _ i1
    obtain ⟨n2, i2⟩ := hid _ _ i2
    exact hr.sep g1 g2 b n (hS _ n1 e1) (hS _ n2 e2) i1 i2
  · obtain ⟨n1, i1⟩ := hid _ _ i
    exact hr.zsep k b (hS _ n1 e) i1
  · obtain ⟨n1, i1⟩ := hid _ _ i
    obtain ⟨a1, a2, a3⟩ := hr.mate k b blk m (hS _ n1 e) i1 hb hm
    refine ⟨a1, a2, fun k' e' i' => ?_⟩
    obtain ⟨n2, i2⟩ := hid _ _ i'
    exact a3 k' (hS _ n2 e') i2
  · obtain ⟨k, e, f⟩ := hf
    rcases f with f | ⟨b', blk, f, f2, f3⟩
    · obtain ⟨n1, i1⟩ := hid _ _ f
      exact ⟨k, hS _ n1 e, .inl i1⟩
    · obtain ⟨n1, i1⟩ := hid _ _ f
      exact ⟨k, hS _ n1 e, .inr ⟨b', blk, i1, f2, f3⟩⟩
  · obtain ⟨k, e, f⟩ := ho
    obtain ⟨n1, i1⟩ := hid _ _ f
    exact ⟨k, hS _ n1 e, i1⟩
end
/-! what an append puts in -/
theorem takeN_take : ∀ {n : Nat} {l : List AV}, n ≤ l.length → takeN n l = some (l.take n)
  | 0, l, _ => by simp [takeN]
  | n + 1, [], h => by simp at h
  | n + 1, x :: l, h => by simp [takeN, takeN_take (l := l) (by simpa using h)]
theorem ArrAt.size {Z : ZM} {cells : List AV} {o w : Nat} {cs : List (List GV)} (h : ArrAt Z cells o w cs) : cs.length * w = 0 ∨ o + cs.length * w ≤ cells.length := by
  by_cases h0 : cs.length * w = 0
  · exact .inl h0
  · have hl : 0 < cs.length := Nat.pos_of_ne_zero fun c => h0 (by rw [c, Nat.zero_mul])
    have hw : 0 < w := Nat.pos_of_ne_zero fun c => h0 (by rw [c, Nat.mul_zero])
    have hc : cs[cs.length - 1]? = some (cs[cs.length - 1]'(by omega)) := List.getElem?_eq_getElem (by omega)
    obtain ⟨h1, h2⟩ := h _ _ hc
    obtain ⟨a, ha, _⟩ := h2 (w - 1) ((cs[cs.length - 1]'(by omega))[w - 1]'(by omega)) (List.getElem?_eq_getElem (by omega))
    have := (List.getElem?_eq_some_iff.1 ha).1
    right
    have e : cs.length * w = (cs.length - 1) * w + w := by
      conv => lhs; rw [show cs.length = (cs.length - 1) + 1 by omega, Nat.add_mul, Nat.one_mul]
    omega
/-- the cells of a row of things -/
theorem ArrAt.rows {Z : ZM} {cells : List AV} {o w : Nat} {cs : List (List GV)} (h : ArrAt Z cells o w cs) : ∃ ws, takeN (cs.length * w) (cells.drop o) = some ws ∧ ws.length = cs.length * w ∧ ArrAt Z ws 0 w cs := by
  rcases h.size with h0 | h0
  · refine ⟨[], by rw [h0]; simp [takeN], by simp [h0], fun i c e => ⟨(h i c e).1, fun k x e' => ?_⟩⟩
    have hi := (List.getElem?_eq_some_iff.1 e).1
    have hk := (List.getElem?_eq_some_iff.1 e').1
    rw [(h i c e).1] at hk
    have : 0 < cs.length * w := Nat.mul_pos (by omega) (by omega)
    omega
  · refine ⟨(cells.drop o).take (cs.length * w), takeN_take (by simp; omega), by simp; omega, fun i c e => ⟨(h i c e).1, fun k x e' => ?_⟩⟩
    obtain ⟨a, ha, hp⟩ := (h i c e).2 k x e'
    refine ⟨a, ?_, hp⟩
    have hi := (List.getElem?_eq_some_iff.1 e).1
    have hk := (List.getElem?_eq_some_iff.1 e').1
    rw [(h i c e).1] at hk
    have hlt : i * w + k < cs.length * w := by
      have := Nat.mul_le_mul_right w (show i + 1 ≤ cs.length by omega)
      rw [Nat.add_mul] at this; omega
    rw [List.getElem?_take, if_pos (by omega), List.getElem?_drop, ← ha]; congr 1; omega
theorem ArrAt.append {Z : ZM} {xs ys : List AV} {w : Nat} {cs ds : List (List GV)} (h : ArrAt Z xs 0 w cs) (k : ArrAt Z ys 0 w ds) (hx : xs.length = cs.length * w) : ArrAt Z (xs ++ ys) 0 w (cs ++ ds) := fun i c e => by
  by_cases hi : i < cs.length
  · rw [List.getElem?_append_left hi] at e
    refine ⟨(h i c e).1, fun j x e' => ?_⟩
    obtain ⟨a, ha, hp⟩ := (h i c e).2 j x e'
    exact ⟨a, by rw [List.getElem?_append_left (List.getElem?_eq_some_iff.1 ha).1]; exact ha, hp⟩
  · rw [List.getElem?_append_right (by omega)] at e
    refine ⟨(k _ c e).1, fun j x e' => ?_⟩
    obtain ⟨a, ha, hp⟩ := (k _ c e).2 j x e'
    have := Nat.mul_le_mul_right w (show cs.length ≤ i by omega)
    refine ⟨a, ?_, hp⟩
    rw [List.getElem?_append_right (by omega), ← ha, hx]; congr 1
    rw [Nat.sub_mul]; omega
def srcG (HG : GHp) (w : Nat) : GV → Option (List (List GV))
  | .fsl w' ds => match Nat.beq w' w with | true => some ds | false => none
  | .osl g => match lkP HG g with
    | some (.arr _ w' ds) => match Nat.beq w' w with | true => some ds | false => none
    | _ => none
  | .v (.slice none 0 0) => some []
  | .v (.string s) => match Nat.beq w 1 with | true => some (s.data.toList.map fun b => [.v (.int .u8 b.toNat)]) | false => none
  | _ => none
section
variable {Z : ZM} {om : Om} {HG : GHp} {H : Heap}
theorem src_ok (hr : GRel Z om HG H) {v : GV} {a : AV} (hv : VR Z om v a) {w : Nat} {ds : List (List GV)} (e : srcG HG w v = some ds) : ∃ news, newsOf H w a = some (ds.length, news) ∧ news.length = ds.length * w ∧ ArrAt Z news 0 w ds := by
  have hnil : ∀ {w : Nat}, ∃ news, newsOf H w (.v (.slice none 0 0)) = some ((([] : List (List GV))).length, news) ∧ news.length = ([] : List (List GV)).length * w ∧ ArrAt Z news 0 w [] := ⟨[], rfl, by simp, fun i c e => by simp at e⟩
  cases v with
  | fsl w' ds' =>
    rw [srcG] at e
    split at e
    · rename_i hb
      cases e
      obtain rfl := Nat.eq_of_beq_eq_true hb
      have hp := hv.fsl_inv
      cases a with
      | sl b off len cap ex =>
        obtain ⟨rfl, _, zb, hz, hes, ha⟩ := hp.sl_inv
        obtain ⟨_, blk, e1, e2, e3⟩ := hr.zok b zb hz
        obtain ⟨ws, t1, t2, t3⟩ := ha.rows
        exact ⟨ws, by simp only [newsOf, getN, e1, e2, t1, Option.map], t2, t3⟩
      | v x => cases hp; exact hnil
      | _ => cases hp
    · cases e
  | osl g =>
    rw [srcG] at e
    split at e
    · rename_i full w' ds' hg
      split at e
      · rename_i hb
        cases e
        obtain rfl := Nat.eq_of_beq_eq_true hb
        rcases hr.arr hg with ⟨c1, rfl⟩ | ⟨b, o, cap, ex, blk, c1, c2, c3, c4, c5, c6, c7, c8⟩
        · rcases hv.osl_inv with ⟨_, _, _, _, _, _, e', rfl⟩ | ⟨e', rfl⟩
          · rw [c1] at e'; cases e'
          · exact hnil
        · rcases hv.osl_inv with ⟨_, _, _, _, _, _, e', rfl⟩ | ⟨e', rfl⟩
          · rw [c1] at e'; cases e'
            obtain ⟨ws, t1, t2, t3⟩ := c8.rows
            exact ⟨ws, by simp only [newsOf, getN, c2, t1, Option.map], t2, t3⟩
          · rw [c1] at e'; cases e'
      · cases e
    · cases e
  | v x =>
    obtain rfl := hv.v_inv
    unfold srcG at e
    split at e
    · rename_i h; cases h
    · rename_i h; cases h
    · rename_i h; cases h; cases e; exact hnil
    · rename_i s h
      cases h
      split at e
      · rename_i hb
        cases e
        obtain rfl := Nat.eq_of_beq_eq_true hb
        refine ⟨s.data.toList.map fun b => .v (.int .u8 b.toNat), ?_, by simp, fun i c e => ?_⟩
        · simp only [newsOf, if_true, List.length_map, Array.length_toList]; rfl
        · rw [List.getElem?_map] at e
          cases hb : s.data.toList[i]? with
          | none => rw [hb] at e; cases e
          | some y =>
            rw [hb] at e; cases e
            refine ⟨rfl, fun k x e' => ?_⟩
            cases k with
            | zero => cases e'; exact ⟨_, by simp only [Nat.zero_add, Nat.mul_one, Nat.add_zero, List.getElem?_map, hb, Option.map], .v _⟩
            | succ k => simp at e'
      · cases e
    · cases e
  | _ => cases e
/-- appending to a slice of one's own -/
theorem GRel.app (hr : GRel Z om HG H) {g w by_ : Nat} {full : Fl} {cs ds : List (List GV)} (hg : lkP HG g = some (.arr full w cs)) {s t : AV} (hs : VR Z om (.osl g) s) {news : List AV} (hn : newsOf H w t = some (ds.length, news)) (hl : news.length = ds.length * w) (ha : ArrAt Z news 0 w ds)
    (hf : full.can ds.length) (hsz : (cs.length + ds.length) * by_ ≤ 2 ^ 47) :
    ∃ a H' om', appendA H w by_ s t = some (a, H') ∧ GRel Z om' ((g, .arr (full.app ds.length) w (cs ++ ds)) :: stH g HG) H' ∧ (∀ k, k ≠ g → om' k = om k) ∧ VR Z om' (.osl g) a ∧ Ext Z om HG H Z om' ((g, .arr (full.app ds.length) w (cs ++ ds)) :: stH g HG) H' := by
  have eS : (lkP HG g).isSome = true := by rw [hg]; rfl
  have same : ∀ l, om g = some l → ds = [] → BR Z om H g (.arr (full.app ds.length) w (cs ++ ds)) → GRel Z om ((g, .arr (full.app ds.length) w (cs ++ ds)) :: stH g HG) H ∧ Ext Z om HG H Z om ((g, .arr (full.app ds.length) w (cs ++ ds)) :: stH g HG) H := fun l hl hd hb => by
    have e : om.set g l = om := by
      funext k; unfold Om.set; split
      · rename_i c; rw [c, hl]
      · rfl
    have := hr.move hg (l' := l) (H' := H) (nb := .arr (full.app ds.length) w (cs ++ ds)) (Nat.le_refl _) (fun _ _ _ _ => rfl) (fun b hb => .inl (by unfold idOf; rw [hl]; exact hb))
      (fun b blk m i hb hm => .inr ⟨by unfold idOf; rw [hl]; exact i, blk, hb, hm⟩) (by rw [e]; exact hb)
    rwa [e] at this
  rcases hr.arr hg with ⟨c1, rfl⟩ | ⟨b, o, cap, ex, blk, c1, c2, c3, c4, c5, c6, c7, c8⟩
  · rcases hs.osl_inv with ⟨_, _, _, _, _, _, e', rfl⟩ | ⟨e', rfl⟩
    · rw [c1] at e'; cases e'
    · cases ds with
      | nil =>
        obtain ⟨r1, r2⟩ := same _ c1 rfl (.nil c1 (by have := (hr.nilF hg c1).in (n := 0) (Nat.le_refl _) (by cases full <;> first | trivial | exact Nat.zero_le _); exact this))
        exact ⟨_, H, om, by simp only [appendA, hn, List.length_nil], r1, fun _ _ => rfl, .onil c1, r2⟩
      | cons d ds =>
        have hid : idOf om g = none := by unfold idOf; rw [c1]; rfl
        obtain ⟨r1, r2⟩ := hr.move hg (l' := .sl H.next 0 (d :: ds).length (d :: ds).length false w) (H' := H.alloc w news) (nb := .arr (full.app (d :: ds).length) w ([] ++ d :: ds)) (Nat.le_succ _)
          (fun b hb _ _ => Heap.alloc_ne (by omega)) (fun b hb => .inr (by cases hb; exact ⟨Nat.le_refl _, Nat.lt_succ_self _⟩))
          (fun b blk m i hb hm => by cases i; rw [Heap.alloc_self rfl] at hb; cases hb; cases hm)
          (.arr (Om.set_self ..) (Heap.alloc_self rfl) rfl rfl (Nat.le_refl _) (by simpa using hl) (((hr.nilF hg c1).out (n := (d :: ds).length) (by simp) hf).1 _ _) ha)
        refine ⟨_, _, _, ?_, r1, fun k n => Om.set_ne n, .osl (Om.set_self ..), r2⟩
        simp only [appendA, hn, List.length_cons]
        rw [if_pos (by simpa using hsz)]
  · rcases hs.osl_inv with ⟨_, _, _, _, _, _, e', rfl⟩ | ⟨e', rfl⟩
    · rw [c1] at e'; cases e'
      have hid : idOf om g = some b := by unfold idOf; rw [c1]; rfl
      have hblt : b < H.next := hr.old eS hid
      by_cases hfit : cs.length + ds.length ≤ cap
      · cases ds with
        | nil =>
          obtain ⟨r1, r2⟩ := same _ c1 rfl (by rw [List.append_nil]; exact .arr c1 c2 c3 c4 c5 c6 (by have := c7.in (n := 0) c5 (by cases full <;> first | trivial | exact Nat.zero_le _); exact this) c8)
          exact ⟨_, H, om, by simp only [appendA, hn, List.length_nil, Nat.add_zero, if_pos c5], r1, fun _ _ => rfl, .osl c1, r2⟩
        | cons d ds =>
          have hfit2 : o + cs.length * w + news.length ≤ blk.cells.length := by
            have := Nat.mul_le_mul_right w hfit
            rw [Nat.add_mul] at this; rw [c6, hl]; omega
          obtain ⟨bs, e1⟩ := putAt_ok hfit2
          obtain ⟨_, e2, e3⟩ := putAt_some e1
          have hmate := fun m (hm : blk.mate = some m) => hr.mate g b blk m eS hid c2 hm
          have hnew : ArrAt Z bs o w (cs ++ d :: ds) := fun i c e => by
            by_cases hi : i < cs.length
            · rw [List.getElem?_append_left hi] at e
              refine ⟨(c8 i c e).1, fun k x e' => ?_⟩
              obtain ⟨a, h1, h2⟩ := (c8 i c e).2 k x e'
              refine ⟨a, ?_, h2⟩
              have hk : k < w := by rw [← (c8 i c e).1]; exact (List.getElem?_eq_some_iff.1 e').1
              have := Nat.mul_le_mul_right w (show i + 1 ≤ cs.length by omega)
              rw [Nat.add_mul] at this
              rw [e3, if_neg (by omega)]; exact h1
            · rw [List.getElem?_append_right (by omega)] at e
              refine ⟨(ha _ c e).1, fun k x e' => ?_⟩
              obtain ⟨a, h1, h2⟩ := (ha _ c e).2 k x e'
              have hk : k < w := by rw [← (ha _ c e).1]; exact (List.getElem?_eq_some_iff.1 e').1
              have hi2 := (List.getElem?_eq_some_iff.1 e).1
              have q1 := Nat.mul_le_mul_right w (show cs.length ≤ i by omega)
              have q2 := Nat.mul_le_mul_right w (show i - cs.length + 1 ≤ (d :: ds).length by omega)
              rw [Nat.add_mul] at q2
              have q3 : (i - cs.length) * w = i * w - cs.length * w := Nat.sub_mul ..
              refine ⟨a, ?_, h2⟩
              rw [e3, if_pos (by omega), ← h1]; congr 1; omega
          obtain ⟨r1, r2⟩ := hr.move hg (l' := .sl b o (cs ++ d :: ds).length cap ex w) (H' := H.upd b blk bs) (nb := .arr (full.app (d :: ds).length) w (cs ++ d :: ds)) (Nat.le_refl _)
            (fun b' hb' n1 n2 => Heap.upd_ne (fun c => n1 (by rw [c]; exact hid)) (n2 b blk hid c2)) (fun b' hb' => .inl (by cases hb'; exact hid))
            (fun b' blk' m i hb' hm => by cases i; rw [Heap.upd_self rfl] at hb'; cases hb'; cases hm)
            (.arr (blk := ⟨bs, true, none, blk.es⟩) (Om.set_self ..) (Heap.upd_self rfl) rfl c4 (by simpa using hfit) (by show bs.length = _; rw [e2, c6]) (by rw [List.length_append]; exact c7.in hfit hf) hnew)
          refine ⟨_, _, _, ?_, r1, fun k n => Om.set_ne n, .osl (Om.set_self ..), r2⟩
          simp only [List.length_cons] at hfit
          simp only [appendA, hn, List.length_cons, if_pos hfit, Heap.write_upd c2 c3 e1, List.length_append]
      · obtain ⟨ws, t1, t2, t3⟩ := c8.rows
        have hlen : 0 < ds.length := by omega
        by_cases hex : ex = true
        · obtain ⟨r1, r2⟩ := hr.move hg (l' := .sl H.next 0 (cs ++ ds).length (cs ++ ds).length false w) (H' := H.alloc w (ws ++ news)) (nb := .arr (full.app ds.length) w (cs ++ ds)) (Nat.le_succ _)
            (fun b hb _ _ => Heap.alloc_ne (by omega)) (fun b hb => .inr (by cases hb; exact ⟨Nat.le_refl _, Nat.lt_succ_self _⟩))
            (fun b blk m i hb hm => by cases i; rw [Heap.alloc_self rfl] at hb; cases hb; cases hm)
            (.arr (Om.set_self ..) (Heap.alloc_self rfl) rfl rfl (Nat.le_refl _) (by simp [t2, hl, Nat.add_mul]) ((c7.out hfit hf).1 _ _) (t3.append ha t2))
          refine ⟨_, _, _, ?_, r1, fun k n => Om.set_ne n, .osl (Om.set_self ..), r2⟩
          simp only [appendA, hn, if_neg hfit, c2, t1, c4, hsz, and_self, if_true, hex, List.length_append]
        · have hcap : cs.length = cap := by
            rcases (c7.out hfit hf).2 with h | h | h
            · exact absurd h hex
            · exact h
            · omega
          have hex' : ex = false := by simpa using hex
          have hmate := fun m (hm : blk.mate = some m) => hr.mate g b blk m eS hid c2 hm
          have hold : ∀ b', b' < H.next → b' ≠ b → blk.mate ≠ some b' → (H.mate2 b blk (ws ++ news)).blks.get b' = H.blks.get b' := fun b' h1 h2 h3 => by
            simp only [Heap.mate2, T.get_set]
            rw [if_neg (by omega), if_neg h2]
            cases hk : blk.mate with
            | none => rfl
            | some m =>
              simp only [Heap.kill, T.get_set]
              rw [if_neg (fun c => h3 (by rw [hk, c]))]
          obtain ⟨r1, r2⟩ := hr.move hg (l' := .sl H.next 0 (cs ++ ds).length (cs ++ ds).length false w) (H' := H.mate2 b blk (ws ++ news)) (nb := .arr (full.app ds.length) w (cs ++ ds)) (Nat.le_succ _)
            (fun b' hb' n1 n2 => hold b' hb' (fun c => n1 (by rw [c]; exact hid)) (n2 b blk hid c2)) (fun b hb => .inr (by cases hb; exact ⟨Nat.le_refl _, Nat.lt_succ_self _⟩))
            (fun b' blk' m i hb' hm => by cases i; rw [Heap.mate2_new] at hb'; cases hb'; cases hm; exact .inl ⟨hid, fun c => by cases c; omega⟩)
            (.arr (blk := ⟨ws ++ news, true, some b, blk.es⟩) (Om.set_self ..) Heap.mate2_new rfl c4 (Nat.le_refl _) (by simp [t2, hl, Nat.add_mul]) ((c7.out hfit hf).1 _ _) (t3.append ha t2))
          refine ⟨_, _, _, ?_, r1, fun k n => Om.set_ne n, .osl (Om.set_self ..), r2⟩
          have hbl : blk.cells.length = o + cap * w := c6
          simp only [appendA, hn, if_neg hfit, c2, t1, c4, hsz, and_self, if_true, hex', hbl, c3, if_pos hcap, List.length_append, Bool.false_eq_true, if_false]
    · rw [c1] at e'; cases e'
end
section
variable {A : AProg} {L : GFr} {HG : GHp} {l : List AOper} {Q : GFr → GHp → Prop}
theorem G.app {d g w by_ : Nat} {full : Fl} {x y : AX} {v : GV} {cs ds : List (List GV)} (hx : lkGX L x = some (.osl g)) (hy : lkGX L y = some v) (hg : lkP HG g = some (.arr full w cs)) (hs : srcG HG w v = some ds) (hf : full.can ds.length) (hsz : (cs.length + ds.length) * by_ ≤ 2 ^ 47)
    (k : WpOpsG A l ((d, .osl g) :: stL g L) ((g, .arr (full.app ds.length) w (cs ++ ds)) :: stH g HG) Q) : WpOpsG A (⟨some d, .app w by_ x y, none⟩ :: l) L HG Q :=
  WpOpsG.step (d := some d) (L1 := stL g L) (fun Z om fr H hr hf' => by
    obtain ⟨s, h1, h2⟩ := hf'.x hx
    obtain ⟨t, k1, k2⟩ := hf'.x hy
    obtain ⟨news, n1, n2, n3⟩ := src_ok hr k2 hs
    obtain ⟨a, H', om', e1, e2, e3, e4, e5⟩ := hr.app hg h2 n1 n2 n3 hf hsz
    exact WpOp.eval (by simp only [evOp, h1, k1, e1]) ⟨Z, om', e2, hf'.st (.refl _) e3, e4, e5⟩) k
/-- appending to nothing: a new slice of one's own -/
theorem G.appNil {d g w by_ : Nat} {x y : AX} {v : GV} {ds : List (List GV)} (hx : lkGX L x = some (.v (.slice none 0 0))) (hy : lkGX L y = some v) (hg : (lkP HG g).isNone = true) (hs : srcG HG w v = some ds) (hsz : ds.length * by_ ≤ 2 ^ 47)
    (k : WpOpsG A l ((d, .osl g) :: L) ((g, .arr .yes w ds) :: HG) Q) : WpOpsG A (⟨some d, .app w by_ x y, none⟩ :: l) L HG Q :=
  WpOpsG.step (d := some d) (fun Z om fr H hr hf => by
    obtain ⟨s, h1, h2⟩ := hf.x hx
    obtain rfl := h2.v_inv
    obtain ⟨t, k1, k2⟩ := hf.x hy
    obtain ⟨news, n1, n2, n3⟩ := src_ok hr k2 hs
    have hg' : lkP HG g = none := by simpa using hg
    cases ds with
    | nil =>
      have hr' := hr.nil (full := .yes) (w := w) hg'
      exact WpOp.eval (by simp only [evOp, h1, k1, appendA, n1, List.length_nil]) ⟨Z, _, hr'.1, hf.mono (.refl _) (Om.le_set _ _ _ (hr.dom g hg')), .onil (Om.set_self ..), hr'.2⟩
    | cons d' ds =>
      obtain ⟨r1, r2⟩ := hr.alloc hg' (es := w) (cs := news) (l := .sl H.next 0 (d' :: ds).length (d' :: ds).length false w) (nb := .arr .yes w (d' :: ds)) (.inl rfl)
        (.arr (Om.set_self ..) (Heap.alloc_self rfl) rfl rfl (Nat.le_refl _) (by simpa using n2) (.inr rfl) n3)
      have e : appendA H w by_ (.v (.slice none 0 0)) t = some (.sl H.next 0 (d' :: ds).length (d' :: ds).length false, H.alloc w news) := by
        simp only [appendA, n1, List.length_cons]
        rw [if_pos (by simpa using hsz)]
      exact WpOp.eval (by simp only [evOp, h1, k1, e]) ⟨Z, _, r1, hf.mono (.refl _) (Om.le_set _ _ _ (hr.dom g hg')), .osl (Om.set_self ..), r2⟩) k
/-- the constant nil, as a slice of one's own -/
theorem WpG.ownNilR {c : AC} {g k w : Nat} {Q : AE → GFr → GHp → Prop} (full : Fl) (hq : FlOk full true 0 0) (hx : lkP L k = some (.v (.slice none 0 0))) (hg : (lkP HG g).isNone = true) (h : WpG A c ((k, .osl g) :: L) ((g, .arr full w []) :: HG) Q) : WpG A c L HG Q := fun Z om fr H hr hf => by
  have hg' : lkP HG g = none := by simpa using hg
  have hr' := hr.nil (full := full) (w := w) hg' hq
  have hf' : FR Z (om.set g .nil) ((k, .osl g) :: L) fr := fun j v e => by
    rw [lkP_cons] at e
    split at e
    · rename_i c
      cases e
      obtain ⟨a, h1, h2⟩ := hf k _ hx
      obtain rfl := h2.v_inv
      exact ⟨_, by rw [← c]; exact h1, .onil (Om.set_self ..)⟩
    · obtain ⟨a, h1, h2⟩ := hf j v e
      exact ⟨a, h1, h2.mono (.refl _) (Om.le_set _ _ _ (hr.dom g hg'))⟩
  refine (h Z _ fr H hr'.1 hf').mono ?_
  rintro e fr' H' ⟨Z', om', L', HG', a, b, c, d⟩
  exact ⟨Z', om', L', HG', a, b, hr'.2.trans c, d⟩
theorem WpG.ownNil {c : AC} {g k w : Nat} {Q : AE → GFr → GHp → Prop} (hx : lkP L k = some (.v (.slice none 0 0))) (hg : (lkP HG g).isNone = true) (h : WpG A c ((k, .osl g) :: L) ((g, .arr .yes w []) :: HG) Q) : WpG A c L HG Q := WpG.ownNilR .yes (.inl rfl) hx hg h
end
end Go.AM
