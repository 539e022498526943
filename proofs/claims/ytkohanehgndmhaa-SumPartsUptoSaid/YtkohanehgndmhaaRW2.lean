/- From the memory of a call to the machine: the frame of a row. No condition. -/
import Derived.Test.YtkohanehgndmhaaRW1
import Derived.ChangeArms
set_option linter.all false
namespace Go.AM
open Go.RowKit
/-! ## What an argument reads as -/
def HasRow (W : World) : Prop := ∃ (r : Nat) (cur : Array Value) (e : TypeId) (fz : Nat × Nat), W.heap[r]? = some (.cells cur e fz)
section
variable {M : Nat} {P : Program} {W : World}
def Fine (M : Nat) (P : Program) (t : TypeId) {H : Type} (d : DataW H) : Prop := ∀ n, n ∈ d.weights P t → n ≤ M
structure RC (M : Nat) (P : Program) (W : World) {α : Type} (t : TypeId) (w : Nat) (enc : α → List GV) (ok : α → Prop) : Prop where
  cells : P.cellsOf t = w
  len : ∀ x, ok x → (enc x).length = w
  rd : ∀ {H : Type} {en : TypeId × Value → H} {fuel : Nat} {cs : List Value} {d : DataW H} {ps : List MemPlace}, DataW.trod en P W 0 (fun _ => true) true fuel t cs = some (d, ps) → Fine M P t d → (∀ a, Value.slice (some a) 0 0 ∈ cs → HasRow W) →
    ∃ x, ok x ∧ cs.length = w ∧ ∀ (i : Nat) (g : GV) (v : Value), (enc x)[i]? = some g → cs[i]? = some v → Rep W v g
theorem RC.int {t : TypeId} {k : IntKind} (ht : P.underlying t = some (.int k)) (hc : P.cellsOf t = 1) : RC M P W t 1 (fun n : Int => [.v (.int k n)]) (fun n => (Lit.int k n).wf = true) :=
  ⟨hc, fun _ _ => rfl, fun h _ _ => by
    obtain ⟨n, rfl, _, hw⟩ := DataW.trod_int ht h
    refine ⟨n, hw, rfl, fun i g v e1 e2 => ?_⟩
    cases i with
    | zero => cases e1; cases e2; exact .v rfl
    | succ i => simp at e1⟩
theorem RC.bool {t : TypeId} (ht : P.underlying t = some .bool) (hc : P.cellsOf t = 1) : RC M P W t 1 (fun n : Bool => [.v (.bool n)]) (fun _ => True) :=
  ⟨hc, fun _ _ => rfl, fun h _ _ => by
    obtain ⟨n, rfl, _⟩ := DataW.trod_bool ht h
    refine ⟨n, trivial, rfl, fun i g v e1 e2 => ?_⟩
    cases i with
    | zero => cases e1; cases e2; exact .v rfl
    | succ i => simp at e1⟩
theorem RC.str {t : TypeId} (ht : P.underlying t = some .string) (hc : P.cellsOf t = 1) : RC M P W t 1 (fun s : ByteArray => [.v (.string s)]) (fun s => s.size ≤ M) :=
  ⟨hc, fun _ _ => rfl, fun h hf _ => by
    obtain ⟨s, rfl, hx, _⟩ := DataW.trod_string ht h
    simp only [Prod.mk.injEq] at hx
    obtain ⟨rfl, rfl⟩ := hx
    refine ⟨s, ?_, rfl, fun i g v e1 e2 => ?_⟩
    · have := hf s.data.toList.length (by simp [DataW.weights])
      simpa using this
    · cases i with
      | zero => cases e1; cases e2; exact .v rfl
      | succ i => simp at e1⟩
/-- other words for the same -/
theorem RC.map {α β : Type} {t : TypeId} {w : Nat} {enc : α → List GV} {enc' : β → List GV} {ok : α → Prop} {ok' : β → Prop} (h : RC M P W t w enc ok) (f : α → β) (hf : ∀ x, ok x → ok' (f x) ∧ enc' (f x) = enc x) (hl : ∀ y, ok' y → (enc' y).length = w) : RC M P W t w enc' ok' :=
  ⟨h.cells, hl, fun h1 h2 h3 => by
    obtain ⟨x, a, b, c⟩ := h.rd h1 h2 h3
    obtain ⟨e1, e2⟩ := hf x a
    exact ⟨f x, e1, b, fun i g v k1 k2 => c i g v (by rw [← e2]; exact k1) k2⟩⟩
theorem RC.byte {t : TypeId} (ht : P.underlying t = some (.int .u8)) (hc : P.cellsOf t = 1) : RC M P W t 1 encB (fun _ => True) :=
  (RC.int ht hc).map (fun n => UInt8.ofNat n.toNat) (fun n hn => ⟨trivial, by
    have h : 0 ≤ n ∧ n ≤ 255 := by
      have h1 : (decide ((0 : Int) ≤ n) && decide (n ≤ 255)) = true := hn
      simpa using h1
    unfold encB
    have : ((UInt8.ofNat n.toNat).toNat : Int) = n := by rw [UInt8.toNat_ofNat']; omega
    rw [this]⟩) (fun _ _ => rfl)
theorem cells_at {a : Addr} {n : Nat} {l : List Value} (h : W.cells? 0 a n = some l) (hn : 0 < n) : l.length = n ∧ a.spot = none ∧ ∃ cur e fz, W.heap[a.block]? = some (.cells cur e fz) ∧ ∀ k, k < n → cur[a.off + k]? = l[k]? := by
  unfold World.cells? at h
  rw [if_pos (Nat.zero_le _)] at h
  have hl := mapM_some_length h
  simp at hl
  have hat : ∀ k, k < n → W.cell? (a.add k) = l[k]? := fun k hk => mapM_some_get h k k (by simp [hk])
  have h0 := hat 0 hn
  have hl0 : l[0]? = some (l[0]'(by omega)) := by simp [hl, hn]
  rw [hl0] at h0
  have ha0 : a.add 0 = a := by simp [Addr.add]
  rw [ha0] at h0
  unfold World.cell? at h0
  split at h0
  · rename_i cur e fz hb
    split at h0
    · cases h0
    · rename_i hs
      refine ⟨hl, by simpa using hs, cur, e, fz, hb, fun k hk => ?_⟩
      rw [← hat k hk]
      unfold World.cell?
      by_cases hk0 : k = 0
      · subst hk0
        rw [ha0]
        simp only [hb]
        rw [if_neg hs]; rfl
      · have hadd : a.add k = { a with off := a.off + k, spot := none } := by simp [Addr.add, hk0]
        rw [hadd]
        simp only [hb]
        simp
  · cases h0
theorem weightsAll_mem {e : TypeId} {H : Type} : ∀ {l : List (DataW H)} {d : DataW H} {n : Nat}, d ∈ l → n ∈ d.weights P e → n ∈ DataW.weightsAll P e l
  | x :: l, d, n, h, k => by
    rw [DataW.weightsAll, List.mem_append]
    rcases List.mem_cons.1 h with h | h
    · subst h; exact .inl k
    · exact .inr (weightsAll_mem h k)
theorem RC.slice {α : Type} {t e : TypeId} {w : Nat} {enc : α → List GV} {ok : α → Prop} (ht : P.underlying t = some (.slice e)) (hc : P.cellsOf t = 1) (he : RC M P W e w enc ok) (hw : 0 < w) :
    RC M P W t 1 (fun l : List α => [.fsl w (l.map enc)]) (fun l => (∀ x, x ∈ l → ok x) ∧ l.length * P.bytesOf e ≤ M) :=
  ⟨hc, fun _ _ => rfl, fun {H en fuel cs d ps} h hf hrow => by
    rcases DataW.trod_slice ht h with ⟨rfl, hx⟩ | ⟨a, len, cap, elems, rest, n, rfl, rfl, hx, _, hlc, _, hlen, hel, hsp, _⟩
    · refine ⟨[], ⟨(fun x hx => by cases hx), by simp⟩, rfl, fun i g v e1 e2 => ?_⟩
      cases i with
      | zero => cases e1; cases e2; exact .nil
      | succ i => simp at e1
    · simp only [Prod.mk.injEq] at hx
      obtain ⟨rfl, rfl⟩ := hx
      obtain ⟨hrl, hr⟩ := hsp rfl
      have hwt : (elems.length + rest.length) * P.bytesOf e ≤ M := hf _ (by simp [DataW.weights, ht])
      by_cases hcap : cap = 0
      · subst hcap
        obtain rfl : len = 0 := by omega
        obtain ⟨r, cur, e', fz, hb⟩ := hrow a List.mem_cons_self
        refine ⟨[], ⟨(fun x hx => by cases hx), by simp⟩, rfl, fun i g v e1 e2 => ?_⟩
        cases i with
        | zero => cases e1; cases e2; exact .sl0 hb
        | succ i => simp at e1
      · -- every place is read
        have each : ∀ j, j < cap → ∃ l y, W.cells? 0 (a.add (j * w)) w = some l ∧ DataW.trod en P W 0 (fun _ => true) true n e l = some y ∧ (j < len → elems[j]? = some y) := fun j hj => by
          by_cases hjl : j < len
          · have h1 := hel j hjl
            have h2 : elems[j]? = some (elems[j]'(by omega)) := by first | (simp; done) | (simp; omega)
            rw [h2, Option.bind_eq_some_iff] at h1
            obtain ⟨l, l1, l2⟩ := h1
            rw [he.cells] at l1
            exact ⟨l, _, l1, l2, fun _ => h2⟩
          · have h1 := hr (j - len) (by omega)
            have h2 : rest[j - len]? = some (rest[j - len]'(by omega)) := by first | (simp; done) | (simp; omega)
            rw [h2, Option.bind_eq_some_iff] at h1
            obtain ⟨l, l1, l2⟩ := h1
            rw [he.cells, show len + (j - len) = j by omega] at l1
            exact ⟨l, _, l1, l2, fun c => absurd c hjl⟩
        obtain ⟨l0, y0, k0, _, _⟩ := each 0 (by omega)
        rw [Nat.zero_mul, show a.add 0 = a by simp [Addr.add]] at k0
        obtain ⟨_, hs, cur, e', fz, hb, _⟩ := cells_at k0 hw
        have hadd : ∀ m, a.add m = ⟨a.block, a.off + m, none⟩ := fun m => by
          cases a; simp at hs; subst hs
          simp only [Addr.add]; split
          · rename_i c; subst c; rfl
          · rfl
        have hcell : ∀ j, j < cap → ∃ l y, l.length = w ∧ (∀ k, k < w → cur[a.off + j * w + k]? = l[k]?) ∧ DataW.trod en P W 0 (fun _ => true) true n e l = some y ∧ (j < len → elems[j]? = some y) := fun j hj => by
          obtain ⟨l, y, q1, q2, q3⟩ := each j hj
          obtain ⟨r1, _, cur', e'', fz', hb', r2⟩ := cells_at q1 hw
          rw [hadd] at hb' r2
          simp only [] at hb' r2
          rw [hb] at hb'; cases hb'
          exact ⟨l, y, r1, r2, q2, q3⟩
        have hsz : a.off + cap * w ≤ cur.size := by
          obtain ⟨l, y, q1, q2, _⟩ := hcell (cap - 1) (by omega)
          have h1 := q2 (w - 1) (by omega)
          have h2 : l[w - 1]? = some (l[w - 1]'(by omega)) := by first | (simp; done) | (simp; omega)
          rw [h2] at h1
          have h3 := (Array.getElem?_eq_some_iff.1 h1).1
          have h4 : cap * w = (cap - 1) * w + w := by
            conv => lhs; rw [show cap = (cap - 1) + 1 by omega, Nat.add_mul, Nat.one_mul]
          omega
        have build : ∀ m, m ≤ len → ∃ l : List α, l.length = m ∧ ∀ (i : Nat) (x : α), l[i]? = some x → ok x ∧ ∀ (k : Nat) (g : GV), (enc x)[k]? = some g → ∃ v, cur[a.off + i * w + k]? = some v ∧ Rep W v g := by
          intro m
          induction m with
          | zero => intro _; exact ⟨[], rfl, fun i x e => by simp at e⟩
          | succ m ih =>
            intro hm
            obtain ⟨l, b1, b2⟩ := ih (by omega)
            obtain ⟨c, y, q1, q2, q3, q4⟩ := hcell m (by omega)
            obtain ⟨d', ps'⟩ := y
            have hmem : elems[m]? = some (d', ps') := q4 (by omega)
            obtain ⟨x, x1, x2, x3⟩ := he.rd q3 (fun n' hn' => hf n' (by
              simp only [DataW.weights, ht, List.mem_cons, List.mem_append]
              right; left
              exact weightsAll_mem (List.mem_map.2 ⟨_, List.mem_of_getElem? hmem, rfl⟩) hn')) (fun a' _ => ⟨_, cur, e', fz, hb⟩)
            refine ⟨l ++ [x], by simp [b1], fun i z e => ?_⟩
            by_cases hi : i < m
            · rw [List.getElem?_append_left (by omega)] at e; exact b2 i z e
            · rw [List.getElem?_append_right (by omega)] at e
              have hi0 : i - l.length = 0 := by
                have := (List.getElem?_eq_some_iff.1 e).1
                simp at this; exact this
              rw [hi0] at e; cases e
              have : i = m := by omega
              subst this
              refine ⟨x1, fun k g hg => ?_⟩
              have hk : k < w := by rw [← he.len x x1]; exact (List.getElem?_eq_some_iff.1 hg).1
              have hck : c[k]? = some (c[k]'(by omega)) := by first | (simp; done) | (simp; omega)
              exact ⟨_, by rw [q2 k hk, hck], x3 k g _ hg hck⟩
        obtain ⟨l, b1, b2⟩ := build len (Nat.le_refl _)
        refine ⟨l, ⟨fun x hx => ?_, ?_⟩, rfl, fun i g v e1 e2 => ?_⟩
        · obtain ⟨i, hi⟩ := List.getElem?_of_mem hx
          exact (b2 i x hi).1
        · refine Nat.le_trans (Nat.mul_le_mul_right _ ?_) hwt
          omega
        · cases i with
          | zero =>
            cases e1; cases e2
            refine Rep.sl (fun i k => cur.getD (a.off + i * w + k) (.bool false)) hs hb hsz (by simp [b1]) hlc (fun c hc' => ?_) (fun i k c x hi hk => ?_) (fun i k c x hi hk => ?_)
            · obtain ⟨y, hy, rfl⟩ := List.mem_map.1 hc'
              obtain ⟨i, hi⟩ := List.getElem?_of_mem hy
              exact he.len y (b2 i y hi).1
            all_goals
              rw [List.getElem?_map] at hi
              cases hy : l[i]? with
              | none => rw [hy] at hi; cases hi
              | some y =>
                rw [hy] at hi; cases hi
                obtain ⟨v, v1, v2⟩ := (b2 i y hy).2 k x hk
                have hg : cur.getD (a.off + i * w + k) (.bool false) = v := by
                  obtain ⟨z1, z2⟩ := Array.getElem?_eq_some_iff.1 v1
                  simp [Array.getD, z1, z2]
                first | (rw [v1, hg]; done) | (rw [hg]; exact v2)
          | succ i => simp at e1⟩
/-! structs, field by field -/
structure RCF (M : Nat) (P : Program) (W : World) {α : Type} (fs : List Field) (o w : Nat) (enc : α → List GV) (ok : α → Prop) : Prop where
  len : ∀ x, ok x → (enc x).length = w
  rd : ∀ {H : Type} {en : TypeId × Value → H} {n : Nat} {cs : List Value} {xs : List (DataW H × List MemPlace)}, xs.length = fs.length →
    (∀ (i : Nat) (f : Field), fs[i]? = some f → DataW.trod en P W 0 (fun _ => true) true n f.type ((cs.drop f.offset).take (P.cellsOf f.type)) = xs[i]?) → (∀ m, m ∈ DataW.weightsEach P (fs.map (·.type)) (xs.map (·.1)) → m ≤ M) →
    (∀ a, Value.slice (some a) 0 0 ∈ cs → HasRow W) → ∃ x, ok x ∧ ∀ (i : Nat) (g : GV) (v : Value), (enc x)[i]? = some g → cs[o + i]? = some v → Rep W v g
theorem RCF.nil {o : Nat} : RCF M P W [] o 0 (fun _ : Unit => []) (fun _ => True) :=
  ⟨fun _ _ => rfl, fun _ _ _ _ => ⟨(), trivial, fun i g v e => by simp at e⟩⟩
theorem RCF.cons {α β : Type} {f : Field} {fs : List Field} {o o' w w' : Nat} {enc : α → List GV} {enc' : β → List GV} {ok : α → Prop} {ok' : β → Prop} (ho : f.offset = o) (h : RC M P W f.type w enc ok) (ho' : o' = o + w) (k : RCF M P W fs o' w' enc' ok') :
    RCF M P W (f :: fs) o (w + w') (fun p : α × β => enc p.1 ++ enc' p.2) (fun p => ok p.1 ∧ ok' p.2) := by
  subst ho'
  refine ⟨fun x hx => by rw [List.length_append, h.len _ hx.1, k.len _ hx.2], fun {H en n cs xs} hl hr hw hrow => ?_⟩
  cases xs with
  | nil => simp at hl
  | cons y ys =>
    have h0 := hr 0 f rfl
    obtain ⟨d, ps⟩ := y
    rw [ho, h.cells] at h0
    have h0' : DataW.trod en P W 0 (fun _ => true) true n f.type ((cs.drop o).take w) = some (d, ps) := h0
    obtain ⟨x, x1, x2, x3⟩ := h.rd h0' (fun m hm => hw m (by
      simp only [List.map_cons, DataW.weightsEach, List.mem_append]; exact .inl hm)) (fun a ha => hrow a (List.mem_of_mem_drop (List.mem_of_mem_take ha)))
    obtain ⟨z, z1, z2⟩ := k.rd (xs := ys) (by simpa using hl) (fun i f' hf' => by have := hr (i + 1) f' (by simpa using hf'); simpa using this) (fun m hm => hw m (by
      simp only [List.map_cons, DataW.weightsEach, List.mem_append]; exact .inr hm)) hrow
    refine ⟨(x, z), ⟨x1, z1⟩, fun i g v e1 e2 => ?_⟩
    have hlen := h.len x x1
    by_cases hi : i < w
    · have e1' : (enc x)[i]? = some g := by
        have : (enc x ++ enc' z)[i]? = some g := e1
        rwa [List.getElem?_append_left (by omega)] at this
      exact x3 i g v e1' (by rw [List.getElem?_take, if_pos hi, List.getElem?_drop]; exact e2)
    · have e1' : (enc' z)[i - w]? = some g := by
        have : (enc x ++ enc' z)[i]? = some g := e1
        rwa [List.getElem?_append_right (by omega), hlen] at this
      exact z2 (i - w) g v e1' (by rw [show o + w + (i - w) = o + i by omega]; exact e2)
theorem RC.struct {α : Type} {t : TypeId} {fs : Array Field} {w : Nat} {enc : α → List GV} {ok : α → Prop} (ht : P.underlying t = some (.struct fs)) (hc : P.cellsOf t = w) (k : RCF M P W fs.toList 0 w enc ok) : RC M P W t w enc ok :=
  ⟨hc, k.len, fun {H en fuel cs d ps} h hf hrow => by
    obtain ⟨xs, n, rfl, hx, h1, h2, h3⟩ := DataW.trod_struct ht h
    simp only [Prod.mk.injEq] at hx
    obtain ⟨rfl, rfl⟩ := hx
    obtain ⟨x, x1, x2⟩ := k.rd (cs := cs) (xs := xs) (by simpa using h2) (fun i f hf' => h3 i f (by simpa using hf')) (fun m hm => hf m (by simp only [DataW.weights, ht]; exact hm)) hrow
    exact ⟨x, x1, by rw [h1, hc], fun i g v e1 e2 => x2 i g v e1 (by rw [Nat.zero_add]; exact e2)⟩⟩
/-! arrays -/
theorem trod_array {H : Type} {en : TypeId × Value → H} {t e : TypeId} {n fuel : Nat} {cs : List Value} {x : DataW H × List MemPlace} (ht : P.underlying t = some (.array n e)) (h : DataW.trod en P W 0 (fun _ => true) true fuel t cs = some x) :
    ∃ (xs : List (DataW H × List MemPlace)) (m : Nat), fuel = m + 1 ∧ x = (.agg (xs.map (·.1)), xs.flatMap (·.2)) ∧ cs.length = P.cellsOf t ∧ xs.length = n ∧
      ∀ (i : Nat), i < n → DataW.trod en P W 0 (fun _ => true) true m e ((cs.drop (i * P.cellsOf e)).take (P.cellsOf e)) = xs[i]? := by
  cases fuel with
  | zero => simp [DataW.trod] at h
  | succ m =>
    unfold DataW.trod at h
    rw [ht] at h
    split at h <;> simp_all
    obtain ⟨hl, xs, hp, hd⟩ := h
    exact ⟨xs, hd.symm, by simpa using mapM_some_length hp, fun i hf => mapM_some_get hp i i (by simp [hf])⟩
theorem RC.array {α : Type} {t e : TypeId} {n w : Nat} {enc : α → List GV} {ok : α → Prop} (ht : P.underlying t = some (.array n e)) (hc : P.cellsOf t = n * w) (he : RC M P W e w enc ok) :
    RC M P W t (n * w) (fun l : List α => l.flatMap enc) (fun l => l.length = n ∧ ∀ x, x ∈ l → ok x) := by
  have hlen : ∀ (l : List α), (∀ x, x ∈ l → ok x) → (l.flatMap enc).length = l.length * w := by
    intro l
    induction l with
    | nil => intro _; simp
    | cons x l ih => intro h; rw [List.flatMap_cons, List.length_append, he.len x (h x List.mem_cons_self), ih (fun y hy => h y (List.mem_cons_of_mem _ hy)), List.length_cons, Nat.add_mul]; omega
  refine ⟨hc, fun l hl => by rw [hlen l hl.2, hl.1], fun {H en fuel cs d ps} h hf hrow => ?_⟩
  obtain ⟨xs, m, rfl, hx, h1, h2, h3⟩ := trod_array ht h
  simp only [Prod.mk.injEq] at hx
  obtain ⟨rfl, rfl⟩ := hx
  have build : ∀ q, q ≤ n → ∃ l : List α, l.length = q ∧ (∀ x, x ∈ l → ok x) ∧ ∀ (i : Nat) (g : GV) (v : Value), (l.flatMap enc)[i]? = some g → cs[i]? = some v → Rep W v g := by
    intro q
    induction q with
    | zero => intro _; exact ⟨[], rfl, (fun x hx => by cases hx), fun i g v e => by simp at e⟩
    | succ q ih =>
      intro hq
      obtain ⟨l, b1, b2, b3⟩ := ih (by omega)
      have h4 := h3 q (by omega)
      have h5 : xs[q]? = some (xs[q]'(by omega)) := by first | (simp; done) | (simp; omega)
      rw [h5, he.cells] at h4
      have h6 : xs[q]'(by omega) ∈ xs := List.getElem_mem _
      generalize xs[q]'(by omega) = y at h4 h6
      obtain ⟨d', ps'⟩ := y
      obtain ⟨x, x1, x2, x3⟩ := he.rd h4 (fun n' hn' => hf n' (by
        simp only [DataW.weights, ht]
        exact weightsAll_mem (List.mem_map.2 ⟨_, h6, rfl⟩) hn')) (fun a ha => hrow a (List.mem_of_mem_drop (List.mem_of_mem_take ha)))
      refine ⟨l ++ [x], by simp [b1], fun z hz => ?_, fun i g v e1 e2 => ?_⟩
      · rcases List.mem_append.1 hz with hz | hz
        · exact b2 z hz
        · rcases List.mem_singleton.1 hz with rfl; exact x1
      · rw [List.flatMap_append] at e1
        have hll := hlen l b2
        by_cases hi : i < (l.flatMap enc).length
        · rw [List.getElem?_append_left hi] at e1; exact b3 i g v e1 e2
        · rw [List.getElem?_append_right (by omega)] at e1
          simp only [List.flatMap_cons, List.flatMap_nil, List.append_nil] at e1
          have hk := (List.getElem?_eq_some_iff.1 e1).1
          rw [he.len x x1] at hk
          refine x3 _ g v e1 ?_
          rw [List.getElem?_take, if_pos hk, List.getElem?_drop, ← e2]; congr 1
          rw [hll, b1] at hi ⊢; omega
  obtain ⟨l, b1, b2, b3⟩ := build n (Nat.le_refl _)
  exact ⟨l, ⟨b1, b2⟩, by rw [h1, hc], b3⟩
/-! an argument -/
theorem row_of_ok {r : Reach} {b0 : Nat} {t : TypeId} {a : Addr} {n c : Nat} (h : Cell.okWide P W r b0 t (.slice (some a) n c)) : HasRow W := by
  have h' : Cell.ok P W r b0 t (.slice (some a) n c) := by
    unfold Cell.okWide at h
    split at h <;> first | exact h | (rename_i e; cases e)
  unfold Cell.ok at h'
  split at h' <;> first | (exact h'.elim) | skip
  all_goals (try (rename_i e; cases e; done))
  all_goals
    first
    | (obtain ⟨_, _, hh⟩ := h'
       obtain ⟨_, _, row, cells, hs, _⟩ := hh
       unfold World.shape? at hs
       split at hs
       · rename_i cur el fz hb; exact ⟨_, cur, el, _, hb⟩
       · cases hs)
    | skip
end
end Go.AM
