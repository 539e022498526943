/- Contracts of the functions that the statement reaches. No condition. -/
import Derived.Test.YtomglcfneeelgaaPL3d
set_option linter.all false
set_option maxRecDepth 10000
namespace Go.AM.PL
theorem modN (t d n : Nat) : ((t : Int) + (d : Int)) % (n : Int) = (((t + d) % n : Nat) : Int) := by
  rw [← Int.natCast_add]; exact (Int.natCast_emod _ _).symm
theorem word_len {l : List Rn} : ((word l).length : Int) = wlen l := rfl
theorem sp_word {l : List Rn} (hl : ∀ r ∈ l, 1 ≤ r.n) (p : Int) : spV p 0 l = [] ↔ ¬ p ∈ word l := by
  have hr := sp_rising p l 0 hl
  constructor
  · intro h hp
    obtain ⟨k, hk, e⟩ := List.mem_iff_getElem.1 hp
    have := (sp_mem p l 0 (k : Int) hl).2 ⟨k, by omega, by rw [List.getElem?_eq_getElem hk, e]⟩
    obtain ⟨s, hs, _⟩ := this
    rw [h] at hs; cases hs
  · intro h
    cases e : spV p 0 l with
    | nil => rfl
    | cons s b =>
      exfalso
      have hs := hr.mem s (by rw [e]; exact List.mem_cons_self ..)
      obtain ⟨k, _, hk⟩ := (sp_mem p l 0 s.1 hl).1 ⟨s, by rw [e]; exact List.mem_cons_self .., Int.le_refl _, hs.2.1⟩
      exact h (List.mem_of_getElem? hk)
theorem PW_nat {l : List Rn} {p t : Int} (h0 : 0 < wlen l) : PW l p t ↔ ∃ k : Nat, (k : Int) = t % wlen l ∧ k < (word l).length ∧ (word l).getD k 0 = p := by
  have h1 := Int.emod_nonneg t (b := wlen l) (by omega)
  have h2 := Int.emod_lt_of_pos t h0
  unfold PW
  constructor
  · intro h
    have hk := (List.getElem?_eq_some_iff.1 h).1
    refine ⟨(t % wlen l).toNat, by omega, hk, ?_⟩
    rw [List.getD_eq_getElem?_getD, h]; rfl
  · rintro ⟨k, e, hk, hp⟩
    rw [← e, Int.toNat_natCast, List.getElem?_eq_getElem hk]
    rw [List.getD_eq_getElem?_getD, List.getElem?_eq_getElem hk] at hp
    exact congrArg some hp
theorem ref_late {l : List Rn} (hl : ∀ r ∈ l, 1 ≤ r.n) {p q : Int} {v : Nat} (hp : p ∈ word l) (hq : q ∈ word l)
    (hup : ∀ t, t < (word l).length → (word l).getD t 0 = p → ∃ d, 1 ≤ d ∧ d ≤ v ∧ (word l).getD ((t + d) % (word l).length) 0 = q)
    (hat : ∃ t, t < (word l).length ∧ (word l).getD t 0 = p ∧ ∀ d, 1 ≤ d → d < v → (word l).getD ((t + d) % (word l).length) 0 ≠ q) : lateV l p q = (v : Int) := by
  have hs := late_is hl (p := p) (q := q) (fun c => (sp_word hl p).1 c hp) (fun c => (sp_word hl q).1 c hq)
  have h0 : 0 < wlen l := by
    have := List.length_pos_of_mem hp
    unfold wlen; omega
  refine hs.1.uniq ⟨fun t ht => ?_, ?_⟩
  · obtain ⟨k, e, hk, hkp⟩ := (PW_nat h0).1 ht
    obtain ⟨d, d1, d2, d3⟩ := hup k hk hkp
    refine ⟨(d : Int), by omega, by omega, (PW_nat h0).2 ⟨(k + d) % (word l).length, ?_, Nat.mod_lt _ (by omega), d3⟩⟩
    rw [← modN, e, word_len, Int.emod_add_emod]
  · obtain ⟨t, ht, hp2, hd⟩ := hat
    refine ⟨(t : Int), (PW_nat h0).2 ⟨t, ?_, ht, hp2⟩, fun d h1 h2 hQ => ?_⟩
    · rw [Int.emod_eq_of_lt (by omega) (by rw [← word_len]; omega)]
    · obtain ⟨k, e, hk, hkq⟩ := (PW_nat h0).1 hQ
      obtain ⟨D, rfl⟩ : ∃ D : Nat, d = D := ⟨d.toNat, by omega⟩
      rw [← word_len, modN] at e
      have e2 : k = (t + D) % (word l).length := by omega
      exact hd D (by omega) (by omega) (by rw [← e2]; exact hkq)
theorem some_d {w : List Int} {q : Int} (hq : q ∈ w) (t : Nat) : ∃ D, 1 ≤ D ∧ D ≤ w.length ∧ w.getD ((t + D) % w.length) 0 = q := by
  obtain ⟨u, hu, e⟩ := List.mem_iff_getElem.1 hq
  have h0 : 0 < w.length := by omega
  have ht := Nat.mod_lt t h0
  have key : ∀ D, (t % w.length + D = u ∨ t % w.length + D = u + w.length) → (t + D) % w.length = u := fun D h => by
    rw [Nat.add_mod, ← Nat.add_mod_mod (t % w.length), Nat.mod_mod, ← Nat.add_mod, ← Nat.mod_add_mod]
    rcases h with h | h
    · rw [h, Nat.mod_eq_of_lt hu]
    · rw [h, Nat.add_mod_right, Nat.mod_eq_of_lt hu]
  have hg : w.getD u 0 = q := by rw [List.getD_eq_getElem?_getD, List.getElem?_eq_getElem hu]; exact e
  by_cases c : t % w.length < u
  · exact ⟨u - t % w.length, by omega, by omega, by rw [key _ (by omega)]; exact hg⟩
  · exact ⟨u + w.length - t % w.length, by omega, by omega, by rw [key _ (by omega)]; exact hg⟩
theorem count_win (A B : List Int) (a b : Nat) : ((A ++ B).drop a).take b = (A.drop a).take b ++ (B.drop (a - A.length)).take (b - (A.length - a)) := by
  rw [List.drop_append, List.take_append, List.length_drop]
theorem bud_count (p : Int) (x per : Nat) : ∀ (l : List Rn) (c : Nat), (∀ r ∈ l, 1 ≤ r.n) → budW (spV p (c : Int) l) (x : Int) (per : Int) = ((((word l).drop (x - c)).take (x + per - max c x)).count p : Nat)
  | [], c, _ => by simp [spV, budW, word]
  | r :: l, c, h => by
    have h1 := h r (List.mem_cons_self ..)
    obtain ⟨n, hn⟩ : ∃ n : Nat, r.n = n := ⟨r.n.toNat, by omega⟩
    have ih := bud_count p x per l (c + n) (fun q hq => h q (List.mem_cons_of_mem _ hq))
    have hw : word (r :: l) = List.replicate n r.p ++ word l := by rw [word_cons, hn, Int.toNat_natCast]
    have e1 : (c : Int) + r.n = ((c + n : Nat) : Int) := by omega
    rw [hw, count_win, List.count_append, List.length_replicate, List.drop_replicate, List.take_replicate, List.count_replicate]
    have e2 : x - c - n = x - (c + n) := by omega
    have e3 : x + per - max c x - (n - (x - c)) = x + per - max (c + n) x := by omega
    rw [e2, e3, Int.natCast_add, ← ih, spV]
    by_cases hp : r.p = p
    · rw [if_pos hp, budW_cons, e1, if_pos (by simpa using hp)]; dsimp only; omega
    · rw [if_neg hp, e1, if_neg (by simpa using hp)]; simp
def cntW (l : List Rn) (p : Int) (x per : Nat) : Nat := (((word l).take (x + per)).drop x).count p
theorem cnt_bud {l : List Rn} (hl : ∀ r ∈ l, 1 ≤ r.n) (p : Int) (x per : Nat) : (cntW l p x per : Int) = budW (spV p 0 l) (x : Int) (per : Int) := by
  have := bud_count p x per l 0 hl
  rw [show ((0 : Nat) : Int) = 0 from rfl] at this
  rw [this, Nat.sub_zero, show x + per - max 0 x = per by omega]
  unfold cntW
  rw [List.drop_take, show x + per - x = per by omega]
def budR (l : List Rn) (p : Int) (per : Nat) : Nat → Int
  | 0 => (per : Int) + 1
  | k + 1 => min (budR l p per k) (cntW l p (per * k) per)
theorem cntW_le (l : List Rn) (p : Int) (x per : Nat) : cntW l p x per ≤ per := by
  unfold cntW
  refine Nat.le_trans List.count_le_length ?_
  rw [List.length_drop, List.length_take]; omega
theorem budR_I {l : List Rn} (hl : ∀ r ∈ l, 1 ≤ r.n) (p : Int) (per : Nat) : ∀ k, budR l p per (k + 1) = budI (spV p 0 l) (per : Int) (k + 1)
  | 0 => by
    show min _ _ = min _ _
    have := cntW_le l p (per * 0) per
    have e := cnt_bud hl p (per * 0) per
    rw [show ((per * 0 : Nat) : Int) = (per : Int) * ((0 : Nat) : Int) by simp] at e
    rw [← e]
    rw [show budR l p per 0 = (per : Int) + 1 from rfl]
    have e2 : ∀ c : Int, c ≤ (per : Int) → min ((per : Int) + 1) c = min (per : Int) c := fun c h => by omega
    exact e2 _ (Int.ofNat_le.2 (cntW_le l p (per * 0) per))
  | k + 1 => by
    show min (budR l p per (k + 1)) _ = min (budI _ _ (k + 1)) _
    have e := cnt_bud hl p (per * (k + 1)) per
    rw [Int.natCast_mul] at e
    rw [budR_I hl p per k, e]
theorem budR_rng (l : List Rn) (p : Int) (per : Nat) : ∀ k, 0 ≤ budR l p per k ∧ budR l p per k ≤ per + 1
  | 0 => by have : budR l p per 0 = (per : Int) + 1 := rfl
            omega
  | k + 1 => by
    have := budR_rng l p per k
    show 0 ≤ min _ _ ∧ min _ _ ≤ _
    omega
end Go.AM.PL
