/- Contracts of the functions that the statement reaches. No condition. -/
import Derived.Test.YtomglcfneeelgaaPL12c
set_option linter.all false
set_option maxRecDepth 10000
namespace Go.AM.PL
def CfgP (P : List Pt) (C : List Ch) (tabs : List (List Nd)) : Prop := ((1 ≤ P.length ∧ P.length ≤ 4) ∧ ∀ p ∈ P, i64 p.per) ∧ (C.length ≤ 20 ∧ okCs (P.length : Int) C) ∧ (1 ≤ tabs.length ∧ tabs.length ≤ 3) ∧ ∀ t ∈ tabs, t.length ≤ 2 ^ 20
theorem cfgOut {A : AProg} {f : Nat} {vs : List GV} {P0 : GHp} {t : List Int} (hc : WpCallG A f vs P0 (fun v H => ∃ (X : List Pc) (C : List Ch) (tabs : List (List Nd)) (b : Nat), CfgOk X C tabs ∧ b ≤ t.length ∧ v = .agg [.fsl 11 (X.map encX), .fsl 6 (C.map encC), .fsl 1 (tabs.map encTb)] ∧ H = [(0, tbox t b)])) :
    WpCallG A f vs P0 (fun v H => ∃ (P : List Pt) (C : List Ch) (tabs : List (List Nd)) (b : Nat), CfgP P C tabs ∧ b ≤ t.length ∧ v = .agg [.fsl 11 (P.map encP), .fsl 6 (C.map encC), .fsl 1 (tabs.map encTb)] ∧ H = [(0, tbox t b)]) := fun Z om as H hr hv => by
  refine (hc Z om as H hr hv).mono ?_
  rintro a H' ⟨Z', om', v, HG', a1, a2, a3, a4, X, C, tabs, b, hok, hb, rfl, rfl⟩
  refine ⟨Z', om', _, _, a1, ?_, a3, a4, parts X, C, tabs, b, ⟨⟨?_, ?_⟩, ?_, hok.2.2⟩, hb, rfl, rfl⟩
  · obtain ⟨bs, rfl, h1, h2⟩ := a2.agg_inv
    refine .agg h1 fun i x y e f => ?_
    match i, e with
    | 0, e => cases e; rw [← encX_any]; exact VR.fany (h2 0 _ y rfl f)
    | 1, e => cases e; exact h2 1 _ y rfl f
    | 2, e => cases e; exact h2 2 _ y rfl f
  · rw [parts_len]; exact hok.1.1
  · intro p hp
    obtain ⟨c, hc, rfl⟩ := List.mem_map.1 hp
    exact (hok.1.2 c hc).2.2
  · rw [parts_len]; exact hok.2.1
section
variable {P : List Pt} {C : List Ch} {n : Nat} {f g : Nat → Nat → Bool} {x : Ch}
theorem upd_keep {i j a b : Nat} (h : f a b = true) : updF f i j true a b = true := by unfold updF; split <;> first | rfl | exact h
theorem stD_keep {a b : Nat} (h : f a b = true) : stD n f x a b = true := by
  unfold stD; split
  · exact upd_keep (upd_keep h)
  · exact h
theorem stS_keep {a b : Nat} (h : f a b = true) : stS n f x a b = true := by
  unfold stS; split
  · unfold upS
    have h1 : updF f x.fr.toNat x.to.toNat true a b = true := upd_keep h
    unfold updF at h1 ⊢
    split
    · rename_i c; rw [c.1, c.2] at h1; rw [h1]; rfl
    · exact h1
  · exact h
theorem foldD_keep {a b : Nat} : ∀ (C : List Ch) (f : Nat → Nat → Bool), f a b = true → C.foldl (stD n) f a b = true
  | [], _, h => h
  | x :: C, f, h => foldD_keep C _ (stD_keep h)
theorem foldS_keep {a b : Nat} : ∀ (C : List Ch) (f : Nat → Nat → Bool), f a b = true → C.foldl (stS n) f a b = true
  | [], _, h => h
  | x :: C, f, h => foldS_keep C _ (stS_keep h)
theorem sw_self (a : Nat) : swG P C a a = true := foldS_keep C _ (by unfold sF; rw [decide_eq_true rfl]; rfl)
theorem mem_split {x : Ch} (h : x ∈ C) : ∃ A B, C = A ++ x :: B := List.append_of_mem h
theorem dep_chan (h : x ∈ C) (hb : both7 P.length x = true) : depG P C x.fr.toNat x.to.toNat = true := by
  obtain ⟨A, B, rfl⟩ := mem_split h
  unfold depG
  rw [List.foldl_append, List.foldl_cons]
  refine foldD_keep B _ ?_
  unfold stD; rw [if_pos hb]
  exact upd_keep (by unfold updF; rw [if_pos ⟨rfl, rfl⟩])
theorem sw_chan (h : x ∈ C) (hb : both7 P.length x = true) : swG P C x.fr.toNat x.to.toNat = true ∧ (x.q = true → swG P C x.to.toNat x.fr.toNat = true) := by
  obtain ⟨A, B, rfl⟩ := mem_split h
  unfold swG
  rw [List.foldl_append, List.foldl_cons]
  refine ⟨foldS_keep B _ ?_, fun hq => foldS_keep B _ ?_⟩
  · unfold stS; rw [if_pos hb]
    unfold upS
    generalize x.fr.toNat = u
    generalize x.to.toNat = v
    unfold updF
    by_cases c : u = v ∧ v = u
    · rw [if_pos c]; simp [c.1]
    · rw [if_neg c, if_pos ⟨rfl, rfl⟩]
  · unfold stS; rw [if_pos hb]
    unfold upS
    rw [hq, Bool.or_true]
    unfold updF
    rw [if_pos ⟨rfl, rfl⟩]
theorem both_ok (h : okCh (P.length : Int) x) : both7 P.length x = true := by
  unfold both7; rw [Bool.and_eq_true]; exact ⟨isP_of h.1.1 h.1.2, isP_of h.2.1 h.2.2⟩
theorem free_dep {a b : Nat} (ha : a < P.length) (hb : b < P.length) : freeG P C (a : Int) (b : Int) = !depG P C a b := by
  unfold freeG
  rw [if_neg (by omega)]
  have e1 : ((a : Int) == -1) = false := by rw [beq_eq_false_iff_ne]; omega
  have e2 : ((b : Int) == -1) = false := by rw [beq_eq_false_iff_ne]; omega
  rw [e1, e2]; rfl
end
/-! with a channel more -/
section
variable {P : List Pt} {C : List Ch} {ch : Ch}
theorem sw_more : swG P (C ++ [ch]) = stS P.length (swG P C) ch := by unfold swG; rw [List.foldl_append]; rfl
theorem more_le (k a b : Nat) (h : clo (swG P C) k a b = true) : clo (swG P (C ++ [ch])) k a b = true :=
  clo_mono (fun a b e => by rw [sw_more]; exact stS_keep e) k a b h
def wasV (P : List Pt) (C : List Ch) (p : Nat) : List Nat := reV P.length (clo (swG P C) P.length) (p : Int)
theorem was_filter {p : Nat} (hp : p < P.length) : wasV P C p = (wasV P (C ++ [ch]) p).filter fun a => clo (swG P C) P.length a p := by
  unfold wasV reV
  rw [if_pos (isP_of (by omega) (by omega)), if_pos (isP_of (by omega) (by omega)), Int.toNat_natCast, List.filter_filter]
  refine List.filter_congr fun a _ => ?_
  cases h : clo (swG P C) P.length a p with
  | false => rfl
  | true => rw [more_le P.length a p h]; rfl
theorem self_now {p : Nat} (hp : p < P.length) : p ∈ wasV P C p := by
  unfold wasV reV
  rw [if_pos (isP_of (by omega) (by omega)), Int.toNat_natCast, List.mem_filter]
  exact ⟨List.mem_range.2 hp, clo_up (sw_self p) _⟩
end
section
variable {F : Nat → Bool} {now : List Nat} {j : Nat}
def atV (F : Nat → Bool) (now : List Nat) (j : Nat) : Nat := ((now.take j).filter F).length
theorem at_snoc (h : j < now.length) : atV F now (j + 1) = atV F now j + if F now[j] = true then 1 else 0 := by
  unfold atV
  rw [List.take_succ_eq_append_getElem h, List.filter_append, List.length_append]
  congr 1
  by_cases c : F now[j] = true
  · rw [if_pos c, List.filter_cons, if_pos c]; rfl
  · rw [if_neg c, List.filter_cons, if_neg c]; rfl
theorem was_parts (h : j < now.length) : now.filter F = (now.take j).filter F ++ ((if F now[j] = true then [now[j]] else []) ++ (now.drop (j + 1)).filter F) := by
  conv => lhs; rw [← List.take_append_drop j now, List.drop_eq_getElem_cons h]
  rw [List.filter_append, List.filter_cons]
  split
  · rfl
  · rfl
theorem at_T (h : j < now.length) (k : F now[j] = true) : atV F now j < (now.filter F).length ∧ (now.filter F).getD (atV F now j) 0 = now[j] := by
  rw [was_parts h, if_pos k]
  unfold atV
  refine ⟨by rw [List.length_append, List.length_append, List.length_singleton]; omega, ?_⟩
  rw [List.getD_eq_getElem?_getD, List.getElem?_append_right (Nat.le_refl _), Nat.sub_self]; rfl
theorem at_F (h : j < now.length) (k : ¬ F now[j] = true) (h2 : atV F now j < (now.filter F).length) : (now.filter F).getD (atV F now j) 0 ≠ now[j] := fun e => by
  have hm : (now.filter F).getD (atV F now j) 0 ∈ now.filter F := by
    rw [List.getD_eq_getElem?_getD, List.getElem?_eq_getElem h2]; exact List.getElem_mem h2
  rw [e] at hm
  exact k (List.mem_filter.1 hm).2
theorem at_end (h : now.length ≤ j) : atV F now j = (now.filter F).length := by unfold atV; rw [List.take_of_length_le h]
end
end Go.AM.PL
namespace Go.AM.PL
theorem reV_len (n : Nat) (f : Nat → Nat → Bool) (p : Int) : (reV n f p).length ≤ n := by
  unfold reV
  split
  · exact re_len
  · exact Nat.zero_le _
end Go.AM.PL
namespace Go.AM.PL
theorem more_q {q b : Bool} (h : q = true → b = true) : (!q || b) = true := by
  cases q with
  | false => rfl
  | true => rw [h rfl]; rfl
theorem free_m1 {P : List Pt} {C : List Ch} {a : Nat} (ha : a < P.length) : freeG P C (-1) (a : Int) = true := by
  unfold freeG
  rw [if_neg (by omega)]; rfl
theorem any_self {now : List Nat} {p j : Nat} (h : p ∈ now) (hj : now.length ≤ j) : (now.take j).any (fun z => (z : Int) == (p : Int)) = true := by
  rw [List.take_of_length_le hj]
  exact List.any_eq_true.2 ⟨p, h, beq_self_eq_true _⟩
theorem more_T {F : Nat → Bool} {now : List Nat} {j : Nat} (h : j < now.length) (k : (atV F now j : Int) < ((now.filter F).length : Int) ∧ (((now.filter F).getD (atV F now j) 0 : Nat) : Int) = (now[j] : Int)) : F now[j] = true := by
  cases e : F now[j] with
  | true => rfl
  | false =>
    have e2 : (now.filter F).getD (atV F now j) 0 = now[j] := by omega
    exact absurd e2 (at_F (F := F) h (by rw [e]; decide) (by omega))
theorem more_F {F : Nat → Bool} {now : List Nat} {j : Nat} (h : j < now.length) (k : ((now.filter F).length : Int) ≤ (atV F now j : Int) ∨ ¬ (((now.filter F).getD (atV F now j) 0 : Nat) : Int) = (now[j] : Int)) : ¬ F now[j] = true := fun e => by
  have := at_T h e
  rcases k with k | k
  · omega
  · exact k (by rw [this.2])
end Go.AM.PL
namespace Go.AM.PL
end Go.AM.PL
