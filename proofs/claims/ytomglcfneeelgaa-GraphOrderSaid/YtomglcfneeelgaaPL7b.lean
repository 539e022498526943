/- Contracts of the functions that the statement reaches. No condition. -/
import Derived.Test.YtomglcfneeelgaaPL12c
set_option linter.all false
set_option maxRecDepth 10000
namespace Go.AM.PL
def CfgP (P : List Pt) (C : List Ch) (tabs : List (List Nd)) : Prop := ((1 ≤ P.length ∧ P.length ≤ 4) ∧ ∀ p ∈ P, i64 p.per) ∧ (C.length ≤ 20 ∧ okCs (P.length : Int) C) ∧ (1 ≤ tabs.length ∧ tabs.length ≤ 3) ∧ ∀ t ∈ tabs, t.length ≤ 2 ^ 20
theorem cfgOut {A : AProg} {f : Nat} {vs : List GV} {P0 : GHp} {t : List Int} (hc : WpCallG A f vs P0 (fun v H => ∃ (X : List Pc) (C : List Ch) (tabs : List (List Nd)) (b : Nat), CfgOk X C tabs ∧ b ≤ t.length ∧ v = .agg [.fsl 11 (X.map encX), .fsl 6 (C.map encC), .fsl 1 (tabs.map encTb)] ∧ H = [(0, tbox t b)])) :
    WpCallG A f vs P0 (fun v H => ∃ (P : List Pt) (C : List Ch) (tabs : List (List Nd)) (b : Nat), CfgP P C tabs ∧ b ≤ t.length ∧ v = .agg [.fsl 11 (P.map encP), .fsl 6 (C.map encC), .fsl 1 (tabs.map encTb)] ∧ H = [(0, tbox t b)]) := fun Z om as H hr hv => by
  refine (hc Z om as H hr hv).mono ?_
  rintro a H' ⟨Z', om', v, HG', a1, a2, a3, a4, X, C, tabs, b, hok, hb, rfl, rfl⟩
  refine ⟨Z', om', _, _, a1, ?_, a3, a4, parts X, C, tabs, b, ⟨⟨?_, ?_⟩, ?_, hok.2.2⟩, hb, rfl, rfl⟩
  · obtain ⟨bs, rfl, h1, h2⟩ := a2.agg_inv
    refine .agg h1 fun i x y e f => ?_
    match i, e with
    | 0, e => cases e; rw [← encX_any]; exact VR.fany (h2 0 _ y rfl f)
    | 1, e => cases e; exact h2 1 _ y rfl f
    | 2, e => cases e; exact h2 2 _ y rfl f
  · rw [parts_len]; exact hok.1.1
  · intro p hp
    obtain ⟨c, hc, rfl⟩ := List.mem_map.1 hp
    exact (hok.1.2 c hc).2.2
  · rw [parts_len]; exact hok.2.1
section
variable {P : List Pt} {C : List Ch} {n : Nat} {f g : Nat → Nat → Bool} {x : Ch}
theorem upd_keep {i j a b : Nat} (h : f a b = true) : updF f i j true a b = true := by unfold updF; split <;> first | rfl | exact h
theorem stD_keep {a b : Nat} (h : f a b = true) : stD n f x a b = true := by
  unfold stD; split
  · exact upd_keep (upd_keep h)
  · exact h
theorem stS_keep {a b : Nat} (h : f a b = true) : stS n f x a b = true := by
  unfold stS; split
  · unfold upS
    have h1 : updF f x.fr.toNat x.to.toNat true a b = true := upd_keep h
    unfold updF at h1 ⊢
    split
    · rename_i c; rw [c.1, c.2] at h1; rw [h1]; rfl
    · exact h1
  · exact h
theorem foldD_keep {a b : Nat} : ∀ (C : List Ch) (f : Nat → Nat → Bool), f a b = true → C.foldl (stD n) f a b = true
  | [], _, h => h
  | x :: C, f, h => foldD_keep C _ (stD_keep h)
theorem foldS_keep {a b : Nat} : ∀ (C : List Ch) (f : Nat → Nat → Bool), f a b = true → C.foldl (stS n) f a b = true
  | [], _, h => h
  | x :: C, f, h => foldS_keep C _ (stS_keep h)
theorem dep_self (a : Nat) : depG P C a a = true := foldD_keep C _ (by unfold dF; rw [decide_eq_true rfl]; rfl)
theorem sw_self (a : Nat) : swG P C a a = true := foldS_keep C _ (by unfold sF; rw [decide_eq_true rfl]; rfl)
theorem foldD_symm : ∀ (C : List Ch) (f : Nat → Nat → Bool), (∀ a b, f a b = f b a) → ∀ a b, C.foldl (stD n) f a b = C.foldl (stD n) f b a
  | [], _, h => h
  | x :: C, f, h => foldD_symm C _ fun a b => by
    unfold stD
    split
    · unfold updF
      by_cases h1 : a = x.to.toNat ∧ b = x.fr.toNat <;> by_cases h2 : b = x.to.toNat ∧ a = x.fr.toNat
      · rw [if_pos h1, if_pos h2]
      · rw [if_pos h1, if_neg h2, if_pos ⟨h1.2, h1.1⟩]
      · rw [if_neg h1, if_pos h2, if_pos ⟨h2.2, h2.1⟩]
      · rw [if_neg h1, if_neg h2, if_neg (fun c => h2 ⟨c.2, c.1⟩), if_neg (fun c => h1 ⟨c.2, c.1⟩)]; exact h a b
    · exact h a b
theorem dep_symm (a b : Nat) : depG P C a b = depG P C b a := foldD_symm C _ (fun a b => by
  unfold dF; rw [Bool.and_comm]; congr 1; rw [Bool.eq_iff_iff, decide_eq_true_eq, decide_eq_true_eq]; omega) a b
theorem mem_split {x : Ch} (h : x ∈ C) : ∃ A B, C = A ++ x :: B := List.append_of_mem h
theorem dep_chan (h : x ∈ C) (hb : both7 P.length x = true) : depG P C x.fr.toNat x.to.toNat = true := by
  obtain ⟨A, B, rfl⟩ := mem_split h
  unfold depG
  rw [List.foldl_append, List.foldl_cons]
  refine foldD_keep B _ ?_
  unfold stD; rw [if_pos hb]
  exact upd_keep (by unfold updF; rw [if_pos ⟨rfl, rfl⟩])
theorem sw_chan (h : x ∈ C) (hb : both7 P.length x = true) : swG P C x.fr.toNat x.to.toNat = true ∧ (x.q = true → swG P C x.to.toNat x.fr.toNat = true) := by
  obtain ⟨A, B, rfl⟩ := mem_split h
  unfold swG
  rw [List.foldl_append, List.foldl_cons]
  refine ⟨foldS_keep B _ ?_, fun hq => foldS_keep B _ ?_⟩
  · unfold stS; rw [if_pos hb]
    unfold upS
    generalize x.fr.toNat = u
    generalize x.to.toNat = v
    unfold updF
    by_cases c : u = v ∧ v = u
    · rw [if_pos c]; simp [c.1]
    · rw [if_neg c, if_pos ⟨rfl, rfl⟩]
  · unfold stS; rw [if_pos hb]
    unfold upS
    rw [hq, Bool.or_true]
    unfold updF
    rw [if_pos ⟨rfl, rfl⟩]
theorem both_ok (h : okCh (P.length : Int) x) : both7 P.length x = true := by
  unfold both7; rw [Bool.and_eq_true]; exact ⟨isP_of h.1.1 h.1.2, isP_of h.2.1 h.2.2⟩
theorem free_dep {a b : Nat} (ha : a < P.length) (hb : b < P.length) : freeG P C (a : Int) (b : Int) = !depG P C a b := by
  unfold freeG
  rw [if_neg (by omega)]
  have e1 : ((a : Int) == -1) = false := by rw [beq_eq_false_iff_ne]; omega
  have e2 : ((b : Int) == -1) = false := by rw [beq_eq_false_iff_ne]; omega
  rw [e1, e2]; rfl
theorem free_no {a b : Nat} (ha : a < P.length) (hb : b < P.length) : (freeG P C (a : Int) (b : Int) == depG P C a b) = false := by
  rw [free_dep ha hb]; cases depG P C a b <;> rfl
theorem imp_no {a b : Nat} : (swG P C a b && !clo (swG P C) n a b) = false := by
  cases h : swG P C a b with
  | false => rfl
  | true => rw [clo_up h]; rfl
end
/-! with a channel more -/
section
variable {P : List Pt} {C : List Ch} {ch : Ch}
end
section
variable {F : Nat → Bool} {now : List Nat} {j : Nat}
end
end Go.AM.PL
namespace Go.AM.PL
end Go.AM.PL
namespace Go.AM.PL
end Go.AM.PL
namespace Go.AM.PL
end Go.AM.PL
