/- Contracts of the functions that the statement reaches. No condition. -/
import Derived.Test.YthmcocmhalhbfaaK9g
set_option linter.all false
set_option maxRecDepth 10000
namespace Go.AM.L9
open Go.AM.PL
set_option maxHeartbeats 4000000 in
theorem asksO_ok (t : List Int) (a0 : Nat) (X0 : List Pc) (C0 : List Ch) (tabs : List (List Nd)) (ht : t.length ≤ 2 ^ 50) (hi : ∀ x ∈ t, i64 x) (ha0 : a0 ≤ t.length) (hX0 : X0.length ≤ 6) (hXs0 : okXs X0) (hC0 : C0.length ≤ 20) (hCs0 : okCs (X0.length : Int) C0) (hT : tabs.length ≤ 3) (hT1 : 1 ≤ tabs.length) (hTs : ∀ t ∈ tabs, t.length ≤ 2 ^ 40) (hC00 : ∀ c ∈ C0, c.late = 0) (hX00 : ∀ c ∈ X0, c.p.bud = 0) : WpCallG A 31 [.bptr 0 0, .agg [.osl 1, .osl 2, .fsl 1 (tabs.map encTb)]] [(0, tbox t a0), (1, .arr .yes 11 (X0.map encX)), (2, .arr .yes 6 (C0.map encC))] (fun v H => ∃ (X : List Pc) (C : List Ch) (b : Nat), (X.length = X0.length ∧ okXs X) ∧ (C.length = C0.length ∧ okCs (X0.length : Int) C) ∧ (b ≤ t.length ∧ ∀ tb ∈ tabs, holdV C (X.map Pc.p) (ofV tb) = 0) ∧ v = .agg [.osl 1, .osl 2, .fsl 1 (tabs.map encTb)] ∧ H = [(1, .arr .yes 11 (X.map encX)), (2, .arr .yes 6 (C.map encC)), (0, tbox t b)]) := by
 refine WpCallG.intro g31 rfl rfl ?_
 unfold af31
 change WpG _ _ _ _ _
 refine WpG.seq ?_
 refine WpG.reg ?_
 refine G.box (g := 10) rfl rfl rfl ?_
 refine G.box (g := 11) rfl rfl rfl ?_
 refine WpOpsG.nil ?_
 change WpG _ _ _ _ _
 refine WpG.seq ?_
 refine WpG.reg ?_
 refine G.mv rfl ?_
 refine WpOpsG.nil ?_
 change WpG _ _ _ _ _
 refine WpG.seq ?_
 refine WpG.seq ?_
 refine WpG.reg ?_
 refine G.faddrB rfl ?_
 refine G.load1B rfl rfl rfl ?_
 refine G.lenM rfl ?_
 refine G.mv rfl ?_
 refine WpOpsG.nil ?_
 change WpG _ _ _ _ _
 refine WpG.block ?_
 refine WpG.ownNil (g := 20) (k := 5) (w := 1) rfl rfl ?_
 refine WpG.loop (S := Nat × List (List Rn)) (fun s => [(0, .bptr 0 0), (3, .bptr 10 0), (4, .bptr 11 0), (5, .osl 20), (23, .fsl 1 (tabs.map encTb)), (24, .v (.int .i64 (tabs.length : Int))), (25, .v (.int .i64 (s.1 : Int)))]) (fun s => [(20, .arr .yes 1 (s.2.map encRs)), (0, tbox t a0), (1, .arr .yes 11 (X0.map encX)), (2, .arr .yes 6 (C0.map encC)), (10, .box [.osl 1, .osl 2, .fsl 1 (tabs.map encTb)]), (11, .box [.v (.slice none 0 0), .v (.slice none 0 0), .v (.slice none 0 0)])]) (fun s => s.1 ≤ tabs.length ∧ s.2.length = s.1 ∧ (∀ r ∈ s.2, goodR r) ∧ s.2 = (tabs.take s.1).map ofV) (fun s => tabs.length - s.1) (fun s => ⟨rfl, rfl⟩) ?_ (0, []) ?_ (by repeat (first | exact trivial | refine ⟨rfl, ?_⟩)) (by repeat (first | exact trivial | refine ⟨rfl, ?_⟩)) rfl
 ·rintro ⟨i, rs⟩ ⟨hI, hrl0, hrs, hrE⟩
  dsimp only at hI hrl0 hrs hrE ⊢
  refine WpG.seq ?_
  refine WpG.reg ?_
  refine G.bin rfl rfl rfl ?_
  refine WpOpsG.nil ?_
  change WpG _ _ _ _ _
  refine WpG.seq ?_
  refine WpG.cond rfl (fun hq1 => ?_) (fun hq1 => ?_)
  ·(try simp only [zN] at hq1)
   refine WpG.skip ?_
   change WpG _ _ _ _ _
   refine WpG.seq ?_
   refine WpG.block ?_
   refine WpG.seq ?_
   refine WpG.reg ?_
   refine G.iaddrN rfl rfl (List.getElem?_eq_getElem (by omega)) ?_
   refine G.load1F rfl rfl ?_
   refine G.mv rfl ?_
   refine WpOpsG.nil ?_
   change WpG _ _ _ _ _
   refine WpG.seq ?_
   refine WpG.reg ?_
   refine G.mv rfl ?_
   refine G.call0 rfl rfl (ofX_ok tabs[i] (hTs _ (List.getElem_mem (by omega)))) ?_
   rintro _ _ ⟨rfl, rfl⟩
   refine ⟨rfl, ?_⟩
   change WpOpsG _ _ ((31, _) :: _) _ _
   have hg := of_good (hTs tabs[i] (List.getElem_mem (by omega)))
   obtain ⟨r, hr0⟩ : ∃ r, ofV tabs[i] = r := ⟨_, rfl⟩
   obtain ⟨e, he0⟩ : ∃ e, ofE tabs[i] = e := ⟨_, rfl⟩
   rw [hr0] at hg ⊢
   rw [he0]
   refine G.mv rfl ?_
   refine G.ext rfl rfl ?_
   refine G.ext rfl rfl ?_
   refine G.mv rfl ?_
   refine G.mv rfl ?_
   refine WpOpsG.nil ?_
   change WpG _ _ _ _ _
   refine WpG.reg ?_
   refine G.mv rfl ?_
   refine G.mv rfl ?_
   refine G.bsliceF rfl rfl rfl ?_
   change WpOpsG _ _ ((36, .fsl 1 (([r] : List (List Rn)).map encRs)) :: _) _ _
   refine G.app rfl rfl rfl rfl trivial (by rw [List.length_map]; show (rs.length + 1) * 24 ≤ 2 ^ 47; omega) ?_
   rw [← List.map_append]
   refine G.mv rfl ?_
   refine WpOpsG.nil ?_
   change WpG _ _ _ _ _
   refine WpG.reg ?_
   refine G.addI rfl rfl (by omega) ?_
   refine G.mv rfl ?_
   refine WpOpsG.nil ?_
   exact ⟨(i + 1, rs ++ [r]), by show _ - (i + 1) < _ - i; omega, ⟨by dsimp only; omega, by rw [List.length_append]; show rs.length + 1 = i + 1; omega, rs_good hrs hg, by dsimp only; rw [hrE, List.take_succ_eq_append_getElem (by omega), List.map_append, ← hr0]; rfl⟩, ⟨rfl, rfl, rfl, rfl, rfl, rfl, rfl, trivial⟩, (by repeat (first | exact trivial | refine ⟨rfl, ?_⟩)), rfl⟩
  ·(try simp only [zN] at hq1)
   refine WpG.exit ?_
   change WpG _ _ _ _ _
   refine WpG.seq ?_
   refine WpG.seq ?_
   refine WpG.freeze 20 rfl ?_
   have hrl : 1 ≤ rs.length := by omega
   have hrs2 : ∀ r ∈ rs, goodR r := hrs
   have hrsE : rs = tabs.map ofV := by rw [hrE, List.take_of_length_le (by omega)]
   have hCR0 : okCR rs (X0.length : Int) C0 := okCR_0 hCs0 hC00
   have hXR0 : okXR rs X0 := okXR_0 hXs0 hX00
   refine WpG.reg ?_
   refine G.faddrB rfl ?_
   refine G.load1B rfl rfl rfl ?_
   refine G.lenOM rfl rfl ?_
   refine G.mv rfl ?_
   refine WpOpsG.nil ?_
   change WpG _ _ _ _ _
   refine WpG.block ?_
   refine WpG.loop (S := List Ch × Nat × Nat) (fun s => [(0, .bptr 0 0), (3, .bptr 10 0), (4, .bptr 11 0), (5, .fsl 1 (rs.map encRs)), (40, .osl 2), (41, .v (.int .i64 (C0.length : Int))), (42, .v (.int .i64 (s.2.1 : Int)))]) (fun s => [(0, tbox t s.2.2), (1, .arr .yes 11 (X0.map encX)), (2, .arr .yes 6 (s.1.map encC)), (10, .box [.osl 1, .osl 2, .fsl 1 (tabs.map encTb)]), (11, .box [.v (.slice none 0 0), .v (.slice none 0 0), .v (.slice none 0 0)])]) (fun s => s.2.1 ≤ C0.length ∧ s.1.length = C0.length ∧ okCR rs (X0.length : Int) s.1 ∧ s.2.2 ≤ t.length) (fun s => C0.length - s.2.1) (fun s => ⟨rfl, rfl⟩) ?_ (C0, 0, a0) ?_ (by repeat (first | exact trivial | refine ⟨rfl, ?_⟩)) (by repeat (first | exact trivial | refine ⟨rfl, ?_⟩)) rfl
   ·rintro ⟨C, i, a⟩ ⟨hI, hCl, hCR, ha⟩
    dsimp only at hI hCl hCR ha ⊢
    have hCs := hCR.1
    refine WpG.seq ?_
    refine WpG.reg ?_
    refine G.bin rfl rfl rfl ?_
    refine WpOpsG.nil ?_
    change WpG _ _ _ _ _
    refine WpG.seq ?_
    refine WpG.cond rfl (fun hq2 => ?_) (fun hq2 => ?_)
    ·(try simp only [zN] at hq2)
     refine WpG.skip ?_
     change WpG _ _ _ _ _
     refine WpG.seq ?_
     refine WpG.block ?_
     refine WpG.seq ?_
     refine WpG.reg ?_
     refine G.mv rfl ?_
     refine G.mv rfl ?_
     refine WpOpsG.nil ?_
     change WpG _ _ _ _ _
     refine WpG.seq ?_
     refine WpG.reg ?_
     refine G.mv rfl ?_
     refine WpOpsG.nil ?_
     change WpG _ _ _ _ _
     refine WpG.seq ?_
     refine WpG.seq ?_
     refine WpG.reg ?_
     refine G.mv rfl ?_
     refine G.lenM rfl ?_
     refine G.mv rfl ?_
     refine WpOpsG.nil ?_
     change WpG _ _ _ _ _
     refine WpG.block ?_
     refine WpG.loop (S := Nat × Int) (fun s => [(0, .bptr 0 0), (3, .bptr 10 0), (4, .bptr 11 0), (5, .fsl 1 (rs.map encRs)), (10, .v (.int .i64 (i : Int))), (11, .v (.int .i64 s.2)), (40, .osl 2), (41, .v (.int .i64 (C0.length : Int))), (42, .v (.int .i64 (i : Int))), (45, .fsl 1 (rs.map encRs)), (46, .v (.int .i64 (rs.length : Int))), (47, .v (.int .i64 (s.1 : Int)))]) (fun s => [(0, tbox t a), (1, .arr .yes 11 (X0.map encX)), (2, .arr .yes 6 (C.map encC)), (10, .box [.osl 1, .osl 2, .fsl 1 (tabs.map encTb)]), (11, .box [.v (.slice none 0 0), .v (.slice none 0 0), .v (.slice none 0 0)])]) (fun s => s.1 ≤ rs.length ∧ -1 ≤ s.2 ∧ s.2 ≤ 4096 ∧ lwI rs C[i].fr C[i].to s.1 s.2) (fun s => rs.length - s.1) (fun s => ⟨rfl, rfl⟩) ?_ (0, 0) ?_ (by repeat (first | exact trivial | refine ⟨rfl, ?_⟩)) (by repeat (first | exact trivial | refine ⟨rfl, ?_⟩)) rfl
     ·rintro ⟨k, w⟩ ⟨hk, hw0, hw1, hlw⟩
      dsimp only at hk hw0 hw1 hlw ⊢
      refine WpG.seq ?_
      refine WpG.reg ?_
      refine G.bin rfl rfl rfl ?_
      refine WpOpsG.nil ?_
      change WpG _ _ _ _ _
      refine WpG.seq ?_
      refine WpG.cond rfl (fun hq3 => ?_) (fun hq3 => ?_)
      ·(try simp only [zN] at hq3)
       refine WpG.skip ?_
       change WpG _ _ _ _ _
       refine WpG.seq ?_
       refine WpG.block ?_
       refine WpG.seq ?_
       refine WpG.reg ?_
       refine G.iaddrN rfl rfl (List.getElem?_eq_getElem (by omega)) ?_
       refine G.load1F rfl rfl ?_
       refine G.mv rfl ?_
       refine WpOpsG.nil ?_
       change WpG _ _ _ _ _
       refine WpG.seq ?_
       refine WpG.reg ?_
       refine G.mv rfl ?_
       refine G.faddrB rfl ?_
       refine G.load1B rfl rfl rfl ?_
       refine G.mv rfl ?_
       refine G.iaddrO rfl rfl rfl (by omega) (by rw [List.length_map]; omega) ?_
       rw [Int.toNat_natCast]
       refine G.faddrE rfl ?_
       refine G.load1EM rfl rfl (List.getElem?_eq_getElem (by omega)) rfl ?_
       refine G.faddrB rfl ?_
       refine G.load1B rfl rfl rfl ?_
       refine G.mv rfl ?_
       refine G.iaddrO rfl rfl rfl (by omega) (by rw [List.length_map]; omega) ?_
       rw [Int.toNat_natCast]
       refine G.faddrE rfl ?_
       refine G.load1EM rfl rfl (List.getElem?_eq_getElem (by omega)) rfl ?_
       refine G.call0 rfl rfl (rlate_ok rs[k] C[i].fr C[i].to (by have := (hrs2 _ (List.getElem_mem (l := rs) (n := k) (by omega))).2; omega) (fun x hx => ((hrs2 _ (List.getElem_mem (l := rs) (n := k) (by omega))).1 x hx).2) (by have := (hrs2 _ (List.getElem_mem (l := rs) (n := k) (by omega))).2; omega)) ?_
       rintro _ _ ⟨rfl, rfl⟩
       refine ⟨rfl, ?_⟩
       change WpOpsG _ _ ((64, _) :: _) _ _
       have hlu := late_up (hrs2 _ (List.getElem_mem (l := rs) (n := k) (by omega))) C[i].fr C[i].to
       obtain ⟨z, hz⟩ : ∃ z, lateV rs[k] C[i].fr C[i].to = z := ⟨_, rfl⟩
       rw [hz] at hlu ⊢
       refine G.mv rfl ?_
       refine WpOpsG.nil ?_
       change WpG _ _ _ _ _
       refine WpG.seq ?_
       refine WpG.reg ?_
       refine G.mv rfl ?_
       refine G.bin rfl rfl rfl ?_
       refine G.mv rfl ?_
       apply G.orS rfl rfl rfl rfl rfl rfl
       case hB =>
        intro hs4
        (try simp only [zN] at hs4)
        refine G.mv rfl ?_
        refine G.bin rfl rfl rfl ?_
        refine WpOpsG.nil ?_
        exact ⟨rfl, (by repeat (first | exact LLe.refl _ | refine LLe.cons rfl ?_)), (by repeat (first | exact HLe.refl _ | refine HLe.cons rfl ?_)), rfl⟩
       refine WpOpsG.nil ?_
       change WpG _ _ _ _ _
       refine WpG.cond rfl (fun hq5 => ?_) (fun hq5 => ?_)
       ·(try simp only [zN] at hq5)
        refine WpG.reg ?_
        refine G.mv rfl ?_
        refine WpOpsG.nil ?_
        change WpG _ _ _ _ _
        refine WpG.reg ?_
        refine G.addI rfl rfl (by omega) ?_
        refine G.mv rfl ?_
        refine WpOpsG.nil ?_
        first
         | exact ⟨(k + 1, -1), by show _ - (k + 1) < _ - k; omega, ⟨by dsimp only; omega, by dsimp only; omega, by dsimp only; omega, .inl rfl⟩, ⟨rfl, rfl, rfl, rfl, rfl, rfl, rfl, rfl, rfl, rfl, rfl, rfl, trivial⟩, ⟨rfl, rfl, rfl, rfl, rfl, trivial⟩, rfl⟩
         | exact ⟨(k + 1, max w z), by show _ - (k + 1) < _ - k; omega, ⟨by dsimp only; omega, by dsimp only; omega, by dsimp only; omega, lw_max (by omega) hlw (by omega) hz (by omega)⟩, ⟨rfl, rfl, rfl, rfl, rfl, rfl, rfl, rfl, rfl, rfl, rfl, rfl, trivial⟩, ⟨rfl, rfl, rfl, rfl, rfl, trivial⟩, rfl⟩
       ·(try simp only [zN] at hq5)
        refine WpG.reg ?_
        refine G.mv rfl ?_
        refine G.mv rfl ?_
        refine G.mx rfl rfl ?_
        refine G.mv rfl ?_
        refine WpOpsG.nil ?_
        change WpG _ _ _ _ _
        refine WpG.reg ?_
        refine G.addI rfl rfl (by omega) ?_
        refine G.mv rfl ?_
        refine WpOpsG.nil ?_
        first
         | exact ⟨(k + 1, -1), by show _ - (k + 1) < _ - k; omega, ⟨by dsimp only; omega, by dsimp only; omega, by dsimp only; omega, .inl rfl⟩, ⟨rfl, rfl, rfl, rfl, rfl, rfl, rfl, rfl, rfl, rfl, rfl, rfl, trivial⟩, ⟨rfl, rfl, rfl, rfl, rfl, trivial⟩, rfl⟩
         | exact ⟨(k + 1, max w z), by show _ - (k + 1) < _ - k; omega, ⟨by dsimp only; omega, by dsimp only; omega, by dsimp only; omega, lw_max (by omega) hlw (by omega) hz (by omega)⟩, ⟨rfl, rfl, rfl, rfl, rfl, rfl, rfl, rfl, rfl, rfl, rfl, rfl, trivial⟩, ⟨rfl, rfl, rfl, rfl, rfl, trivial⟩, rfl⟩
      ·(try simp only [zN] at hq3)
       refine WpG.exit ?_
       change WpG _ _ _ _ _
       refine WpG.seq ?_
       refine WpG.reg ?_
       refine G.mv rfl ?_
       refine G.bin rfl rfl rfl ?_
       refine G.mv rfl ?_
       cases hb77 : decide (w > 0)
       ·(try simp only [zN] at hb77)
        refine WpOpsG.known 77 false rfl rfl ?_
        refine G.no rfl (by decide) ?_
        refine G.no rfl (by decide) ?_
        refine G.no rfl (by decide) ?_
        refine G.pickF rfl rfl ?_
        refine WpOpsG.nil ?_
        change WpG _ _ _ _ _
        refine WpG.cond rfl (fun hq6 => absurd hq6 (by decide)) (fun hq6 => ?_)
        refine WpG.skip ?_
        change WpG _ _ _ _ _
        refine WpG.reg ?_
        refine G.addI rfl rfl (by omega) ?_
        refine G.mv rfl ?_
        refine WpOpsG.nil ?_
        first
         | exact ⟨(C, i + 1, a), by show _ - (i + 1) < _ - i; omega, ⟨by dsimp only; omega, hCl, hCR, ha⟩, ⟨rfl, rfl, rfl, rfl, rfl, rfl, rfl, trivial⟩, ⟨rfl, rfl, rfl, rfl, rfl, trivial⟩, rfl⟩
         | exact ⟨(C, i + 1, b), by show _ - (i + 1) < _ - i; omega, ⟨by dsimp only; omega, hCl, hCR, hb⟩, ⟨rfl, rfl, rfl, rfl, rfl, rfl, rfl, trivial⟩, ⟨rfl, rfl, rfl, rfl, rfl, trivial⟩, rfl⟩
         | exact ⟨(C.set i {C[i] with late := min (w + u) 4096}, i + 1, c), by show _ - (i + 1) < _ - i; omega, ⟨by dsimp only; omega, by rw [List.length_set]; exact hCl, okCR_set hCR (by omega) (lw_end hlw (by omega) (by omega) (by omega)), hc⟩, ⟨rfl, rfl, rfl, rfl, rfl, rfl, rfl, trivial⟩, ⟨rfl, rfl, rfl, rfl, rfl, trivial⟩, rfl⟩
       ·(try simp only [zN] at hb77)
        refine WpOpsG.known 77 true rfl rfl ?_
        refine G.mv rfl ?_
        refine G.call (P := [(0, tbox t a)]) rfl (by repeat (first | exact trivial | refine ⟨rfl, ?_⟩)) rfl rfl (next_ok t a 3 ht hi ha (by omega)) ?_
        rintro _ _ ⟨rfl, rfl⟩
        refine ⟨rfl, ?_⟩
        change WpOpsG _ _ ((79, .v (.int .i64 (nx t a 3))) :: _) ((0, tbox t (na t a 3)) :: _) _
        have ru1 := nx_rng t a 3
        obtain ⟨b, eb, hb⟩ : ∃ o, na t a 3 = o ∧ o ≤ t.length := ⟨_, rfl, na_le ha⟩
        rw [eb]
        obtain ⟨u1, fu1⟩ : ∃ o, nx t a 3 = o := ⟨_, rfl⟩
        rw [fu1] at ru1 ⊢
        refine G.bin rfl rfl rfl ?_
        refine G.pickT rfl rfl ?_
        refine WpOpsG.nil ?_
        change WpG _ _ _ _ _
        refine WpG.cond rfl (fun hq7 => ?_) (fun hq7 => ?_)
        ·(try simp only [zN] at hq7)
         refine WpG.reg ?_
         refine G.faddrB rfl ?_
         refine G.load1B rfl rfl rfl ?_
         refine G.mv rfl ?_
         refine G.mv rfl ?_
         refine G.mv rfl ?_
         refine G.ckcall (P := [(0, tbox t b)]) rfl rfl (by repeat (first | exact trivial | refine ⟨rfl, ?_⟩)) rfl rfl (next_ok t b 6 ht hi hb (by omega)) ?_
         rintro _ _ ⟨rfl, rfl⟩
         refine ⟨rfl, ?_⟩
         change WpOpsG _ _ ((87, .v (.int .i64 (nx t b 6))) :: _) ((0, tbox t (na t b 6)) :: _) _
         have ru := nx_rng t b 6
         obtain ⟨c, ec, hc⟩ : ∃ o, na t b 6 = o ∧ o ≤ t.length := ⟨_, rfl, na_le hb⟩
         rw [ec]
         obtain ⟨u, fu⟩ : ∃ o, nx t b 6 = o := ⟨_, rfl⟩
         rw [fu] at ru ⊢
         refine G.addI rfl rfl (by omega) ?_
         refine G.mn rfl rfl ?_
         refine G.iaddrO rfl rfl rfl (by omega) (by rw [List.length_map]; omega) ?_
         rw [Int.toNat_natCast]
         refine G.faddrE rfl ?_
         refine G.storeEM ({C[i] with late := min (w + u) 4096} : Ch) rfl rfl rfl (List.getElem?_eq_getElem (by omega)) rfl rfl rfl rfl ?_
         refine WpOpsG.nil ?_
         change WpG _ _ _ _ _
         refine WpG.reg ?_
         refine G.addI rfl rfl (by omega) ?_
         refine G.mv rfl ?_
         refine WpOpsG.nil ?_
         first
          | exact ⟨(C, i + 1, a), by show _ - (i + 1) < _ - i; omega, ⟨by dsimp only; omega, hCl, hCR, ha⟩, ⟨rfl, rfl, rfl, rfl, rfl, rfl, rfl, trivial⟩, ⟨rfl, rfl, rfl, rfl, rfl, trivial⟩, rfl⟩
          | exact ⟨(C, i + 1, b), by show _ - (i + 1) < _ - i; omega, ⟨by dsimp only; omega, hCl, hCR, hb⟩, ⟨rfl, rfl, rfl, rfl, rfl, rfl, rfl, trivial⟩, ⟨rfl, rfl, rfl, rfl, rfl, trivial⟩, rfl⟩
          | exact ⟨(C.set i {C[i] with late := min (w + u) 4096}, i + 1, c), by show _ - (i + 1) < _ - i; omega, ⟨by dsimp only; omega, by rw [List.length_set]; exact hCl, okCR_set hCR (by omega) (lw_end hlw (by omega) (by omega) (by omega)), hc⟩, ⟨rfl, rfl, rfl, rfl, rfl, rfl, rfl, trivial⟩, ⟨rfl, rfl, rfl, rfl, rfl, trivial⟩, rfl⟩
        ·(try simp only [zN] at hq7)
         refine WpG.skip ?_
         change WpG _ _ _ _ _
         refine WpG.reg ?_
         refine G.addI rfl rfl (by omega) ?_
         refine G.mv rfl ?_
         refine WpOpsG.nil ?_
         first
          | exact ⟨(C, i + 1, a), by show _ - (i + 1) < _ - i; omega, ⟨by dsimp only; omega, hCl, hCR, ha⟩, ⟨rfl, rfl, rfl, rfl, rfl, rfl, rfl, trivial⟩, ⟨rfl, rfl, rfl, rfl, rfl, trivial⟩, rfl⟩
          | exact ⟨(C, i + 1, b), by show _ - (i + 1) < _ - i; omega, ⟨by dsimp only; omega, hCl, hCR, hb⟩, ⟨rfl, rfl, rfl, rfl, rfl, rfl, rfl, trivial⟩, ⟨rfl, rfl, rfl, rfl, rfl, trivial⟩, rfl⟩
          | exact ⟨(C.set i {C[i] with late := min (w + u) 4096}, i + 1, c), by show _ - (i + 1) < _ - i; omega, ⟨by dsimp only; omega, by rw [List.length_set]; exact hCl, okCR_set hCR (by omega) (lw_end hlw (by omega) (by omega) (by omega)), hc⟩, ⟨rfl, rfl, rfl, rfl, rfl, rfl, rfl, trivial⟩, ⟨rfl, rfl, rfl, rfl, rfl, trivial⟩, rfl⟩
     ·exact ⟨Nat.zero_le _, by decide, by decide, lw_0⟩
    ·(try simp only [zN] at hq2)
     refine WpG.exit ?_
     change WpG _ _ _ _ _
     refine WpG.seq ?_
     refine WpG.reg ?_
     refine G.mv rfl ?_
     refine G.iaddrM (m := 0) rfl rfl (by decide) (List.getElem?_eq_getElem (show (0 : Int).toNat < rs.length from by show 0 < _; omega)) ?_
     refine G.load1F rfl rfl ?_
     refine G.call0 rfl rfl (total_ok rs[0] (by have := (hrs2 _ (List.getElem_mem (l := rs) (n := 0) (by omega))).2; omega) (fun x hx => ((hrs2 _ (List.getElem_mem (l := rs) (n := 0) (by omega))).1 x hx).1)) ?_
     rintro _ _ ⟨rfl, rfl⟩
     refine ⟨rfl, ?_⟩
     change WpOpsG _ _ ((96, _) :: _) _ _
     have htg := total_good (hrs2 _ (List.getElem_mem (l := rs) (n := 0) (by omega)))
     obtain ⟨pe0, hpe0⟩ : ∃ z, total rs[0] = z := ⟨_, rfl⟩
     rw [hpe0] at htg ⊢
     refine G.mv rfl ?_
     refine WpOpsG.nil ?_
     change WpG _ _ _ _ _
     have hnx0 := nx_rng t a 3
     obtain ⟨k0, hk00⟩ : ∃ k0 : Nat, 2 + nx t a 3 = (k0 : Int) := ⟨(2 + nx t a 3).toNat, by omega⟩
     obtain ⟨b, eb0⟩ : ∃ b, na t a 3 = b := ⟨_, rfl⟩
     have hb : b ≤ t.length := by rw [← eb0]; exact na_le ha
     have hk04 : k0 ≤ 4 := by omega
     refine WpG.seqJ ([(0, .bptr 0 0), (3, .bptr 10 0), (4, .bptr 11 0), (5, .fsl 1 (rs.map encRs)), (15, .v (.int .i64 (divV pe0 k0)))]) ([(0, tbox t b), (1, .arr .yes 11 (X0.map encX)), (2, .arr .yes 6 (C.map encC)), (10, .box [.osl 1, .osl 2, .fsl 1 (tabs.map encTb)]), (11, .box [.v (.slice none 0 0), .v (.slice none 0 0), .v (.slice none 0 0)])]) ⟨rfl, rfl⟩ ?_ ?_
     ·change WpG _ _ _ _ _
      refine WpG.seq ?_
      refine WpG.reg ?_
      refine G.mv rfl ?_
      refine G.call (P := [(0, tbox t a)]) rfl (by repeat (first | exact trivial | refine ⟨rfl, ?_⟩)) rfl rfl (next_ok t a 3 ht hi ha (by omega)) ?_
      rintro _ _ ⟨rfl, rfl⟩
      refine ⟨rfl, ?_⟩
      change WpOpsG _ _ ((98, .v (.int .i64 (nx t a 3))) :: _) ((0, tbox t (na t a 3)) :: _) _
      have ru0 := nx_rng t a 3
      obtain ⟨b1, eb1, hb1⟩ : ∃ o, na t a 3 = o ∧ o ≤ t.length := ⟨_, rfl, na_le ha⟩
      rw [eb1]
      obtain ⟨u0, fu0⟩ : ∃ o, nx t a 3 = o := ⟨_, rfl⟩
      rw [fu0] at ru0 ⊢
      obtain rfl : b1 = b := by rw [← eb1]; exact eb0
      refine G.addI rfl rfl (by omega) ?_
      rw [show 2 + u0 = (k0 : Int) by rw [← fu0]; exact hk00]
      refine G.mv rfl ?_
      refine WpOpsG.nil ?_
      change WpG _ _ _ _ _
      refine WpG.block ?_
      refine WpG.loop (S := Nat) (fun k => [(0, .bptr 0 0), (3, .bptr 10 0), (4, .bptr 11 0), (5, .fsl 1 (rs.map encRs)), (15, .v (.int .i64 pe0)), (16, .v (.int .i64 (k : Int)))]) (fun k => [(0, tbox t b1), (1, .arr .yes 11 (X0.map encX)), (2, .arr .yes 6 (C.map encC)), (10, .box [.osl 1, .osl 2, .fsl 1 (tabs.map encTb)]), (11, .box [.v (.slice none 0 0), .v (.slice none 0 0), .v (.slice none 0 0)])]) (fun k => divV pe0 k = divV pe0 k0 ∧ k ≤ 4) (fun k => k) (fun s => ⟨rfl, rfl⟩) ?_ k0 ?_ (by repeat (first | exact trivial | refine ⟨rfl, ?_⟩)) (by repeat (first | exact trivial | refine ⟨rfl, ?_⟩)) rfl
      ·rintro k ⟨hdk, hk4⟩
       refine WpG.seq ?_
       refine WpG.seq ?_
       refine WpG.reg ?_
       refine G.mv rfl ?_
       refine G.bin rfl rfl rfl ?_
       refine WpOpsG.nil ?_
       change WpG _ _ _ _ _
       refine WpG.cond rfl (fun hq8 => ?_) (fun hq8 => ?_)
       ·(try simp only [zN] at hq8)
        refine WpG.skip ?_
        change WpG _ _ _ _ _
        refine WpG.seq ?_
        refine WpG.block ?_
        refine WpG.seq ?_
        refine WpG.reg ?_
        refine G.mv rfl ?_
        refine G.mv rfl ?_
        refine G.remN rfl rfl (by omega) (by omega) ?_
        refine G.bin rfl rfl rfl ?_
        refine WpOpsG.nil ?_
        change WpG _ _ _ _ _
        refine WpG.cond rfl (fun hq9 => ?_) (fun hq9 => ?_)
        ·(try simp only [zN] at hq9)
         refine WpG.seq ?_
         refine WpG.reg ?_
         refine G.mv rfl ?_
         refine G.mv rfl ?_
         refine G.quoN rfl rfl (by omega) (by omega) ?_
         refine G.mv rfl ?_
         refine WpOpsG.nil ?_
         change WpG _ _ _ _ _
         refine WpG.exit ?_
         first
          | (rw [← hdk, divV_1 (by omega)]; exact ⟨⟨rfl, rfl, rfl, rfl, rfl, trivial⟩, ⟨rfl, rfl, rfl, rfl, rfl, trivial⟩, rfl⟩)
          | (rw [← hdk, divV_T (by omega) (by omega)]; exact ⟨⟨rfl, rfl, rfl, rfl, rfl, trivial⟩, ⟨rfl, rfl, rfl, rfl, rfl, trivial⟩, rfl⟩)
        ·(try simp only [zN] at hq9)
         refine WpG.skip ?_
         change WpG _ _ _ _ _
         refine WpG.reg ?_
         refine G.mv rfl ?_
         refine G.subI rfl rfl (by omega) ?_
         rw [show (k : Int) - 1 = ((k - 1 : Nat) : Int) by omega]
         refine G.mv rfl ?_
         refine WpOpsG.nil ?_
         exact ⟨k - 1, by omega, ⟨by rw [← hdk]; exact (divV_F (by omega) (by omega)).symm, by omega⟩, (by repeat (first | exact trivial | refine ⟨rfl, ?_⟩)), (by repeat (first | exact trivial | refine ⟨rfl, ?_⟩)), rfl⟩
       ·(try simp only [zN] at hq8)
        refine WpG.exit ?_
        first
         | (rw [← hdk, divV_1 (by omega)]; exact ⟨⟨rfl, rfl, rfl, rfl, rfl, trivial⟩, ⟨rfl, rfl, rfl, rfl, rfl, trivial⟩, rfl⟩)
         | (rw [← hdk, divV_T (by omega) (by omega)]; exact ⟨⟨rfl, rfl, rfl, rfl, rfl, trivial⟩, ⟨rfl, rfl, rfl, rfl, rfl, trivial⟩, rfl⟩)
      ·exact ⟨rfl, by omega⟩
     change WpG _ _ _ _ _
     refine WpG.seq ?_
     refine WpG.seq ?_
     have hdv := divV_rng htg.1 htg.2 k0
     obtain ⟨pe, hpe⟩ : ∃ z, divV pe0 k0 = z := ⟨_, rfl⟩
     rw [hpe] at hdv ⊢
     refine WpG.reg ?_
     refine G.faddrB rfl ?_
     refine G.load1B rfl rfl rfl ?_
     refine G.lenOM rfl rfl ?_
     refine G.mv rfl ?_
     refine WpOpsG.nil ?_
     change WpG _ _ _ _ _
     refine WpG.block ?_
     refine WpG.loop (S := List Pc × Nat × Nat) (fun s => [(0, .bptr 0 0), (3, .bptr 10 0), (4, .bptr 11 0), (5, .fsl 1 (rs.map encRs)), (15, .v (.int .i64 pe)), (112, .osl 1), (113, .v (.int .i64 (X0.length : Int))), (114, .v (.int .i64 (s.2.1 : Int)))]) (fun s => [(0, tbox t s.2.2), (1, .arr .yes 11 (s.1.map encX)), (2, .arr .yes 6 (C.map encC)), (10, .box [.osl 1, .osl 2, .fsl 1 (tabs.map encTb)]), (11, .box [.v (.slice none 0 0), .v (.slice none 0 0), .v (.slice none 0 0)])]) (fun s => s.2.1 ≤ X0.length ∧ s.1.length = X0.length ∧ okXR rs s.1 ∧ s.2.2 ≤ t.length) (fun s => X0.length - s.2.1) (fun s => ⟨rfl, rfl⟩) ?_ (X0, 0, b) ?_ (by repeat (first | exact trivial | refine ⟨rfl, ?_⟩)) (by repeat (first | exact trivial | refine ⟨rfl, ?_⟩)) rfl
     ·rintro ⟨X, i, a⟩ ⟨hI, hXl, hXR, ha⟩
      dsimp only at hI hXl hXR ha ⊢
      have hXs := hXR.1
      refine WpG.seq ?_
      refine WpG.reg ?_
      refine G.bin rfl rfl rfl ?_
      refine WpOpsG.nil ?_
      change WpG _ _ _ _ _
      refine WpG.seq ?_
      refine WpG.cond rfl (fun hq10 => ?_) (fun hq10 => ?_)
      ·(try simp only [zN] at hq10)
       refine WpG.skip ?_
       change WpG _ _ _ _ _
       refine WpG.seq ?_
       refine WpG.block ?_
       refine WpG.seq ?_
       refine WpG.reg ?_
       refine G.mv rfl ?_
       refine G.mv rfl ?_
       refine WpOpsG.nil ?_
       change WpG _ _ _ _ _
       refine WpG.seq ?_
       refine WpG.reg ?_
       refine G.mv rfl ?_
       refine WpOpsG.nil ?_
       change WpG _ _ _ _ _
       refine WpG.seq ?_
       refine WpG.seq ?_
       refine WpG.reg ?_
       refine G.mv rfl ?_
       refine G.lenM rfl ?_
       refine G.mv rfl ?_
       refine WpOpsG.nil ?_
       change WpG _ _ _ _ _
       refine WpG.block ?_
       refine WpG.loop (S := Nat × Int) (fun s => [(0, .bptr 0 0), (3, .bptr 10 0), (4, .bptr 11 0), (5, .fsl 1 (rs.map encRs)), (15, .v (.int .i64 pe)), (17, .v (.int .i64 (i : Int))), (18, .v (.int .i64 s.2)), (112, .osl 1), (113, .v (.int .i64 (X0.length : Int))), (114, .v (.int .i64 (i : Int))), (117, .fsl 1 (rs.map encRs)), (118, .v (.int .i64 (rs.length : Int))), (119, .v (.int .i64 (s.1 : Int)))]) (fun s => [(0, tbox t a), (1, .arr .yes 11 (X.map encX)), (2, .arr .yes 6 (C.map encC)), (10, .box [.osl 1, .osl 2, .fsl 1 (tabs.map encTb)]), (11, .box [.v (.slice none 0 0), .v (.slice none 0 0), .v (.slice none 0 0)])]) (fun s => s.1 ≤ rs.length ∧ s.2 ≤ 4096 ∧ bdI rs (i : Int) pe s.1 s.2) (fun s => rs.length - s.1) (fun s => ⟨rfl, rfl⟩) ?_ (0, 4096) ?_ (by repeat (first | exact trivial | refine ⟨rfl, ?_⟩)) (by repeat (first | exact trivial | refine ⟨rfl, ?_⟩)) rfl
       ·rintro ⟨k, w⟩ ⟨hk, hw1, hbd⟩
        dsimp only at hk hw1 hbd ⊢
        refine WpG.seq ?_
        refine WpG.reg ?_
        refine G.bin rfl rfl rfl ?_
        refine WpOpsG.nil ?_
        change WpG _ _ _ _ _
        refine WpG.seq ?_
        refine WpG.cond rfl (fun hq11 => ?_) (fun hq11 => ?_)
        ·(try simp only [zN] at hq11)
         refine WpG.skip ?_
         change WpG _ _ _ _ _
         refine WpG.seq ?_
         refine WpG.block ?_
         refine WpG.seq ?_
         refine WpG.reg ?_
         refine G.iaddrN rfl rfl (List.getElem?_eq_getElem (by omega)) ?_
         refine G.load1F rfl rfl ?_
         refine G.mv rfl ?_
         refine WpOpsG.nil ?_
         change WpG _ _ _ _ _
         refine WpG.reg ?_
         refine G.mv rfl ?_
         refine G.mv rfl ?_
         refine G.mv rfl ?_
         refine G.mv rfl ?_
         refine G.call0 rfl rfl (rbudget_ok rs[k] (i : Int) pe (by unfold i64; omega) (by have := (hrs2 _ (List.getElem_mem (l := rs) (n := k) (by omega))).2; omega) (fun x hx => ((hrs2 _ (List.getElem_mem (l := rs) (n := k) (by omega))).1 x hx).2) (by have := (hrs2 _ (List.getElem_mem (l := rs) (n := k) (by omega))).2; omega)) ?_
         rintro _ _ ⟨rfl, rfl⟩
         refine ⟨rfl, ?_⟩
         change WpOpsG _ _ ((127, _) :: _) _ _
         obtain ⟨z, hz⟩ : ∃ z, budV rs[k] (i : Int) pe = z := ⟨_, rfl⟩
         rw [hz]
         refine G.mn rfl rfl ?_
         refine G.mv rfl ?_
         refine WpOpsG.nil ?_
         change WpG _ _ _ _ _
         refine WpG.reg ?_
         refine G.addI rfl rfl (by omega) ?_
         refine G.mv rfl ?_
         refine WpOpsG.nil ?_
         exact ⟨(k + 1, min w z), by show _ - (k + 1) < _ - k; omega, ⟨by dsimp only; omega, by dsimp only; omega, bd_min (by omega) hbd hz⟩, (by repeat (first | exact trivial | refine ⟨rfl, ?_⟩)), (by repeat (first | exact trivial | refine ⟨rfl, ?_⟩)), rfl⟩
        ·(try simp only [zN] at hq11)
         refine WpG.exit ?_
         change WpG _ _ _ _ _
         refine WpG.seq ?_
         refine WpG.reg ?_
         refine G.mv rfl ?_
         refine G.bin rfl rfl rfl ?_
         refine G.mv rfl ?_
         cases hb132 : decide (w > 0)
         ·(try simp only [zN] at hb132)
          refine WpOpsG.known 132 false rfl rfl ?_
          refine G.no rfl (by decide) ?_
          refine G.no rfl (by decide) ?_
          refine G.no rfl (by decide) ?_
          refine G.pickF rfl rfl ?_
          refine WpOpsG.nil ?_
          change WpG _ _ _ _ _
          refine WpG.cond rfl (fun hq12 => absurd hq12 (by decide)) (fun hq12 => ?_)
          refine WpG.skip ?_
          change WpG _ _ _ _ _
          refine WpG.reg ?_
          refine G.addI rfl rfl (by omega) ?_
          refine G.mv rfl ?_
          refine WpOpsG.nil ?_
          first
           | exact ⟨(X, i + 1, a), by show _ - (i + 1) < _ - i; omega, ⟨by dsimp only; omega, hXl, hXR, ha⟩, ⟨rfl, rfl, rfl, rfl, rfl, rfl, rfl, rfl, trivial⟩, ⟨rfl, rfl, rfl, rfl, rfl, trivial⟩, rfl⟩
           | exact ⟨(X, i + 1, b), by show _ - (i + 1) < _ - i; omega, ⟨by dsimp only; omega, hXl, hXR, hb⟩, ⟨rfl, rfl, rfl, rfl, rfl, rfl, rfl, rfl, trivial⟩, ⟨rfl, rfl, rfl, rfl, rfl, trivial⟩, rfl⟩
           | exact ⟨(X.set i ({X[i] with p := {X[i].p with bud := max (w - u) 1, per := pe}} : Pc), i + 1, c), by show _ - (i + 1) < _ - i; omega, ⟨by dsimp only; omega, by rw [List.length_set]; exact hXl, okXR_set hXR (by omega) (by unfold i64; omega) (bd_end hbd (by omega) (by omega)), hc⟩, ⟨rfl, rfl, rfl, rfl, rfl, rfl, rfl, rfl, trivial⟩, ⟨rfl, rfl, rfl, rfl, rfl, trivial⟩, rfl⟩
         ·(try simp only [zN] at hb132)
          refine WpOpsG.known 132 true rfl rfl ?_
          refine G.mv rfl ?_
          refine G.call (P := [(0, tbox t a)]) rfl (by repeat (first | exact trivial | refine ⟨rfl, ?_⟩)) rfl rfl (next_ok t a 2 ht hi ha (by omega)) ?_
          rintro _ _ ⟨rfl, rfl⟩
          refine ⟨rfl, ?_⟩
          change WpOpsG _ _ ((134, .v (.int .i64 (nx t a 2))) :: _) ((0, tbox t (na t a 2)) :: _) _
          have ru1 := nx_rng t a 2
          obtain ⟨b, eb, hb⟩ : ∃ o, na t a 2 = o ∧ o ≤ t.length := ⟨_, rfl, na_le ha⟩
          rw [eb]
          obtain ⟨u1, fu1⟩ : ∃ o, nx t a 2 = o := ⟨_, rfl⟩
          rw [fu1] at ru1 ⊢
          refine G.bin rfl rfl rfl ?_
          refine G.pickT rfl rfl ?_
          refine WpOpsG.nil ?_
          change WpG _ _ _ _ _
          refine WpG.cond rfl (fun hq13 => ?_) (fun hq13 => ?_)
          ·(try simp only [zN] at hq13)
           refine WpG.reg ?_
           refine G.faddrB rfl ?_
           refine G.load1B rfl rfl rfl ?_
           refine G.mv rfl ?_
           refine G.faddrB rfl ?_
           refine G.load1B rfl rfl rfl ?_
           refine G.mv rfl ?_
           refine G.mv rfl ?_
           refine G.mv rfl ?_
           refine G.ckcall (P := [(0, tbox t b)]) rfl rfl (by repeat (first | exact trivial | refine ⟨rfl, ?_⟩)) rfl rfl (next_ok t b 2 ht hi hb (by omega)) ?_
           rintro _ _ ⟨rfl, rfl⟩
           refine ⟨rfl, ?_⟩
           change WpOpsG _ _ ((145, .v (.int .i64 (nx t b 2))) :: _) ((0, tbox t (na t b 2)) :: _) _
           have ru := nx_rng t b 2
           obtain ⟨c, ec, hc⟩ : ∃ o, na t b 2 = o ∧ o ≤ t.length := ⟨_, rfl, na_le hb⟩
           rw [ec]
           obtain ⟨u, fu⟩ : ∃ o, nx t b 2 = o := ⟨_, rfl⟩
           rw [fu] at ru ⊢
           refine G.subI rfl rfl (by omega) ?_
           refine G.mx rfl rfl ?_
           refine G.mv rfl ?_
           refine G.iaddrO rfl rfl rfl (by omega) (by rw [List.length_map]; omega) ?_
           rw [Int.toNat_natCast]
           refine G.faddrE rfl ?_
           refine G.ckX [(1, .arr .yes 11 (X.map encX))] [(150, .eptr 1 i 1), (147, .v (.int .i64 (max (w - u) 1)))] (by repeat (first | exact trivial | refine ⟨rfl, ?_⟩)) (by repeat (first | exact trivial | refine ⟨rfl, ?_⟩)) rfl rfl rfl ?_ ?_
           ·refine G.storeEM ({X[i] with p := {X[i].p with bud := max (w - u) 1}} : Pc) rfl rfl rfl (List.getElem?_eq_getElem (by omega)) rfl rfl rfl rfl ?_
            exact WpOpsG.nil trivial
           refine G.storeEM ({X[i] with p := {X[i].p with bud := max (w - u) 1}} : Pc) rfl rfl rfl (List.getElem?_eq_getElem (by omega)) rfl rfl rfl rfl ?_
           refine WpOpsG.nil ?_
           change WpOpsG _ _ _ ((1, _) :: _) _
           refine G.iaddrO rfl rfl rfl (by omega) (by rw [List.length_map, List.length_set]; omega) ?_
           rw [Int.toNat_natCast]
           refine G.faddrE rfl ?_
           refine G.storeEM (({X[i] with p := {X[i].p with bud := max (w - u) 1, per := pe}} : Pc)) rfl rfl rfl (List.getElem?_set_self (by omega)) rfl rfl rfl rfl ?_
           rw [List.set_set]
           refine WpOpsG.nil ?_
           change WpG _ _ _ _ _
           refine WpG.reg ?_
           refine G.addI rfl rfl (by omega) ?_
           refine G.mv rfl ?_
           refine WpOpsG.nil ?_
           first
            | exact ⟨(X, i + 1, a), by show _ - (i + 1) < _ - i; omega, ⟨by dsimp only; omega, hXl, hXR, ha⟩, ⟨rfl, rfl, rfl, rfl, rfl, rfl, rfl, rfl, trivial⟩, ⟨rfl, rfl, rfl, rfl, rfl, trivial⟩, rfl⟩
            | exact ⟨(X, i + 1, b), by show _ - (i + 1) < _ - i; omega, ⟨by dsimp only; omega, hXl, hXR, hb⟩, ⟨rfl, rfl, rfl, rfl, rfl, rfl, rfl, rfl, trivial⟩, ⟨rfl, rfl, rfl, rfl, rfl, trivial⟩, rfl⟩
            | exact ⟨(X.set i ({X[i] with p := {X[i].p with bud := max (w - u) 1, per := pe}} : Pc), i + 1, c), by show _ - (i + 1) < _ - i; omega, ⟨by dsimp only; omega, by rw [List.length_set]; exact hXl, okXR_set hXR (by omega) (by unfold i64; omega) (bd_end hbd (by omega) (by omega)), hc⟩, ⟨rfl, rfl, rfl, rfl, rfl, rfl, rfl, rfl, trivial⟩, ⟨rfl, rfl, rfl, rfl, rfl, trivial⟩, rfl⟩
          ·(try simp only [zN] at hq13)
           refine WpG.skip ?_
           change WpG _ _ _ _ _
           refine WpG.reg ?_
           refine G.addI rfl rfl (by omega) ?_
           refine G.mv rfl ?_
           refine WpOpsG.nil ?_
           first
            | exact ⟨(X, i + 1, a), by show _ - (i + 1) < _ - i; omega, ⟨by dsimp only; omega, hXl, hXR, ha⟩, ⟨rfl, rfl, rfl, rfl, rfl, rfl, rfl, rfl, trivial⟩, ⟨rfl, rfl, rfl, rfl, rfl, trivial⟩, rfl⟩
            | exact ⟨(X, i + 1, b), by show _ - (i + 1) < _ - i; omega, ⟨by dsimp only; omega, hXl, hXR, hb⟩, ⟨rfl, rfl, rfl, rfl, rfl, rfl, rfl, rfl, trivial⟩, ⟨rfl, rfl, rfl, rfl, rfl, trivial⟩, rfl⟩
            | exact ⟨(X.set i ({X[i] with p := {X[i].p with bud := max (w - u) 1, per := pe}} : Pc), i + 1, c), by show _ - (i + 1) < _ - i; omega, ⟨by dsimp only; omega, by rw [List.length_set]; exact hXl, okXR_set hXR (by omega) (by unfold i64; omega) (bd_end hbd (by omega) (by omega)), hc⟩, ⟨rfl, rfl, rfl, rfl, rfl, rfl, rfl, rfl, trivial⟩, ⟨rfl, rfl, rfl, rfl, rfl, trivial⟩, rfl⟩
       ·exact ⟨Nat.zero_le _, by decide, bd_0⟩
      ·(try simp only [zN] at hq10)
       refine WpG.exit ?_
       change WpG _ _ _ _ _
       refine WpG.seq ?_
       refine WpG.seq ?_
       refine WpG.reg ?_
       refine G.loadNB rfl rfl rfl ?_
       refine G.lend rfl rfl (right12_ok X C tabs (by omega) hXs (by omega) (by omega) hTs) ?_
       rintro _ _ ⟨e, rfl, rfl⟩
       refine ⟨rfl, trivial, rfl, ?_⟩
       change WpOpsG _ _ ((155, _) :: _) _ _
       refine G.bin rfl rfl rfl ?_
       refine WpOpsG.nil ?_
       change WpG _ _ _ _ _
       refine WpG.cond rfl (fun hq14 => ?_) (fun hq14 => ?_)
       ·(try simp only [zN] at hq14)
        refine WpG.seq ?_
        refine WpG.reg ?_
        refine G.faddrB rfl ?_
        refine G.load1B rfl rfl rfl ?_
        refine G.lenOM rfl rfl ?_
        refine G.mv rfl ?_
        refine WpOpsG.nil ?_
        change WpG _ _ _ _ _
        refine WpG.block ?_
        refine WpG.loop (S := List Pc × Nat) (fun s => [(3, .bptr 10 0), (4, .bptr 11 0), (158, .osl 1), (159, .v (.int .i64 (X0.length : Int))), (160, .v (.int .i64 (s.2 : Int)))]) (fun s => [(0, tbox t a), (1, .arr .yes 11 (s.1.map encX)), (2, .arr .yes 6 (C.map encC)), (10, .box [.osl 1, .osl 2, .fsl 1 (tabs.map encTb)]), (11, .box [.v (.slice none 0 0), .v (.slice none 0 0), .v (.slice none 0 0)])]) (fun s => s.2 ≤ X0.length ∧ s.1.length = X0.length ∧ okXR rs s.1) (fun s => X0.length - s.2) (fun s => ⟨rfl, rfl⟩) ?_ (X, 0) ?_ ⟨rfl, rfl, rfl, by rw [← hXl]; rfl, rfl, trivial⟩ (by repeat (first | exact trivial | refine ⟨rfl, ?_⟩)) rfl
        ·rintro ⟨X, i⟩ ⟨hI, hXl, hXR⟩
         dsimp only at hI hXl hXR ⊢
         have hXs := hXR.1
         refine WpG.seq ?_
         refine WpG.reg ?_
         refine G.bin rfl rfl rfl ?_
         refine WpOpsG.nil ?_
         change WpG _ _ _ _ _
         refine WpG.seq ?_
         refine WpG.cond rfl (fun hq15 => ?_) (fun hq15 => ?_)
         ·(try simp only [zN] at hq15)
          refine WpG.skip ?_
          change WpG _ _ _ _ _
          refine WpG.seq ?_
          refine WpG.block ?_
          refine WpG.seq ?_
          refine WpG.reg ?_
          refine G.mv rfl ?_
          refine G.mv rfl ?_
          refine WpOpsG.nil ?_
          change WpG _ _ _ _ _
          refine WpG.reg ?_
          refine G.faddrB rfl ?_
          refine G.load1B rfl rfl rfl ?_
          refine G.mv rfl ?_
          refine G.faddrB rfl ?_
          refine G.load1B rfl rfl rfl ?_
          refine G.mv rfl ?_
          refine G.iaddrO rfl rfl rfl (by omega) (by rw [List.length_map]; omega) ?_
          rw [Int.toNat_natCast]
          refine G.faddrE rfl ?_
          refine G.ckX [(1, .arr .yes 11 (X.map encX))] [(170, .eptr 1 i 1)] (by repeat (first | exact trivial | refine ⟨rfl, ?_⟩)) (by repeat (first | exact trivial | refine ⟨rfl, ?_⟩)) rfl rfl rfl ?_ ?_
          ·refine G.storeEM ({X[i] with p := {X[i].p with bud := 0}} : Pc) rfl rfl rfl (List.getElem?_eq_getElem (by omega)) rfl rfl rfl rfl ?_
           exact WpOpsG.nil trivial
          refine G.storeEM ({X[i] with p := {X[i].p with bud := 0}} : Pc) rfl rfl rfl (List.getElem?_eq_getElem (by omega)) rfl rfl rfl rfl ?_
          refine WpOpsG.nil ?_
          change WpOpsG _ _ _ ((1, _) :: _) _
          refine G.iaddrO rfl rfl rfl (by omega) (by rw [List.length_map, List.length_set]; omega) ?_
          rw [Int.toNat_natCast]
          refine G.faddrE rfl ?_
          refine G.storeEM ({X[i] with p := {X[i].p with bud := 0, per := 0}} : Pc) rfl rfl rfl (List.getElem?_set_self (by omega)) rfl rfl rfl rfl ?_
          rw [List.set_set]
          refine WpOpsG.nil ?_
          change WpG _ _ _ _ _
          refine WpG.reg ?_
          refine G.addI rfl rfl (by omega) ?_
          refine G.mv rfl ?_
          refine WpOpsG.nil ?_
          exact ⟨(X.set i {X[i] with p := {X[i].p with bud := 0, per := 0}}, i + 1), by show _ - (i + 1) < _ - i; omega, ⟨by dsimp only; omega, by rw [List.length_set]; exact hXl, okXR_set hXR (by omega) (by unfold i64; omega) (fun r hr => .inl (Int.le_refl 0))⟩, (by repeat (first | exact trivial | refine ⟨rfl, ?_⟩)), (by repeat (first | exact trivial | refine ⟨rfl, ?_⟩)), rfl⟩
         ·(try simp only [zN] at hq15)
          refine WpG.exit ?_
          change WpG _ _ _ _ _
          refine WpG.seq ?_
          refine WpG.reg ?_
          refine G.loadNB rfl rfl rfl ?_
          refine G.storeB rfl rfl rfl rfl rfl rfl ?_
          refine WpOpsG.nil ?_
          change WpG _ _ _ _ _
          refine WpG.ret ?_
          refine ⟨_, [(1, .arr .yes 11 (X.map encX)), (2, .arr .yes 6 (C.map encC)), (0, tbox t a)], rfl, (hasP_le (by repeat (first | exact trivial | refine ⟨rfl, ?_⟩))), rfl, rfl, rfl, ?_⟩
          exact ⟨X, C, a, ⟨hXl, hXs⟩, ⟨hCl, hCs⟩, ⟨ha, fun tb htb => hold_R hCR hXR (by rw [hrsE]; exact List.mem_map_of_mem htb)⟩, rfl, rfl⟩
        ·exact ⟨Nat.zero_le _, hXl, hXR⟩
       ·(try simp only [zN] at hq14)
        refine WpG.skip ?_
        change WpG _ _ _ _ _
        refine WpG.seq ?_
        refine WpG.reg ?_
        refine G.loadNB rfl rfl rfl ?_
        refine G.storeB rfl rfl rfl rfl rfl rfl ?_
        refine WpOpsG.nil ?_
        change WpG _ _ _ _ _
        refine WpG.ret ?_
        refine ⟨_, [(1, .arr .yes 11 (X.map encX)), (2, .arr .yes 6 (C.map encC)), (0, tbox t a)], rfl, (hasP_le (by repeat (first | exact trivial | refine ⟨rfl, ?_⟩))), rfl, rfl, rfl, ?_⟩
        exact ⟨X, C, a, ⟨hXl, hXs⟩, ⟨hCl, hCs⟩, ⟨ha, fun tb htb => hold_R hCR hXR (by rw [hrsE]; exact List.mem_map_of_mem htb)⟩, rfl, rfl⟩
     ·exact ⟨Nat.zero_le _, rfl, hXR0, hb⟩
   ·exact ⟨Nat.zero_le _, rfl, hCR0, ha0⟩
 ·exact ⟨Nat.zero_le _, rfl, fun r hr => (by cases hr), rfl⟩
set_option maxHeartbeats 4000000 in
theorem configO_ok (t : List Int) (a0 : Nat) (ht : t.length ≤ 2 ^ 50) (hi : ∀ x ∈ t, i64 x) (ha0 : a0 ≤ t.length) : WpCallG A 14 [.bptr 0 0] [(0, tbox t a0)] (fun v H => ∃ (X : List Pc) (C : List Ch) (tabs : List (List Nd)) (b : Nat), CfgOk X C tabs ∧ b ≤ t.length ∧ v = .agg [.osl 1, .osl 2, .fsl 1 (tabs.map encTb)] ∧ H = [(1, .arr .yes 11 (X.map encX)), (2, .arr .yes 6 (C.map encC)), (0, tbox t b)]) := by
 refine WpCallG.intro g14 rfl rfl ?_
 unfold af14
 change WpG _ _ _ _ _
 refine WpG.seq ?_
 refine WpG.reg ?_
 refine G.box (g := 10) rfl rfl rfl ?_
 refine WpOpsG.nil ?_
 change WpG _ _ _ _ _
 refine WpG.seq ?_
 refine WpG.reg ?_
 refine G.box (g := 11) rfl rfl rfl ?_
 refine WpOpsG.nil ?_
 change WpG _ _ _ _ _
 refine WpG.seq ?_
 refine WpG.ownNilB (b := 11) (g := 1) (off := 0) (w := 11) rfl rfl rfl ?_
 refine WpG.ownNilB (b := 11) (g := 2) (off := 1) (w := 6) rfl rfl rfl ?_
 refine WpG.ownNilB (b := 11) (g := 23) (off := 2) (w := 1) rfl rfl rfl ?_
 refine WpG.reg ?_
 refine G.mv rfl ?_
 refine G.call (P := [(0, tbox t a0)]) rfl (by repeat (first | exact trivial | refine ⟨rfl, ?_⟩)) rfl rfl (next_ok t a0 4 ht hi ha0 (by omega)) ?_
 rintro _ _ ⟨rfl, rfl⟩
 refine ⟨rfl, ?_⟩
 change WpOpsG _ _ ((14, .v (.int .i64 (nx t a0 4))) :: _) ((0, tbox t (na t a0 4)) :: _) _
 have ru0 := nx_rng t a0 4
 obtain ⟨a1, ea1, ha1⟩ : ∃ o, na t a0 4 = o ∧ o ≤ t.length := ⟨_, rfl, na_le ha0⟩
 rw [ea1]
 obtain ⟨u0, fu0⟩ : ∃ o, nx t a0 4 = o := ⟨_, rfl⟩
 rw [fu0] at ru0 ⊢
 refine G.addI rfl rfl (by omega) ?_
 obtain ⟨n, hn⟩ : ∃ n : Nat, 1 + u0 = (n : Int) := ⟨(1 + u0).toNat, by omega⟩
 rw [hn]
 refine G.mv rfl ?_
 refine WpOpsG.nil ?_
 change WpG _ _ _ _ _
 refine WpG.seq ?_
 refine WpG.seq ?_
 refine WpG.reg ?_
 refine G.mv rfl ?_
 refine WpOpsG.nil ?_
 change WpG _ _ _ _ _
 refine WpG.block ?_
 refine WpG.loop (S := List Pc × Nat × Nat) (fun s => [(0, .bptr 0 0), (2, .bptr 10 0), (3, .bptr 11 0), (4, .v (.int .i64 (n : Int))), (5, .v (.int .i64 (s.2.1 : Int)))]) (fun s => [(0, tbox t s.2.2), (10, .box [.v (.slice none 0 0), .v (.slice none 0 0), .v (.slice none 0 0)]), (11, .box [.osl 1, .osl 2, .osl 23]), (1, .arr .yes 11 (s.1.map encX)), (2, .arr .yes 6 (([] : List Ch).map encC)), (23, .arr .yes 1 (([] : List (List Nd)).map encTb))]) (fun s => s.2.1 ≤ n ∧ s.1.length = s.2.1 ∧ okX0 s.1 ∧ s.2.2 ≤ t.length) (fun s => n - s.2.1) (fun s => ⟨rfl, rfl⟩) ?_ ([], 0, a1) ?_ (by repeat (first | exact trivial | refine ⟨rfl, ?_⟩)) (by repeat (first | exact trivial | refine ⟨rfl, ?_⟩)) rfl
 ·rintro ⟨X, i, a⟩ ⟨hI, hXl, hXs, ha⟩
  dsimp only at hI hXl hXs ha ⊢
  refine WpG.seq ?_
  refine WpG.seq ?_
  refine WpG.reg ?_
  refine G.mv rfl ?_
  refine G.mv rfl ?_
  refine G.bin rfl rfl rfl ?_
  refine WpOpsG.nil ?_
  change WpG _ _ _ _ _
  refine WpG.cond rfl (fun hq1 => ?_) (fun hq1 => ?_)
  ·(try simp only [zN] at hq1)
   refine WpG.skip ?_
   change WpG _ _ _ _ _
   refine WpG.seq ?_
   refine WpG.block ?_
   refine WpG.seq ?_
   refine WpG.reg ?_
   refine G.mv rfl ?_
   refine G.addI rfl rfl (by omega) ?_
   refine G.convi rfl ?_
   refine G.convis rfl ?_
   refine G.bin rfl rfl addStr1 ?_
   obtain ⟨nm, hnm, hns⟩ : ∃ nm : ByteArray, (⟨#[112]⟩ : ByteArray) ++ Utf8.encode (IntKind.i32.wrap (97 + (i : Int))) = nm ∧ nm.size ≤ 2 ^ 40 := ⟨_, rfl, name_size (of_decide_eq_true rfl)⟩
   rw [hnm]
   refine G.mv rfl ?_
   refine G.call (P := [(0, tbox t a)]) rfl (by repeat (first | exact trivial | refine ⟨rfl, ?_⟩)) rfl rfl (next_ok t a 5 ht hi ha (by omega)) ?_
   rintro _ _ ⟨rfl, rfl⟩
   refine ⟨rfl, ?_⟩
   change WpOpsG _ _ ((27, .v (.int .i64 (nx t a 5))) :: _) ((0, tbox t (na t a 5)) :: _) _
   have rv1 := nx_rng t a 5
   obtain ⟨b, eb, hb⟩ : ∃ o, na t a 5 = o ∧ o ≤ t.length := ⟨_, rfl, na_le ha⟩
   rw [eb]
   obtain ⟨v1, fv1⟩ : ∃ o, nx t a 5 = o := ⟨_, rfl⟩
   rw [fv1] at rv1 ⊢
   refine G.bin rfl rfl rfl ?_
   obtain ⟨b3, hb3⟩ : ∃ z, (v1 == 0) = z := ⟨_, rfl⟩
   rw [hb3]
   refine G.mv rfl ?_
   refine G.call (P := [(0, tbox t b)]) rfl (by repeat (first | exact trivial | refine ⟨rfl, ?_⟩)) rfl rfl (next_ok t b 8 ht hi hb (by omega)) ?_
   rintro _ _ ⟨rfl, rfl⟩
   refine ⟨rfl, ?_⟩
   change WpOpsG _ _ ((30, .v (.int .i64 (nx t b 8))) :: _) ((0, tbox t (na t b 8)) :: _) _
   have rv2 := nx_rng t b 8
   obtain ⟨c, ec, hc⟩ : ∃ o, na t b 8 = o ∧ o ≤ t.length := ⟨_, rfl, na_le hb⟩
   rw [ec]
   obtain ⟨v2, fv2⟩ : ∃ o, nx t b 8 = o := ⟨_, rfl⟩
   rw [fv2] at rv2 ⊢
   refine G.bin rfl rfl rfl ?_
   obtain ⟨b4, hb4⟩ : ∃ z, (v2 == 0) = z := ⟨_, rfl⟩
   rw [hb4]
   refine G.build rfl ?_
   refine G.box (g := 12) rfl rfl rfl ?_
   refine G.storeB rfl rfl rfl rfl rfl rfl ?_
   refine WpOpsG.nil ?_
   change WpG _ _ _ _ _
   refine WpG.seq ?_
   refine WpG.seq ?_
   refine WpG.reg ?_
   refine G.mv rfl ?_
   refine G.call (P := [(0, tbox t c)]) rfl (by repeat (first | exact trivial | refine ⟨rfl, ?_⟩)) rfl rfl (next_ok t c 2 ht hi hc (by omega)) ?_
   rintro _ _ ⟨rfl, rfl⟩
   refine ⟨rfl, ?_⟩
   change WpOpsG _ _ ((34, .v (.int .i64 (nx t c 2))) :: _) ((0, tbox t (na t c 2)) :: _) _
   have ru := nx_rng t c 2
   obtain ⟨e, ee, he⟩ : ∃ o, na t c 2 = o ∧ o ≤ t.length := ⟨_, rfl, na_le hc⟩
   rw [ee]
   obtain ⟨u, fu⟩ : ∃ o, nx t c 2 = o := ⟨_, rfl⟩
   rw [fu] at ru ⊢
   refine G.mv rfl ?_
   refine WpOpsG.nil ?_
   change WpG _ _ _ _ _
   refine WpG.block ?_
   refine WpG.ownNilB (b := 12) (g := 24) (off := 5) (w := 2) rfl rfl rfl ?_
   refine WpG.loop (S := List Sp × Int × Nat) (fun s => [(0, .bptr 0 0), (2, .bptr 10 0), (3, .bptr 11 0), (4, .v (.int .i64 (n : Int))), (5, .v (.int .i64 (i : Int))), (6, .bptr 12 0), (7, .v (.int .i64 s.2.1))]) (fun s => [(0, tbox t s.2.2), (10, .box [.v (.slice none 0 0), .v (.slice none 0 0), .v (.slice none 0 0)]), (11, .box [.osl 1, .osl 2, .osl 23]), (1, .arr .yes 11 (X.map encX)), (2, .arr .yes 6 (([] : List Ch).map encC)), (23, .arr .yes 1 (([] : List (List Nd)).map encTb)), (12, .box [.v (.string nm), .v (.int .i64 0), .v (.int .i64 0), .v (.bool b3), .v (.bool b4), .osl 24, .v (.int .i64 0), .v (.int .i64 0), .v (.int .i64 0), .v (.int .i64 0), .v (.int .i64 0)]), (24, .arr .yes 2 (s.1.map encSp))]) (fun s => ((s.1.length : Int) + s.2.1 ≤ 1 ∧ -1 ≤ s.2.1) ∧ s.2.2 ≤ t.length) (fun s => (s.2.1 + 1).toNat) (fun s => ⟨rfl, rfl⟩) ?_ ([], u, e) ?_ (by repeat (first | exact trivial | refine ⟨rfl, ?_⟩)) (by repeat (first | exact trivial | refine ⟨rfl, ?_⟩)) rfl
   ·rintro ⟨pr, k, s⟩ ⟨hk, hs⟩
    dsimp only at hk hs ⊢
    refine WpG.seq ?_
    refine WpG.seq ?_
    refine WpG.reg ?_
    refine G.mv rfl ?_
    refine G.bin rfl rfl rfl ?_
    refine WpOpsG.nil ?_
    change WpG _ _ _ _ _
    refine WpG.cond rfl (fun hq2 => ?_) (fun hq2 => ?_)
    ·(try simp only [zN] at hq2)
     refine WpG.skip ?_
     change WpG _ _ _ _ _
     refine WpG.seq ?_
     refine WpG.block ?_
     refine WpG.reg ?_
     refine G.faddrB rfl ?_
     refine G.load1B rfl rfl rfl ?_
     refine G.mv rfl ?_
     refine G.ckcall (P := [(0, tbox t s)]) rfl rfl (by repeat (first | exact trivial | refine ⟨rfl, ?_⟩)) rfl rfl (next_ok t s 6 ht hi hs (by omega)) ?_
     rintro _ _ ⟨rfl, rfl⟩
     refine ⟨rfl, ?_⟩
     change WpOpsG _ _ ((42, .v (.int .i64 (nx t s 6))) :: _) ((0, tbox t (na t s 6)) :: _) _
     have ru1 := nx_rng t s 6
     obtain ⟨f, ef, hf⟩ : ∃ o, na t s 6 = o ∧ o ≤ t.length := ⟨_, rfl, na_le hs⟩
     rw [ef]
     obtain ⟨u1, fu1⟩ : ∃ o, nx t s 6 = o := ⟨_, rfl⟩
     rw [fu1] at ru1 ⊢
     refine G.mulI rfl rfl (by omega) ?_
     refine G.mv rfl ?_
     refine G.ckcall (P := [(0, tbox t f)]) rfl rfl (by repeat (first | exact trivial | refine ⟨rfl, ?_⟩)) rfl rfl (next_ok t f 4 ht hi hf (by omega)) ?_
     rintro _ _ ⟨rfl, rfl⟩
     refine ⟨rfl, ?_⟩
     change WpOpsG _ _ ((45, .v (.int .i64 (nx t f 4))) :: _) ((0, tbox t (na t f 4)) :: _) _
     have ru2 := nx_rng t f 4
     obtain ⟨g, eg, hg⟩ : ∃ o, na t f 4 = o ∧ o ≤ t.length := ⟨_, rfl, na_le hf⟩
     rw [eg]
     obtain ⟨u2, fu2⟩ : ∃ o, nx t f 4 = o := ⟨_, rfl⟩
     rw [fu2] at ru2 ⊢
     refine G.build rfl ?_
     refine G.bsliceF rfl rfl rfl ?_
     change WpOpsG _ _ ((47, .fsl 2 (([(4 * u1, u2)] : List Sp).map encSp)) :: _) _ _
     refine G.app rfl rfl rfl rfl trivial (by rw [List.length_map]; show (pr.length + 1) * 16 ≤ 2 ^ 47; omega) ?_
     rw [← List.map_append]
     refine G.faddrB rfl ?_
     refine G.storeB rfl rfl rfl rfl rfl rfl ?_
     refine WpOpsG.nil ?_
     change WpG _ _ _ _ _
     refine WpG.reg ?_
     refine G.mv rfl ?_
     refine G.subI rfl rfl (by omega) ?_
     refine G.mv rfl ?_
     refine WpOpsG.nil ?_
     exact ⟨(pr ++ [(4 * u1, u2)], k - 1, g), by show (k - 1 + 1).toNat < (k + 1).toNat; omega, ⟨by dsimp only; rw [List.length_append]; show ((pr.length + 1 : Nat) : Int) + (k - 1) ≤ 1 ∧ _; omega, hg⟩, ⟨rfl, rfl, rfl, rfl, rfl, rfl, rfl, trivial⟩, ⟨rfl, rfl, rfl, rfl, rfl, rfl, rfl, rfl, trivial⟩, rfl⟩
    ·(try simp only [zN] at hq2)
     refine WpG.exit ?_
     change WpG _ _ _ _ _
     refine WpG.seq ?_
     refine WpG.seq ?_
     refine WpG.freeze 24 rfl ?_
     refine WpG.reg ?_
     refine G.mv rfl ?_
     refine WpOpsG.nil ?_
     change WpG _ _ _ _ _
     refine WpG.block ?_
     refine WpG.loop (S := Nat × Pc × Nat) (fun s => [(0, .bptr 0 0), (2, .bptr 10 0), (3, .bptr 11 0), (4, .v (.int .i64 (n : Int))), (5, .v (.int .i64 (i : Int))), (6, .bptr 12 0), (50, .v (.int .i64 (s.1 : Int)))]) (fun s => [(0, tbox t s.2.2), (10, .box [.v (.slice none 0 0), .v (.slice none 0 0), .v (.slice none 0 0)]), (11, .box [.osl 1, .osl 2, .osl 23]), (1, .arr .yes 11 (X.map encX)), (2, .arr .yes 6 (([] : List Ch).map encC)), (23, .arr .yes 1 (([] : List (List Nd)).map encTb)), (12, .box (encX s.2.1))]) (fun s => s.1 ≤ 5 ∧ okX1 s.2.1 ∧ s.2.2 ≤ t.length) (fun s => 5 - s.1) (fun s => ⟨rfl, rfl⟩) ?_ (0, ⟨⟨nm, 0, 0, b3, b4, 0, 0, 0, 0, 0⟩, pr⟩, s) ?_ (by repeat (first | exact trivial | refine ⟨rfl, ?_⟩)) (by repeat (first | exact trivial | refine ⟨rfl, ?_⟩)) rfl
     ·rintro ⟨k, cc, s⟩ ⟨hk5, hcc, hs⟩
      dsimp only at hk5 hcc hs ⊢
      refine WpG.seq ?_
      refine WpG.reg ?_
      refine G.bin rfl rfl rfl ?_
      refine WpOpsG.nil ?_
      change WpG _ _ _ _ _
      refine WpG.seq ?_
      refine WpG.cond rfl (fun hq3 => ?_) (fun hq3 => ?_)
      ·(try simp only [zN] at hq3)
       refine WpG.skip ?_
       change WpG _ _ _ _ _
       refine WpG.seq ?_
       refine WpG.block ?_
       refine WpG.seq ?_
       refine WpG.reg ?_
       refine G.mv rfl ?_
       refine G.mv rfl ?_
       refine WpOpsG.nil ?_
       change WpG _ _ _ _ _
       refine WpG.reg ?_
       refine G.mv rfl ?_
       refine G.bsliceF rfl rfl rfl ?_
       change WpOpsG _ _ ((54, .fsl 1 (([0, 1, 0, 2, 1] : List Int).map encK)) :: _) _ _
       refine G.mv rfl ?_
       refine G.call (P := [(0, tbox t s)]) rfl (by repeat (first | exact trivial | refine ⟨rfl, ?_⟩)) rfl rfl (next_ok t s 5 ht hi hs (by omega)) ?_
       rintro _ _ ⟨rfl, rfl⟩
       refine ⟨rfl, ?_⟩
       change WpOpsG _ _ ((56, .v (.int .i64 (nx t s 5))) :: _) ((0, tbox t (na t s 5)) :: _) _
       have ru1 := nx_rng t s 5
       obtain ⟨f, ef, hf⟩ : ∃ o, na t s 5 = o ∧ o ≤ t.length := ⟨_, rfl, na_le hs⟩
       rw [ef]
       obtain ⟨u1, fu1⟩ : ∃ o, nx t s 5 = o := ⟨_, rfl⟩
       rw [fu1] at ru1 ⊢
       refine G.iaddrM rfl rfl (by omega) (gd17 (0 : Int) (by show _ < 5; omega)) ?_
       refine G.load1F rfl rfl ?_
       obtain ⟨z, hz⟩ : ∃ z, ([0, 1, 0, 2, 1] : List Int).getD u1.toNat 0 = z := ⟨_, rfl⟩
       rw [hz]
       refine G.faddrB rfl ?_
       refine G.aaddrB rfl rfl (by omega) (by omega) ?_
       rw [Int.toNat_natCast]
       refine G.storeB rfl rfl rfl rfl rfl (putH (c := cc) (z := z) (by omega)) ?_
       refine WpOpsG.nil ?_
       change WpG _ _ _ _ _
       refine WpG.reg ?_
       refine G.addI rfl rfl (by omega) ?_
       refine G.mv rfl ?_
       refine WpOpsG.nil ?_
       exact ⟨(k + 1, setH cc k z, f), by show 5 - (k + 1) < 5 - k; omega, ⟨by dsimp only; omega, okX1_set hcc, hf⟩, ⟨rfl, rfl, rfl, rfl, rfl, rfl, rfl, trivial⟩, ⟨rfl, rfl, rfl, rfl, rfl, rfl, rfl, trivial⟩, rfl⟩
      ·(try simp only [zN] at hq3)
       refine WpG.exit ?_
       change WpG _ _ _ _ _
       refine WpG.reg ?_
       refine G.faddrB rfl ?_
       refine G.load1B rfl rfl rfl ?_
       refine G.loadNB rfl rfl rfl ?_
       refine G.bsliceF rfl rfl rfl ?_
       change WpOpsG _ _ ((65, .fsl 11 (([cc] : List Pc).map encX)) :: _) _ _
       refine G.app rfl rfl rfl rfl trivial (by rw [List.length_map]; show (X.length + 1) * 104 ≤ 2 ^ 47; omega) ?_
       rw [← List.map_append]
       refine G.faddrB rfl ?_
       refine G.storeB rfl rfl rfl rfl rfl rfl ?_
       refine WpOpsG.nil ?_
       change WpG _ _ _ _ _
       refine WpG.reg ?_
       refine G.mv rfl ?_
       refine G.addI rfl rfl (by omega) ?_
       refine G.mv rfl ?_
       refine WpOpsG.nil ?_
       exact ⟨(X ++ [cc], i + 1, s), by show _ - (i + 1) < _ - i; omega, ⟨by dsimp only; omega, by rw [List.length_append]; show X.length + 1 = i + 1; omega, okX0_app hXs hcc, hs⟩, ⟨rfl, rfl, rfl, rfl, rfl, trivial⟩, ⟨rfl, rfl, rfl, rfl, rfl, rfl, trivial⟩, rfl⟩
     ·exact ⟨Nat.zero_le _, ⟨⟨hns, by show pr.length ≤ _; omega, by show i64 0; unfold i64; omega⟩, rfl⟩, hs⟩
   ·exact ⟨by simp only [List.length_nil]; omega, he⟩
  ·(try simp only [zN] at hq1)
   refine WpG.exit ?_
   change WpG _ _ _ _ _
   refine WpG.seq ?_
   refine WpG.seq ?_
   have hXn : X.length = n := by omega
   refine WpG.reg ?_
   refine G.mv rfl ?_
   refine G.call (P := [(0, tbox t a)]) rfl (by repeat (first | exact trivial | refine ⟨rfl, ?_⟩)) rfl rfl (next_ok t a 4 ht hi ha (by omega)) ?_
   rintro _ _ ⟨rfl, rfl⟩
   refine ⟨rfl, ?_⟩
   change WpOpsG _ _ ((69, .v (.int .i64 (nx t a 4))) :: _) ((0, tbox t (na t a 4)) :: _) _
   have ru6 := nx_rng t a 4
   obtain ⟨b, eb, hb⟩ : ∃ o, na t a 4 = o ∧ o ≤ t.length := ⟨_, rfl, na_le ha⟩
   rw [eb]
   obtain ⟨u6, fu6⟩ : ∃ o, nx t a 4 = o := ⟨_, rfl⟩
   rw [fu6] at ru6 ⊢
   refine G.mv rfl ?_
   refine WpOpsG.nil ?_
   change WpG _ _ _ _ _
   refine WpG.block ?_
   refine WpG.loop (S := List Ch × Int × Nat) (fun s => [(0, .bptr 0 0), (2, .bptr 10 0), (3, .bptr 11 0), (4, .v (.int .i64 (n : Int))), (9, .v (.int .i64 s.2.1))]) (fun s => [(0, tbox t s.2.2), (10, .box [.v (.slice none 0 0), .v (.slice none 0 0), .v (.slice none 0 0)]), (11, .box [.osl 1, .osl 2, .osl 23]), (1, .arr .yes 11 (X.map encX)), (2, .arr .yes 6 (s.1.map encC)), (23, .arr .yes 1 (([] : List (List Nd)).map encTb))]) (fun s => ((s.1.length : Int) + s.2.1 ≤ 3 ∧ 0 ≤ s.2.1) ∧ okC0 (n : Int) s.1 ∧ s.2.2 ≤ t.length) (fun s => s.2.1.toNat) (fun s => ⟨rfl, rfl⟩) ?_ ([], u6, b) ?_ (by repeat (first | exact trivial | refine ⟨rfl, ?_⟩)) (by repeat (first | exact trivial | refine ⟨rfl, ?_⟩)) rfl
   ·rintro ⟨C, k, s⟩ ⟨hk, hCs, hs⟩
    dsimp only at hk hCs hs ⊢
    refine WpG.seq ?_
    refine WpG.seq ?_
    refine WpG.reg ?_
    refine G.mv rfl ?_
    refine G.bin rfl rfl rfl ?_
    refine G.mv rfl ?_
    apply G.andS rfl rfl rfl rfl rfl rfl
    case hB =>
     intro hs4
     (try simp only [zN] at hs4)
     refine G.mv rfl ?_
     refine G.bin rfl rfl rfl ?_
     refine WpOpsG.nil ?_
     exact ⟨rfl, (by repeat (first | exact LLe.refl _ | refine LLe.cons rfl ?_)), (by repeat (first | exact HLe.refl _ | refine HLe.cons rfl ?_)), rfl⟩
    refine WpOpsG.nil ?_
    change WpG _ _ _ _ _
    refine WpG.cond rfl (fun hq5 => ?_) (fun hq5 => ?_)
    ·(try simp only [zN] at hq5)
     refine WpG.skip ?_
     change WpG _ _ _ _ _
     refine WpG.seq ?_
     refine WpG.block ?_
     refine WpG.seq ?_
     refine WpG.reg ?_
     refine G.mv rfl ?_
     refine G.mv rfl ?_
     refine G.call (P := [(0, tbox t s)]) rfl (by repeat (first | exact trivial | refine ⟨rfl, ?_⟩)) rfl rfl (next_ok t s (n : Int) ht hi hs (by omega)) ?_
     rintro _ _ ⟨rfl, rfl⟩
     refine ⟨rfl, ?_⟩
     change WpOpsG _ _ ((80, .v (.int .i64 (nx t s (n : Int)))) :: _) ((0, tbox t (na t s (n : Int))) :: _) _
     have ru1 := nx_rng t s (n : Int)
     obtain ⟨f, ef, hf⟩ : ∃ o, na t s (n : Int) = o ∧ o ≤ t.length := ⟨_, rfl, na_le hs⟩
     rw [ef]
     obtain ⟨u1, fu1⟩ : ∃ o, nx t s (n : Int) = o := ⟨_, rfl⟩
     rw [fu1] at ru1 ⊢
     refine G.mv rfl ?_
     refine WpOpsG.nil ?_
     change WpG _ _ _ _ _
     refine WpG.seq ?_
     refine WpG.reg ?_
     refine G.mv rfl ?_
     refine G.mv rfl ?_
     refine G.addI rfl rfl (by omega) ?_
     refine G.mv rfl ?_
     refine G.mv rfl ?_
     refine G.subI rfl rfl (by omega) ?_
     refine G.bsliceF rfl rfl rfl ?_
     change WpOpsG _ _ ((94, .fsl 1 (([4294967295, 200, 3] : List Int).map encU)) :: _) _ _
     refine G.box (g := 13) rfl rfl rfl ?_
     refine G.ckcall (P := [(0, tbox t f)]) rfl rfl (by repeat (first | exact trivial | refine ⟨rfl, ?_⟩)) rfl rfl (next_ok t f ((n : Int) - 1) ht hi hf (by omega)) ?_
     rintro _ _ ⟨rfl, rfl⟩
     refine ⟨rfl, ?_⟩
     change WpOpsG _ _ ((87, .v (.int .i64 (nx t f ((n : Int) - 1)))) :: _) ((0, tbox t (na t f ((n : Int) - 1))) :: _) _
     have ru2 := nx_rng t f ((n : Int) - 1)
     obtain ⟨g, eg, hg⟩ : ∃ o, na t f ((n : Int) - 1) = o ∧ o ≤ t.length := ⟨_, rfl, na_le hf⟩
     rw [eg]
     obtain ⟨u2, fu2⟩ : ∃ o, nx t f ((n : Int) - 1) = o := ⟨_, rfl⟩
     rw [fu2] at ru2 ⊢
     refine G.addI rfl rfl (by omega) ?_
     refine G.mv rfl ?_
     refine G.remN rfl rfl (by omega) (by omega) ?_
     refine G.mv rfl ?_
     refine G.ckcall (P := [(0, tbox t g)]) rfl rfl (by repeat (first | exact trivial | refine ⟨rfl, ?_⟩)) rfl rfl (next_ok t g 2 ht hi hg (by omega)) ?_
     rintro _ _ ⟨rfl, rfl⟩
     refine ⟨rfl, ?_⟩
     change WpOpsG _ _ ((92, .v (.int .i64 (nx t g 2))) :: _) ((0, tbox t (na t g 2)) :: _) _
     have ru3 := nx_rng t g 2
     obtain ⟨h, eh, hh⟩ : ∃ o, na t g 2 = o ∧ o ≤ t.length := ⟨_, rfl, na_le hg⟩
     rw [eh]
     obtain ⟨u3, fu3⟩ : ∃ o, nx t g 2 = o := ⟨_, rfl⟩
     rw [fu3] at ru3 ⊢
     refine G.bin rfl rfl rfl ?_
     refine G.mv rfl ?_
     refine G.ckcall (P := [(0, tbox t h)]) rfl rfl (by repeat (first | exact trivial | refine ⟨rfl, ?_⟩)) rfl rfl (next_ok t h 3 ht hi hh (by omega)) ?_
     rintro _ _ ⟨rfl, rfl⟩
     refine ⟨rfl, ?_⟩
     change WpOpsG _ _ ((96, .v (.int .i64 (nx t h 3))) :: _) ((0, tbox t (na t h 3)) :: _) _
     have ru4 := nx_rng t h 3
     obtain ⟨j, ej, hj⟩ : ∃ o, na t h 3 = o ∧ o ≤ t.length := ⟨_, rfl, na_le hh⟩
     rw [ej]
     obtain ⟨u4, fu4⟩ : ∃ o, nx t h 3 = o := ⟨_, rfl⟩
     rw [fu4] at ru4 ⊢
     refine G.iaddrM rfl rfl (by omega) (gd17 (0 : Int) (by show _ < 3; omega)) ?_
     refine G.load1F rfl rfl ?_
     obtain ⟨mx, hmx⟩ : ∃ z, ([4294967295, 200, 3] : List Int).getD u4.toNat 0 = z := ⟨_, rfl⟩
     rw [hmx]
     refine G.build rfl ?_
     refine G.storeB rfl rfl rfl rfl rfl rfl ?_
     refine WpOpsG.nil ?_
     change WpG _ _ _ _ _
     refine WpG.seq ?_
     refine WpG.seq ?_
     refine WpG.reg ?_
     refine G.faddrB rfl ?_
     refine G.load1B rfl rfl rfl ?_
     refine WpOpsG.nil ?_
     change WpG _ _ _ _ _
     refine WpG.cond rfl (fun hq6 => ?_) (fun hq6 => ?_)
     ·(try simp only [zN] at hq6)
      refine WpG.reg ?_
      refine G.mv rfl ?_
      refine G.call (P := [(0, tbox t j)]) rfl (by repeat (first | exact trivial | refine ⟨rfl, ?_⟩)) rfl rfl (next_ok t j 3 ht hi hj (by omega)) ?_
      rintro _ _ ⟨rfl, rfl⟩
      refine ⟨rfl, ?_⟩
      change WpOpsG _ _ ((103, .v (.int .i64 (nx t j 3))) :: _) ((0, tbox t (na t j 3)) :: _) _
      have ru5 := nx_rng t j 3
      obtain ⟨q, eq, hq⟩ : ∃ o, na t j 3 = o ∧ o ≤ t.length := ⟨_, rfl, na_le hj⟩
      rw [eq]
      obtain ⟨u5, fu5⟩ : ∃ o, nx t j 3 = o := ⟨_, rfl⟩
      rw [fu5] at ru5 ⊢
      refine G.addI rfl rfl (by omega) ?_
      refine G.faddrB rfl ?_
      refine G.storeB rfl rfl rfl rfl rfl rfl ?_
      refine WpOpsG.nil ?_
      change WpG _ _ _ _ _
      refine WpG.reg ?_
      refine G.faddrB rfl ?_
      refine G.load1B rfl rfl rfl ?_
      refine G.loadNB rfl rfl rfl ?_
      refine G.bsliceF rfl rfl rfl ?_
      first
       | (change WpOpsG _ _ ((109, .fsl 6 (([(⟨u1, (u1 + 1 + u2) % (n : Int), (u3 == 0), 1 + u5, mx, 0⟩ : Ch)] : List Ch).map encC)) :: _) _ _
          obtain ⟨ch, hch, hco, hcl⟩ : ∃ ch : Ch, (⟨u1, (u1 + 1 + u2) % (n : Int), (u3 == 0), 1 + u5, mx, 0⟩ : Ch) = ch ∧ okCh (n : Int) ch ∧ ch.late = 0 := ⟨_, rfl, ch_ok (by omega) (by omega) (by omega), rfl⟩
          rw [hch])
       | (change WpOpsG _ _ ((109, .fsl 6 (([(⟨u1, (u1 + 1 + u2) % (n : Int), (u3 == 0), 0, mx, 0⟩ : Ch)] : List Ch).map encC)) :: _) _ _
          obtain ⟨ch, hch, hco, hcl⟩ : ∃ ch : Ch, (⟨u1, (u1 + 1 + u2) % (n : Int), (u3 == 0), 0, mx, 0⟩ : Ch) = ch ∧ okCh (n : Int) ch ∧ ch.late = 0 := ⟨_, rfl, ch_ok (by omega) (by omega) (by omega), rfl⟩
          rw [hch])
      refine G.app rfl rfl rfl rfl trivial (by rw [List.length_map]; show (C.length + 1) * 48 ≤ 2 ^ 47; omega) ?_
      rw [← List.map_append]
      refine G.faddrB rfl ?_
      refine G.storeB rfl rfl rfl rfl rfl rfl ?_
      refine WpOpsG.nil ?_
      change WpG _ _ _ _ _
      refine WpG.reg ?_
      refine G.mv rfl ?_
      refine G.subI rfl rfl (by omega) ?_
      refine G.mv rfl ?_
      refine WpOpsG.nil ?_
      first
       | exact ⟨(C ++ [ch], k - 1, q), by show (k - 1).toNat < k.toNat; omega, ⟨by dsimp only; rw [List.length_append]; show ((C.length + 1 : Nat) : Int) + (k - 1) ≤ 3 ∧ _; omega, okC0_app hCs hco hcl, hq⟩, ⟨rfl, rfl, rfl, rfl, rfl, trivial⟩, ⟨rfl, rfl, rfl, rfl, rfl, rfl, trivial⟩, rfl⟩
       | exact ⟨(C ++ [ch], k - 1, j), by show (k - 1).toNat < k.toNat; omega, ⟨by dsimp only; rw [List.length_append]; show ((C.length + 1 : Nat) : Int) + (k - 1) ≤ 3 ∧ _; omega, okC0_app hCs hco hcl, hj⟩, ⟨rfl, rfl, rfl, rfl, rfl, trivial⟩, ⟨rfl, rfl, rfl, rfl, rfl, rfl, trivial⟩, rfl⟩
     ·(try simp only [zN] at hq6)
      refine WpG.skip ?_
      change WpG _ _ _ _ _
      refine WpG.reg ?_
      refine G.faddrB rfl ?_
      refine G.load1B rfl rfl rfl ?_
      refine G.loadNB rfl rfl rfl ?_
      refine G.bsliceF rfl rfl rfl ?_
      first
       | (change WpOpsG _ _ ((109, .fsl 6 (([(⟨u1, (u1 + 1 + u2) % (n : Int), (u3 == 0), 1 + u5, mx, 0⟩ : Ch)] : List Ch).map encC)) :: _) _ _
          obtain ⟨ch, hch, hco, hcl⟩ : ∃ ch : Ch, (⟨u1, (u1 + 1 + u2) % (n : Int), (u3 == 0), 1 + u5, mx, 0⟩ : Ch) = ch ∧ okCh (n : Int) ch ∧ ch.late = 0 := ⟨_, rfl, ch_ok (by omega) (by omega) (by omega), rfl⟩
          rw [hch])
       | (change WpOpsG _ _ ((109, .fsl 6 (([(⟨u1, (u1 + 1 + u2) % (n : Int), (u3 == 0), 0, mx, 0⟩ : Ch)] : List Ch).map encC)) :: _) _ _
          obtain ⟨ch, hch, hco, hcl⟩ : ∃ ch : Ch, (⟨u1, (u1 + 1 + u2) % (n : Int), (u3 == 0), 0, mx, 0⟩ : Ch) = ch ∧ okCh (n : Int) ch ∧ ch.late = 0 := ⟨_, rfl, ch_ok (by omega) (by omega) (by omega), rfl⟩
          rw [hch])
      refine G.app rfl rfl rfl rfl trivial (by rw [List.length_map]; show (C.length + 1) * 48 ≤ 2 ^ 47; omega) ?_
      rw [← List.map_append]
      refine G.faddrB rfl ?_
      refine G.storeB rfl rfl rfl rfl rfl rfl ?_
      refine WpOpsG.nil ?_
      change WpG _ _ _ _ _
      refine WpG.reg ?_
      refine G.mv rfl ?_
      refine G.subI rfl rfl (by omega) ?_
      refine G.mv rfl ?_
      refine WpOpsG.nil ?_
      first
       | exact ⟨(C ++ [ch], k - 1, q), by show (k - 1).toNat < k.toNat; omega, ⟨by dsimp only; rw [List.length_append]; show ((C.length + 1 : Nat) : Int) + (k - 1) ≤ 3 ∧ _; omega, okC0_app hCs hco hcl, hq⟩, ⟨rfl, rfl, rfl, rfl, rfl, trivial⟩, ⟨rfl, rfl, rfl, rfl, rfl, rfl, trivial⟩, rfl⟩
       | exact ⟨(C ++ [ch], k - 1, j), by show (k - 1).toNat < k.toNat; omega, ⟨by dsimp only; rw [List.length_append]; show ((C.length + 1 : Nat) : Int) + (k - 1) ≤ 3 ∧ _; omega, okC0_app hCs hco hcl, hj⟩, ⟨rfl, rfl, rfl, rfl, rfl, trivial⟩, ⟨rfl, rfl, rfl, rfl, rfl, rfl, trivial⟩, rfl⟩
    ·(try simp only [zN] at hq5)
     refine WpG.exit ?_
     change WpG _ _ _ _ _
     refine WpG.seq ?_
     refine WpG.seq ?_
     refine WpG.reg ?_
     refine G.mv rfl ?_
     refine G.call (P := [(0, tbox t s)]) rfl (by repeat (first | exact trivial | refine ⟨rfl, ?_⟩)) rfl rfl (next_ok t s 2 ht hi hs (by omega)) ?_
     rintro _ _ ⟨rfl, rfl⟩
     refine ⟨rfl, ?_⟩
     change WpOpsG _ _ ((113, .v (.int .i64 (nx t s 2))) :: _) ((0, tbox t (na t s 2)) :: _) _
     have ru9 := nx_rng t s 2
     obtain ⟨e, ee, he⟩ : ∃ o, na t s 2 = o ∧ o ≤ t.length := ⟨_, rfl, na_le hs⟩
     rw [ee]
     obtain ⟨u9, fu9⟩ : ∃ o, nx t s 2 = o := ⟨_, rfl⟩
     rw [fu9] at ru9 ⊢
     refine G.mv rfl ?_
     refine WpOpsG.nil ?_
     change WpG _ _ _ _ _
     refine WpG.block ?_
     refine WpG.loop (S := List (List Nd) × Int × Nat) (fun s => [(0, .bptr 0 0), (2, .bptr 10 0), (3, .bptr 11 0), (4, .v (.int .i64 (n : Int))), (12, .v (.int .i64 s.2.1))]) (fun s => [(0, tbox t s.2.2), (10, .box [.v (.slice none 0 0), .v (.slice none 0 0), .v (.slice none 0 0)]), (11, .box [.osl 1, .osl 2, .osl 23]), (1, .arr .yes 11 (X.map encX)), (2, .arr .yes 6 (C.map encC)), (23, .arr .yes 1 (s.1.map encTb))]) (fun s => ((s.1.length : Int) + s.2.1 = u9 ∧ -1 ≤ s.2.1) ∧ (∀ x ∈ s.1, x.length ≤ 2 ^ 20) ∧ s.2.2 ≤ t.length) (fun s => (s.2.1 + 1).toNat) (fun s => ⟨rfl, rfl⟩) ?_ ([], u9, e) ?_ (by repeat (first | exact trivial | refine ⟨rfl, ?_⟩)) (by repeat (first | exact trivial | refine ⟨rfl, ?_⟩)) rfl
     ·rintro ⟨tabs, k9, s2⟩ ⟨hk9, hTs, hs2⟩
      dsimp only at hk9 hTs hs2 ⊢
      refine WpG.seq ?_
      refine WpG.seq ?_
      refine WpG.reg ?_
      refine G.mv rfl ?_
      refine G.bin rfl rfl rfl ?_
      refine WpOpsG.nil ?_
      change WpG _ _ _ _ _
      refine WpG.cond rfl (fun hq7 => ?_) (fun hq7 => ?_)
      ·(try simp only [zN] at hq7)
       refine WpG.skip ?_
       change WpG _ _ _ _ _
       refine WpG.seq ?_
       refine WpG.block ?_
       refine WpG.reg ?_
       refine G.faddrB rfl ?_
       refine G.load1B rfl rfl rfl ?_
       refine G.mv rfl ?_
       refine G.mv rfl ?_
       refine G.ckcall (P := [(0, tbox t s2)]) rfl rfl (by repeat (first | exact trivial | refine ⟨rfl, ?_⟩)) rfl rfl (frame_ok t s2 (n : Int) ht hi hs2 (by omega)) ?_
       rintro _ _ ⟨tb, b2, htb, hb2, rfl, rfl⟩
       change newOk _ _ [(0, tbox t b2)] = true ∧ _
       refine ⟨rfl, ?_⟩
       change WpOpsG _ _ ((122, .fsl 3 (tb.map encD)) :: _) ((0, tbox t b2) :: _) _
       refine G.bsliceF rfl rfl rfl ?_
       change WpOpsG _ _ ((123, .fsl 1 (([tb] : List (List Nd)).map encTb)) :: _) _ _
       refine G.app rfl rfl rfl rfl trivial (by rw [List.length_map]; show (tabs.length + 1) * 24 ≤ 2 ^ 47; omega) ?_
       rw [← List.map_append]
       refine G.faddrB rfl ?_
       refine G.storeB rfl rfl rfl rfl rfl rfl ?_
       refine WpOpsG.nil ?_
       change WpG _ _ _ _ _
       refine WpG.reg ?_
       refine G.mv rfl ?_
       refine G.subI rfl rfl (by omega) ?_
       refine G.mv rfl ?_
       refine WpOpsG.nil ?_
       exact ⟨(tabs ++ [tb], k9 - 1, b2), by show (k9 - 1 + 1).toNat < (k9 + 1).toNat; omega, ⟨by dsimp only; rw [List.length_append]; show ((tabs.length + 1 : Nat) : Int) + (k9 - 1) = u9 ∧ _; omega, tabs_app hTs htb, hb2⟩, ⟨rfl, rfl, rfl, rfl, rfl, trivial⟩, ⟨rfl, rfl, rfl, rfl, rfl, rfl, trivial⟩, rfl⟩
      ·(try simp only [zN] at hq7)
       refine WpG.exit ?_
       change WpG _ _ _ _ _
       refine WpG.seq ?_
       refine WpG.freeze 23 rfl ?_
       have hXl : (X.length : Int) = (n : Int) := by omega
       refine WpG.reg ?_
       refine G.mv rfl ?_
       refine G.loadNB rfl rfl rfl ?_
       refine G.call (P := [(0, tbox t s2), (1, .arr .yes 11 (X.map encX)), (2, .arr .yes 6 (C.map encC))]) rfl (by repeat (first | exact trivial | refine ⟨rfl, ?_⟩)) rfl rfl (asksO_ok t s2 X C tabs ht hi hs2 (by omega) hXs.1 (by omega) (by rw [hXl]; exact hCs.1) (by omega) (by omega) (fun x hx => by have := hTs x hx; omega) hCs.2 hXs.2) ?_
       rintro _ _ ⟨X2, C2, b2, hX2, hC2, ⟨hb2, hho⟩, rfl, rfl⟩
       change newOk _ _ [(1, _), (2, _), (0, tbox t b2)] = true ∧ _
       refine ⟨rfl, ?_⟩
       change WpOpsG _ _ ((128, .agg [.osl 1, .osl 2, .fsl 1 (tabs.map encTb)]) :: _) ([(1, .arr .yes 11 (X2.map encX)), (2, .arr .yes 6 (C2.map encC)), (0, tbox t b2)] ++ _) _
       refine G.storeB rfl rfl rfl rfl rfl rfl ?_
       refine WpOpsG.nil ?_
       change WpG _ _ _ _ _
       refine WpG.ret ?_
       refine ⟨_, [(1, .arr .yes 11 (X2.map encX)), (2, .arr .yes 6 (C2.map encC)), (0, tbox t b2)], rfl, (hasP_le (by repeat (first | exact trivial | refine ⟨rfl, ?_⟩))), rfl, rfl, rfl, ?_⟩
       refine ⟨X2, C2, tabs, b2, ⟨⟨by omega, hX2.2⟩, ⟨by omega, ?_⟩, by omega, hTs, hho⟩, hb2, rfl, rfl⟩
       rw [hX2.1]; exact hC2.2
     ·exact ⟨by simp only [List.length_nil]; omega, fun x hx => (by cases hx), he⟩
   ·exact ⟨by simp only [List.length_nil]; omega, ⟨fun x hx => (by cases hx), fun x hx => (by cases hx)⟩, hb⟩
 ·exact ⟨Nat.zero_le _, rfl, ⟨fun c hc => (by cases hc), fun c hc => (by cases hc)⟩, ha1⟩
end Go.AM.L9
