/- Contracts of the functions that the statement reaches. No condition. -/
import Derived.Test.YthmcocmhalhbfaaK9b
import Derived.Test.YthmcocmhalhbfaaPLo
set_option linter.all false
set_option maxRecDepth 10000
namespace Go.AM.L9
open Go.AM.PL
theorem words_ok (l : List Rn) (hn : l.length ≤ 2 ^ 40) (h1 : ∀ r ∈ l, 1 ≤ r.n) (hw : wlen l ≤ 8192) : WpCallG A 29 [.fsl 2 (l.map encN)] [] (fun v H => v = .fsl 1 ((word l).map encK) ∧ H = []) := by
 refine WpCallG.intro g29 rfl rfl ?_
 unfold af29
 change WpG _ _ _ _ _
 refine WpG.seq ?_
 refine WpG.reg ?_
 refine G.mv rfl ?_
 refine WpOpsG.nil ?_
 change WpG _ _ _ _ _
 refine WpG.seq ?_
 refine WpG.reg ?_
 refine G.mv rfl ?_
 refine WpOpsG.nil ?_
 change WpG _ _ _ _ _
 refine WpG.seq ?_
 refine WpG.seq ?_
 refine WpG.reg ?_
 refine G.mv rfl ?_
 refine G.lenM rfl ?_
 refine G.mv rfl ?_
 refine WpOpsG.nil ?_
 change WpG _ _ _ _ _
 refine WpG.block ?_
 refine WpG.ownNil (g := 20) (k := 3) (w := 1) rfl rfl ?_
 refine WpG.loop (S := Nat) (fun i => [(3, .osl 20), (7, .fsl 2 (l.map encN)), (8, .v (.int .i64 (l.length : Int))), (9, .v (.int .i64 ((i : Nat) : Int)))]) (fun i => [(20, .arr .yes 1 ((word (l.take i)).map encK))]) (fun i => i ≤ l.length) (fun i => l.length - i) (fun s => ⟨rfl, rfl⟩) ?_ 0 ?_ (by repeat (first | exact trivial | refine ⟨rfl, ?_⟩)) (by repeat (first | exact trivial | refine ⟨rfl, ?_⟩)) rfl
 ·intro i hI
  refine WpG.seq ?_
  refine WpG.reg ?_
  refine G.bin rfl rfl rfl ?_
  refine WpOpsG.nil ?_
  change WpG _ _ _ _ _
  refine WpG.seq ?_
  refine WpG.cond rfl (fun hq1 => ?_) (fun hq1 => ?_)
  ·(try simp only [zN] at hq1)
   refine WpG.skip ?_
   change WpG _ _ _ _ _
   refine WpG.seq ?_
   refine WpG.block ?_
   refine WpG.seq ?_
   have hli := h1 l[i] (List.getElem_mem (by omega))
   have hws := word_snoc (l := l) (i := i) (by omega)
   have hwt : (word (l.take (i + 1))).length ≤ 8192 := by have h2 := word_take_le l (i + 1); have h3 : wlen l = ((word l).length : Int) := rfl; omega
   rw [hws, List.length_append, List.length_replicate] at hwt
   refine WpG.reg ?_
   refine G.iaddrN rfl rfl (List.getElem?_eq_getElem (by omega)) ?_
   refine G.loadNF rfl rfl ?_
   refine G.box (g := 10) rfl rfl rfl ?_
   refine G.storeB rfl rfl rfl rfl rfl rfl ?_
   refine WpOpsG.nil ?_
   change WpG _ _ _ _ _
   refine WpG.seq ?_
   refine WpG.reg ?_
   refine G.mv rfl ?_
   refine WpOpsG.nil ?_
   change WpG _ _ _ _ _
   refine WpG.block ?_
   refine WpG.loop (S := Nat) (fun j => [(3, .osl 20), (5, .bptr 10 0), (6, .v (.int .i64 ((j : Nat) : Int))), (7, .fsl 2 (l.map encN)), (8, .v (.int .i64 (l.length : Int))), (9, .v (.int .i64 ((i : Nat) : Int)))]) (fun j => [(20, .arr .yes 1 (((word (l.take i)) ++ List.replicate j l[i].p).map encK)), (10, .box (encN l[i]))]) (fun j => (j : Int) ≤ l[i].n) (fun j => l[i].n.toNat - j) (fun s => ⟨rfl, rfl⟩) ?_ 0 ?_ (by repeat (first | exact trivial | refine ⟨rfl, ?_⟩)) ⟨by rw [List.replicate_zero, List.append_nil]; rfl, rfl, trivial⟩ rfl
   ·intro j hj
    refine WpG.seq ?_
    refine WpG.seq ?_
    refine WpG.reg ?_
    refine G.mv rfl ?_
    refine G.faddrB rfl ?_
    refine G.load1B rfl rfl rfl ?_
    refine G.bin rfl rfl rfl ?_
    refine G.mv rfl ?_
    apply G.andS rfl rfl rfl rfl rfl rfl
    case hB =>
     intro hs2
     (try simp only [zN] at hs2)
     refine G.mv rfl ?_
     refine G.lenOM rfl rfl ?_
     rw [List.length_append, List.length_replicate]
     refine G.bin rfl rfl rfl ?_
     refine WpOpsG.nil ?_
     exact ⟨rfl, (by repeat (first | exact LLe.refl _ | refine LLe.cons rfl ?_)), (by repeat (first | exact HLe.refl _ | refine HLe.cons rfl ?_)), rfl⟩
    refine WpOpsG.nil ?_
    change WpG _ _ _ _ _
    refine WpG.cond rfl (fun hq3 => ?_) (fun hq3 => ?_)
    ·(try simp only [zN] at hq3)
     refine WpG.skip ?_
     change WpG _ _ _ _ _
     refine WpG.seq ?_
     refine WpG.block ?_
     refine WpG.reg ?_
     refine G.mv rfl ?_
     refine G.faddrB rfl ?_
     refine G.load1B rfl rfl rfl ?_
     refine G.bsliceF rfl rfl rfl ?_
     refine G.app rfl rfl rfl rfl trivial (by rw [List.length_map, List.length_append, List.length_replicate]; show (_ + 1) * 8 ≤ 2 ^ 47; omega) ?_
     refine G.mv rfl ?_
     refine WpOpsG.nil ?_
     change WpG _ _ _ _ _
     refine WpG.reg ?_
     refine G.mv rfl ?_
     refine G.addI rfl rfl (by omega) ?_
     refine G.mv rfl ?_
     refine WpOpsG.nil ?_
     refine ⟨j + 1, by omega, by show ((j + 1 : Nat) : Int) ≤ _; omega, ⟨rfl, rfl, rfl, rfl, rfl, rfl, trivial⟩, ⟨?_, rfl, trivial⟩, rfl⟩
     rw [List.replicate_succ', ← List.append_assoc, List.map_append (l₂ := [l[i].p])]; rfl
    ·(try simp only [zN] at hq3)
     refine WpG.exit ?_
     change WpG _ _ _ _ _
     refine WpG.reg ?_
     refine G.addI rfl rfl (by omega) ?_
     refine G.mv rfl ?_
     refine WpOpsG.nil ?_
     refine ⟨i + 1, by omega, by omega, ⟨rfl, rfl, rfl, rfl, trivial⟩, ⟨?_, trivial⟩, rfl⟩
     rw [hws, show l[i].n.toNat = j by omega]; rfl
   ·exact (by omega : ((0 : Nat) : Int) ≤ l[i].n)
  ·(try simp only [zN] at hq1)
   refine WpG.exit ?_
   change WpG _ _ _ _ _
   refine WpG.seq ?_
   rw [show l.take i = l from List.take_of_length_le (by omega)]
   refine WpG.freeze 20 rfl ?_
   refine WpG.reg ?_
   refine G.mv rfl ?_
   refine G.mv rfl ?_
   refine WpOpsG.nil ?_
   change WpG _ _ _ _ _
   refine WpG.ret ?_
   refine ⟨_, [], rfl, (hasP_le (by repeat (first | exact trivial | refine ⟨rfl, ?_⟩))), rfl, rfl, rfl, ?_⟩
   exact ⟨rfl, rfl⟩
 ·exact Nat.zero_le _
set_option maxHeartbeats 1000000 in
theorem rlate_ok (l : List Rn) (p q : Int) (hn : l.length ≤ 2 ^ 40) (h1 : ∀ r ∈ l, 1 ≤ r.n) (hw : wlen l ≤ 8192) : WpCallG A 25 [.fsl 2 (l.map encN), .v (.int .i64 p), .v (.int .i64 q)] [] (fun v H => v = .v (.int .i64 (lateV l p q)) ∧ H = []) := by
 refine WpCallG.intro g25 rfl rfl ?_
 unfold af25
 change WpG _ _ _ _ _
 refine WpG.seq ?_
 refine WpG.reg ?_
 refine G.mv rfl ?_
 refine WpOpsG.nil ?_
 change WpG _ _ _ _ _
 refine WpG.seq ?_
 refine WpG.reg ?_
 refine G.mv rfl ?_
 refine G.call0 rfl rfl (words_ok l hn h1 hw) ?_
 rintro _ _ ⟨rfl, rfl⟩
 refine ⟨rfl, ?_⟩
 change WpOpsG _ _ ((17, _) :: _) _ _
 have hwl : (word l).length ≤ 8192 := by have h3 : wlen l = ((word l).length : Int) := rfl; omega
 refine G.mv rfl ?_
 refine WpOpsG.nil ?_
 change WpG _ _ _ _ _
 refine WpG.seq ?_
 refine WpG.reg ?_
 refine G.mv rfl ?_
 refine G.mv rfl ?_
 refine G.mv rfl ?_
 refine WpOpsG.nil ?_
 change WpG _ _ _ _ _
 refine WpG.seq ?_
 refine WpG.seq ?_
 refine WpG.reg ?_
 refine G.mv rfl ?_
 refine G.lenM rfl ?_
 refine G.mv rfl ?_
 refine WpOpsG.nil ?_
 change WpG _ _ _ _ _
 refine WpG.block ?_
 refine WpG.loop (S := Nat) (fun i => [(1, .v (.int .i64 p)), (2, .v (.int .i64 q)), (7, .fsl 1 ((word l).map encK)), (8, .v (.int .i64 0)), (9, .v (.bool (((word l).take i).any (fun z => decide (z = q))))), (10, .v (.bool (((word l).take i).any (fun z => decide (z = p))))), (18, .fsl 1 ((word l).map encK)), (19, .v (.int .i64 (((word l).length : Nat) : Int))), (20, .v (.int .i64 ((i : Nat) : Int)))]) (fun _ => []) (fun i => i ≤ (word l).length) (fun i => (word l).length - i) (fun s => ⟨rfl, rfl⟩) ?_ 0 ?_ (by repeat (first | exact trivial | refine ⟨rfl, ?_⟩)) (by repeat (first | exact trivial | refine ⟨rfl, ?_⟩)) rfl
 ·intro i hI
  refine WpG.seq ?_
  refine WpG.reg ?_
  refine G.bin rfl rfl rfl ?_
  refine WpOpsG.nil ?_
  change WpG _ _ _ _ _
  refine WpG.seq ?_
  refine WpG.cond rfl (fun hq1 => ?_) (fun hq1 => ?_)
  ·(try simp only [zN] at hq1)
   refine WpG.skip ?_
   change WpG _ _ _ _ _
   refine WpG.seq ?_
   refine WpG.block ?_
   refine WpG.seq ?_
   refine WpG.reg ?_
   refine G.iaddrN rfl rfl (List.getElem?_eq_getElem (by omega)) ?_
   refine G.load1F rfl rfl ?_
   refine G.mv rfl ?_
   refine WpOpsG.nil ?_
   change WpG _ _ _ _ _
   refine WpG.reg ?_
   refine G.mv rfl ?_
   refine G.mv rfl ?_
   apply G.orS rfl rfl rfl rfl rfl rfl
   case hB =>
    intro hs2
    (try simp only [zN] at hs2)
    refine G.mv rfl ?_
    refine G.mv rfl ?_
    refine G.bin rfl rfl rfl ?_
    refine WpOpsG.nil ?_
    exact ⟨rfl, (by repeat (first | exact LLe.refl _ | refine LLe.cons rfl ?_)), (by repeat (first | exact HLe.refl _ | refine HLe.cons rfl ?_)), rfl⟩
   refine G.mv rfl ?_
   refine G.mv rfl ?_
   apply G.orS rfl rfl rfl rfl rfl rfl
   case hB =>
    intro hs3
    (try simp only [zN] at hs3)
    refine G.mv rfl ?_
    refine G.mv rfl ?_
    refine G.bin rfl rfl rfl ?_
    refine WpOpsG.nil ?_
    exact ⟨rfl, (by repeat (first | exact LLe.refl _ | refine LLe.cons rfl ?_)), (by repeat (first | exact HLe.refl _ | refine HLe.cons rfl ?_)), rfl⟩
   refine G.mv rfl ?_
   refine G.mv rfl ?_
   refine WpOpsG.nil ?_
   change WpG _ _ _ _ _
   refine WpG.reg ?_
   refine G.addI rfl rfl (by omega) ?_
   refine G.mv rfl ?_
   refine WpOpsG.nil ?_
   refine ⟨i + 1, by omega, by omega, ⟨rfl, rfl, rfl, rfl, ?_, ?_, rfl, rfl, rfl, trivial⟩, trivial, rfl⟩
   ·rw [any_take (by omega)]; rfl
   ·rw [any_take (by omega)]; rfl
  ·(try simp only [zN] at hq1)
   refine WpG.exit ?_
   change WpG _ _ _ _ _
   refine WpG.seq ?_
   refine WpG.seq ?_
   rw [show (word l).take i = (word l) from List.take_of_length_le (by omega)]
   refine WpG.reg ?_
   refine G.mv rfl ?_
   refine G.un rfl rfl ?_
   refine WpOpsG.nil ?_
   change WpG _ _ _ _ _
   refine WpG.cond rfl (fun hq4 => ?_) (fun hq4 => ?_)
   ·(try simp only [zN] at hq4)
    have hpn := hq4
    refine WpG.seq ?_
    refine WpG.reg ?_
    refine G.mv rfl ?_
    refine WpOpsG.nil ?_
    change WpG _ _ _ _ _
    refine WpG.ret ?_
    refine ⟨_, [], rfl, (hasP_le (by repeat (first | exact trivial | refine ⟨rfl, ?_⟩))), rfl, rfl, rfl, ?_⟩
    rw [late_no_p h1 (any_no hpn)]; exact ⟨rfl, rfl⟩
   ·(try simp only [zN] at hq4)
    have hpa := hq4
    refine WpG.skip ?_
    change WpG _ _ _ _ _
    refine WpG.seq ?_
    refine WpG.seq ?_
    refine WpG.reg ?_
    refine G.mv rfl ?_
    refine G.un rfl rfl ?_
    refine WpOpsG.nil ?_
    change WpG _ _ _ _ _
    refine WpG.cond rfl (fun hq5 => ?_) (fun hq5 => ?_)
    ·(try simp only [zN] at hq5)
     have hqn := hq5
     refine WpG.seq ?_
     refine WpG.reg ?_
     refine G.mv rfl ?_
     refine WpOpsG.nil ?_
     change WpG _ _ _ _ _
     refine WpG.ret ?_
     refine ⟨_, [], rfl, (hasP_le (by repeat (first | exact trivial | refine ⟨rfl, ?_⟩))), rfl, rfl, rfl, ?_⟩
     rw [late_no_q h1 (any_mem hpa) (any_no hqn)]; exact ⟨rfl, rfl⟩
    ·(try simp only [zN] at hq5)
     have hqa := hq5
     refine WpG.skip ?_
     change WpG _ _ _ _ _
     refine WpG.seq ?_
     refine WpG.seq ?_
     have hpm := any_mem hpa
     have hqm := any_mem hqa
     refine WpG.reg ?_
     refine G.mv rfl ?_
     refine G.lenM rfl ?_
     refine G.mv rfl ?_
     refine WpOpsG.nil ?_
     change WpG _ _ _ _ _
     refine WpG.block ?_
     refine WpG.loop (S := Nat × Nat) (fun s => [(1, .v (.int .i64 p)), (2, .v (.int .i64 q)), (7, .fsl 1 ((word l).map encK)), (8, .v (.int .i64 (s.2 : Int))), (41, .fsl 1 ((word l).map encK)), (42, .v (.int .i64 (((word l).length : Nat) : Int))), (43, .v (.int .i64 (s.1 : Int)))]) (fun _ => []) (fun s => s.1 ≤ (word l).length ∧ LateI (word l) p q s.1 s.2) (fun s => (word l).length - s.1) (fun s => ⟨rfl, rfl⟩) ?_ (0, 0) ?_ (by repeat (first | exact trivial | refine ⟨rfl, ?_⟩)) (by repeat (first | exact trivial | refine ⟨rfl, ?_⟩)) rfl
     ·rintro ⟨t, v⟩ ⟨ht, hv⟩
      dsimp only at ht hv ⊢
      have hvn := hv.2.2
      refine WpG.seq ?_
      refine WpG.reg ?_
      refine G.bin rfl rfl rfl ?_
      refine WpOpsG.nil ?_
      change WpG _ _ _ _ _
      refine WpG.seq ?_
      refine WpG.cond rfl (fun hq6 => ?_) (fun hq6 => ?_)
      ·(try simp only [zN] at hq6)
       refine WpG.skip ?_
       change WpG _ _ _ _ _
       refine WpG.seq ?_
       refine WpG.block ?_
       refine WpG.seq ?_
       refine WpG.reg ?_
       refine G.mv rfl ?_
       refine G.iaddrM rfl rfl (by omega) (gd17 (0 : Int) (by omega)) ?_
       rw [Int.toNat_natCast]
       refine G.load1F rfl rfl ?_
       refine G.mv rfl ?_
       refine G.mv rfl ?_
       refine WpOpsG.nil ?_
       change WpG _ _ _ _ _
       refine WpG.seq ?_
       refine WpG.seq ?_
       refine WpG.reg ?_
       refine G.mv rfl ?_
       refine G.mv rfl ?_
       refine G.bin rfl rfl rfl ?_
       refine WpOpsG.nil ?_
       change WpG _ _ _ _ _
       refine WpG.cond rfl (fun hq7 => ?_) (fun hq7 => ?_)
       ·(try simp only [zN] at hq7)
        have hskip := hq7
        refine WpG.exit ?_
        change WpG _ _ _ _ _
        refine WpG.reg ?_
        refine G.addI rfl rfl (by omega) ?_
        refine G.mv rfl ?_
        refine WpOpsG.nil ?_
        first
         | exact ⟨(t + 1, v), by show _ - (t + 1) < _ - t; omega, ⟨by dsimp only; omega, late_skip hv hskip⟩, ⟨rfl, rfl, rfl, rfl, rfl, rfl, rfl, trivial⟩, trivial, rfl⟩
         | (refine ⟨(t + 1, max v d), by show _ - (t + 1) < _ - t; omega, ⟨by dsimp only; omega, late_hit hv hhit hd1 (by omega) hd3 hfound⟩, ⟨rfl, rfl, rfl, ?_, rfl, rfl, rfl, trivial⟩, trivial, rfl⟩
            show some (GV.v (.int .i64 (max (v : Int) (d : Int)))) = some (GV.v (.int .i64 ((max v d : Nat) : Int)))
            congr 3; omega)
       ·(try simp only [zN] at hq7)
        have hhit := hq7
        refine WpG.skip ?_
        change WpG _ _ _ _ _
        refine WpG.seq ?_
        obtain ⟨D, hD1, hD2, hD3⟩ := some_d hqm t
        refine WpG.reg ?_
        refine G.mv rfl ?_
        refine WpOpsG.nil ?_
        change WpG _ _ _ _ _
        refine WpG.seq ?_
        refine WpG.block ?_
        refine WpG.loop (S := Nat) (fun d => [(1, .v (.int .i64 p)), (2, .v (.int .i64 q)), (7, .fsl 1 ((word l).map encK)), (8, .v (.int .i64 (v : Int))), (13, .v (.int .i64 (t : Int))), (15, .v (.int .i64 (d : Int))), (41, .fsl 1 ((word l).map encK)), (42, .v (.int .i64 (((word l).length : Nat) : Int))), (43, .v (.int .i64 (t : Int)))]) (fun _ => []) (fun d => 1 ≤ d ∧ d ≤ D ∧ ∀ e, 1 ≤ e → e < d → (word l).getD ((t + e) % (word l).length) 0 ≠ q) (fun d => D - d) (fun s => ⟨rfl, rfl⟩) ?_ 1 ?_ (by repeat (first | exact trivial | refine ⟨rfl, ?_⟩)) (by repeat (first | exact trivial | refine ⟨rfl, ?_⟩)) rfl
        ·rintro d ⟨hd1, hd2, hd3⟩
         refine WpG.seq ?_
         refine WpG.seq ?_
         refine WpG.reg ?_
         refine G.mv rfl ?_
         refine G.mv rfl ?_
         refine G.mv rfl ?_
         refine G.addI rfl rfl (by omega) ?_
         refine G.mv rfl ?_
         refine G.lenM rfl ?_
         refine G.remN rfl rfl (by omega) (by omega) ?_
         rw [modN]
         refine G.iaddrM rfl rfl (by omega) (gd17 (0 : Int) (Nat.mod_lt _ (by omega))) ?_
         rw [Int.toNat_natCast]
         refine G.load1F rfl rfl ?_
         refine G.mv rfl ?_
         refine G.bin rfl rfl rfl ?_
         refine WpOpsG.nil ?_
         change WpG _ _ _ _ _
         refine WpG.cond rfl (fun hq8 => ?_) (fun hq8 => ?_)
         ·(try simp only [zN] at hq8)
          have hne := hq8
          refine WpG.skip ?_
          change WpG _ _ _ _ _
          refine WpG.block ?_
          refine WpG.reg ?_
          refine G.mv rfl ?_
          refine G.addI rfl rfl (by omega) ?_
          refine G.mv rfl ?_
          refine WpOpsG.nil ?_
          have hdD : d ≠ D := fun c => hne (by rw [c]; exact hD3)
          refine ⟨d + 1, by omega, ⟨by omega, by omega, fun e h1 h2 => ?_⟩, ⟨rfl, rfl, rfl, rfl, rfl, rfl, rfl, rfl, rfl, trivial⟩, trivial, rfl⟩
          by_cases c : e = d
          ·rw [c]; exact hne
          ·exact hd3 e h1 (by omega)
         ·(try simp only [zN] at hq8)
          have hfound := hq8
          refine WpG.exit ?_
          change WpG _ _ _ _ _
          refine WpG.reg ?_
          refine G.mv rfl ?_
          refine G.mv rfl ?_
          refine G.mx rfl rfl ?_
          refine G.mv rfl ?_
          refine WpOpsG.nil ?_
          change WpG _ _ _ _ _
          refine WpG.reg ?_
          refine G.addI rfl rfl (by omega) ?_
          refine G.mv rfl ?_
          refine WpOpsG.nil ?_
          first
           | exact ⟨(t + 1, v), by show _ - (t + 1) < _ - t; omega, ⟨by dsimp only; omega, late_skip hv hskip⟩, ⟨rfl, rfl, rfl, rfl, rfl, rfl, rfl, trivial⟩, trivial, rfl⟩
           | (refine ⟨(t + 1, max v d), by show _ - (t + 1) < _ - t; omega, ⟨by dsimp only; omega, late_hit hv hhit hd1 (by omega) hd3 hfound⟩, ⟨rfl, rfl, rfl, ?_, rfl, rfl, rfl, trivial⟩, trivial, rfl⟩
              show some (GV.v (.int .i64 (max (v : Int) (d : Int)))) = some (GV.v (.int .i64 ((max v d : Nat) : Int)))
              congr 3; omega)
        ·exact ⟨Nat.le_refl _, hD1, fun e h1 h2 => by omega⟩
      ·(try simp only [zN] at hq6)
       refine WpG.exit ?_
       change WpG _ _ _ _ _
       refine WpG.seq ?_
       refine WpG.reg ?_
       refine G.mv rfl ?_
       refine G.mv rfl ?_
       refine WpOpsG.nil ?_
       change WpG _ _ _ _ _
       refine WpG.ret ?_
       refine ⟨_, [], rfl, (hasP_le (by repeat (first | exact trivial | refine ⟨rfl, ?_⟩))), rfl, rfl, rfl, ?_⟩
       rw [late_end h1 hpm hqm (by omega) ht hv]; exact ⟨rfl, rfl⟩
     ·exact ⟨Nat.zero_le _, late_0⟩
 ·exact Nat.zero_le _
set_option maxHeartbeats 1000000 in
theorem rbudget_ok (l : List Rn) (p per : Int) (hp : i64 per) (hn : l.length ≤ 2 ^ 40) (h1 : ∀ r ∈ l, 1 ≤ r.n) (hw : wlen l ≤ 8192) : WpCallG A 13 [.fsl 2 (l.map encN), .v (.int .i64 p), .v (.int .i64 per)] [] (fun v H => v = .v (.int .i64 (budV l p per)) ∧ H = []) := by
 unfold i64 at hp
 refine WpCallG.intro g13 rfl rfl ?_
 unfold af13
 change WpG _ _ _ _ _
 refine WpG.seq ?_
 refine WpG.reg ?_
 refine G.mv rfl ?_
 refine WpOpsG.nil ?_
 change WpG _ _ _ _ _
 refine WpG.seq ?_
 refine WpG.reg ?_
 refine G.mv rfl ?_
 refine G.call0 rfl rfl (words_ok l hn h1 hw) ?_
 rintro _ _ ⟨rfl, rfl⟩
 refine ⟨rfl, ?_⟩
 change WpOpsG _ _ ((14, _) :: _) _ _
 have h3 : wlen l = ((word l).length : Int) := rfl
 have hwl : (word l).length ≤ 8192 := by omega
 refine G.mv rfl ?_
 refine WpOpsG.nil ?_
 change WpG _ _ _ _ _
 refine WpG.seq ?_
 refine WpG.seq ?_
 refine WpG.reg ?_
 refine G.mv rfl ?_
 refine G.bin rfl rfl rfl ?_
 refine G.mv rfl ?_
 apply G.orS rfl rfl rfl rfl rfl rfl
 case hB =>
  intro hs1
  (try simp only [zN] at hs1)
  refine G.mv rfl ?_
  refine G.lenM rfl ?_
  refine G.bin rfl rfl rfl ?_
  refine WpOpsG.nil ?_
  exact ⟨rfl, (by repeat (first | exact LLe.refl _ | refine LLe.cons rfl ?_)), (by repeat (first | exact HLe.refl _ | refine HLe.cons rfl ?_)), rfl⟩
 refine G.mv rfl ?_
 apply G.orS rfl rfl rfl rfl rfl rfl
 case hB =>
  intro hs2
  (try simp only [zN] at hs2)
  refine G.mv rfl ?_
  refine G.lenM rfl ?_
  refine G.mv rfl ?_
  refine G.remN rfl rfl (by omega) (by omega) ?_
  refine G.bin rfl rfl rfl ?_
  refine WpOpsG.nil ?_
  exact ⟨rfl, (by repeat (first | exact LLe.refl _ | refine LLe.cons rfl ?_)), (by repeat (first | exact HLe.refl _ | refine HLe.cons rfl ?_)), rfl⟩
 refine WpOpsG.nil ?_
 change WpG _ _ _ _ _
 refine WpG.cond rfl (fun hq3 => ?_) (fun hq3 => ?_)
 ·(try simp only [zN] at hq3)
  refine WpG.seq ?_
  refine WpG.reg ?_
  refine G.mv rfl ?_
  refine WpOpsG.nil ?_
  change WpG _ _ _ _ _
  refine WpG.ret ?_
  refine ⟨_, [], rfl, (hasP_le (by repeat (first | exact trivial | refine ⟨rfl, ?_⟩))), rfl, rfl, rfl, ?_⟩
  have e : budV l p per = -1 := by unfold budV; rw [if_pos (by rw [h3]; omega)]
  rw [e]; exact ⟨rfl, rfl⟩
 ·(try simp only [zN] at hq3)
  have hne0 : 0 < (word l).length := by omega
  have hmod := hq3.2
  refine WpG.skip ?_
  change WpG _ _ _ _ _
  refine WpG.seq ?_
  obtain ⟨P, rfl⟩ : ∃ P : Nat, per = P := ⟨per.toNat, by omega⟩
  have hP1 : 1 ≤ P := by omega
  obtain ⟨m, hm⟩ := bud_m (by omega) hP1 hmod
  have hPl : P ≤ (word l).length := bud_P hm hne0
  refine WpG.reg ?_
  refine G.mv rfl ?_
  refine G.addI rfl rfl (by omega) ?_
  refine G.mv rfl ?_
  refine WpOpsG.nil ?_
  change WpG _ _ _ _ _
  refine WpG.seq ?_
  refine WpG.seq ?_
  refine WpG.reg ?_
  refine G.mv rfl ?_
  refine WpOpsG.nil ?_
  change WpG _ _ _ _ _
  refine WpG.block ?_
  refine WpG.loop (S := Nat) (fun k => [(1, .v (.int .i64 p)), (2, .v (.int .i64 (P : Int))), (7, .fsl 1 ((word l).map encK)), (8, .v (.int .i64 (budR l p P k))), (9, .v (.int .i64 ((P * k : Nat) : Int)))]) (fun _ => []) (fun k => k ≤ m) (fun k => m - k) (fun s => ⟨rfl, rfl⟩) ?_ 0 ?_ ⟨rfl, rfl, rfl, rfl, by rw [Nat.mul_zero]; rfl, trivial⟩ (by repeat (first | exact trivial | refine ⟨rfl, ?_⟩)) rfl
  ·intro k hk
   have hbr := budR_rng l p P k
   refine WpG.seq ?_
   refine WpG.seq ?_
   refine WpG.reg ?_
   refine G.mv rfl ?_
   refine G.mv rfl ?_
   refine G.lenM rfl ?_
   refine G.bin rfl rfl rfl ?_
   refine WpOpsG.nil ?_
   change WpG _ _ _ _ _
   refine WpG.cond rfl (fun hq4 => ?_) (fun hq4 => ?_)
   ·(try simp only [zN] at hq4)
    refine WpG.skip ?_
    change WpG _ _ _ _ _
    refine WpG.seq ?_
    refine WpG.block ?_
    refine WpG.seq ?_
    refine WpG.reg ?_
    refine G.mv rfl ?_
    refine WpOpsG.nil ?_
    change WpG _ _ _ _ _
    refine WpG.seq ?_
    refine WpG.seq ?_
    have hkm : k < m := bud_lt hP1 (by rw [← hm]; omega)
    have hk1 : P * k + P ≤ (word l).length := bud_le hm hkm
    refine WpG.reg ?_
    refine G.mv rfl ?_
    refine G.mv rfl ?_
    refine G.mv rfl ?_
    refine G.mv rfl ?_
    refine G.addI rfl rfl (by omega) ?_
    rw [show ((P * k : Nat) : Int) + (P : Int) = ((P * k + P : Nat) : Int) by omega]
    refine G.slMid (n := P * k) (m := P * k + P) rfl rfl rfl (by omega) (by omega) ?_
    change WpOpsG _ _ ((43, .fsl 1 ((((word l).take (P * k + P)).drop (P * k)).map encK)) :: _) _ _
    obtain ⟨S, hS⟩ : ∃ S, ((word l).take (P * k + P)).drop (P * k) = S := ⟨_, rfl⟩
    have hSl : S.length = P := by rw [← hS, List.length_drop, List.length_take]; omega
    rw [hS]
    refine G.lenM rfl ?_
    refine G.mv rfl ?_
    refine WpOpsG.nil ?_
    change WpG _ _ _ _ _
    refine WpG.block ?_
    refine WpG.loop (S := Nat) (fun j => [(1, .v (.int .i64 p)), (2, .v (.int .i64 (P : Int))), (7, .fsl 1 ((word l).map encK)), (8, .v (.int .i64 (budR l p P k))), (9, .v (.int .i64 ((P * k : Nat) : Int))), (10, .v (.int .i64 (((S.take j).count p : Nat) : Int))), (43, .fsl 1 (S.map encK)), (44, .v (.int .i64 (S.length : Int))), (45, .v (.int .i64 (j : Int)))]) (fun _ => []) (fun j => j ≤ S.length) (fun j => S.length - j) (fun s => ⟨rfl, rfl⟩) ?_ 0 ?_ (by repeat (first | exact trivial | refine ⟨rfl, ?_⟩)) (by repeat (first | exact trivial | refine ⟨rfl, ?_⟩)) rfl
    ·intro j hj
     have hcl : (S.take j).count p ≤ S.length := Nat.le_trans List.count_le_length (by rw [List.length_take]; omega)
     refine WpG.seq ?_
     refine WpG.reg ?_
     refine G.bin rfl rfl rfl ?_
     refine WpOpsG.nil ?_
     change WpG _ _ _ _ _
     refine WpG.seq ?_
     refine WpG.cond rfl (fun hq5 => ?_) (fun hq5 => ?_)
     ·(try simp only [zN] at hq5)
      refine WpG.skip ?_
      change WpG _ _ _ _ _
      refine WpG.seq ?_
      refine WpG.block ?_
      refine WpG.seq ?_
      refine WpG.reg ?_
      refine G.iaddrN rfl rfl (List.getElem?_eq_getElem (by omega)) ?_
      refine G.load1F rfl rfl ?_
      refine G.mv rfl ?_
      refine WpOpsG.nil ?_
      change WpG _ _ _ _ _
      refine WpG.seq ?_
      refine WpG.reg ?_
      refine G.mv rfl ?_
      refine G.mv rfl ?_
      refine G.bin rfl rfl rfl ?_
      refine WpOpsG.nil ?_
      change WpG _ _ _ _ _
      refine WpG.cond rfl (fun hq6 => ?_) (fun hq6 => ?_)
      ·(try simp only [zN] at hq6)
       refine WpG.reg ?_
       refine G.mv rfl ?_
       refine G.addI rfl rfl (by omega) ?_
       refine G.mv rfl ?_
       refine WpOpsG.nil ?_
       change WpG _ _ _ _ _
       refine WpG.reg ?_
       refine G.addI rfl rfl (by omega) ?_
       refine G.mv rfl ?_
       refine WpOpsG.nil ?_
       refine ⟨j + 1, by omega, by omega, ⟨rfl, rfl, rfl, rfl, rfl, ?_, rfl, rfl, rfl, trivial⟩, trivial, rfl⟩
       rw [count_take (by omega)]
       first
        | (rw [if_pos (by omega), Int.natCast_add]; rfl)
        | (rw [if_neg (by omega)]; rfl)
      ·(try simp only [zN] at hq6)
       refine WpG.skip ?_
       change WpG _ _ _ _ _
       refine WpG.reg ?_
       refine G.addI rfl rfl (by omega) ?_
       refine G.mv rfl ?_
       refine WpOpsG.nil ?_
       refine ⟨j + 1, by omega, by omega, ⟨rfl, rfl, rfl, rfl, rfl, ?_, rfl, rfl, rfl, trivial⟩, trivial, rfl⟩
       rw [count_take (by omega)]
       first
        | (rw [if_pos (by omega), Int.natCast_add]; rfl)
        | (rw [if_neg (by omega)]; rfl)
     ·(try simp only [zN] at hq5)
      refine WpG.exit ?_
      change WpG _ _ _ _ _
      rw [show S.take j = S from List.take_of_length_le (by omega)]
      refine WpG.reg ?_
      refine G.mv rfl ?_
      refine G.mv rfl ?_
      refine G.mn rfl rfl ?_
      refine G.mv rfl ?_
      refine WpOpsG.nil ?_
      change WpG _ _ _ _ _
      refine WpG.reg ?_
      refine G.mv rfl ?_
      refine G.mv rfl ?_
      refine G.addI rfl rfl (by omega) ?_
      refine G.mv rfl ?_
      refine WpOpsG.nil ?_
      refine ⟨k + 1, by omega, by omega, ⟨rfl, rfl, rfl, ?_, ?_, trivial⟩, trivial, rfl⟩
      ·show _ = some (GV.v (.int .i64 (min (budR l p P k) (cntW l p (P * k) P : Int))))
       unfold cntW
       rw [hS]; rfl
      ·rw [show ((P * (k + 1) : Nat) : Int) = ((P * k : Nat) : Int) + (P : Int) by rw [Nat.mul_add, Nat.mul_one]; omega]; rfl
    ·exact Nat.zero_le _
   ·(try simp only [zN] at hq4)
    refine WpG.exit ?_
    change WpG _ _ _ _ _
    refine WpG.seq ?_
    have hkm : k = m := bud_eq hP1 hk (by rw [← hm]; omega)
    refine WpG.reg ?_
    refine G.mv rfl ?_
    refine G.mv rfl ?_
    refine WpOpsG.nil ?_
    change WpG _ _ _ _ _
    refine WpG.ret ?_
    refine ⟨_, [], rfl, (hasP_le (by repeat (first | exact trivial | refine ⟨rfl, ?_⟩))), rfl, rfl, rfl, ?_⟩
    rw [bud_end h1 hP1 hm hne0 hkm]; exact ⟨rfl, rfl⟩
  ·exact Nat.zero_le _
theorem rholds_ok (C : List Ch) (P : List Pt) (ts : List (List GV)) (l : List Rn) (hC : C.length ≤ 2 ^ 50) (hP : P.length ≤ 2 ^ 50) (hPp : ∀ p ∈ P, i64 p.per) (hn : l.length ≤ 2 ^ 40) (h1 : ∀ r ∈ l, 1 ≤ r.n) (hw : wlen l ≤ 8192) : WpCallG A 17 [.agg [.fsl 11 (P.map encP), .fsl 6 (C.map encC), .fsl 1 ts], .fsl 2 (l.map encN)] [] (fun v H => v = .v (.int .i64 (holdV C P l)) ∧ H = []) := by
 refine WpCallG.intro g17 rfl rfl ?_
 unfold af17
 change WpG _ _ _ _ _
 refine WpG.seq ?_
 refine WpG.reg ?_
 refine G.box (g := 10) rfl rfl rfl ?_
 refine G.mv rfl ?_
 refine WpOpsG.nil ?_
 change WpG _ _ _ _ _
 refine WpG.seq ?_
 refine WpG.seq ?_
 refine WpG.reg ?_
 refine G.faddrB rfl ?_
 refine G.load1B rfl rfl rfl ?_
 refine G.lenM rfl ?_
 refine G.mv rfl ?_
 refine WpOpsG.nil ?_
 change WpG _ _ _ _ _
 refine WpG.block ?_
 refine WpG.loop (S := Nat) (fun i => [(1, .fsl 2 (l.map encN)), (2, .bptr 10 0), (11, .fsl 6 (C.map encC)), (12, .v (.int .i64 (C.length : Int))), (13, .v (.int .i64 (i : Int)))]) (fun i => [(10, .box [.fsl 11 (P.map encP), .fsl 6 (C.map encC), .fsl 1 ts])]) (fun i => i ≤ C.length ∧ (C.take i).any (lateBad l) = false) (fun i => C.length - i) (fun s => ⟨rfl, rfl⟩) ?_ 0 ?_ (by repeat (first | exact trivial | refine ⟨rfl, ?_⟩)) (by repeat (first | exact trivial | refine ⟨rfl, ?_⟩)) rfl
 ·rintro i ⟨hI, hA⟩
  refine WpG.seq ?_
  refine WpG.reg ?_
  refine G.bin rfl rfl rfl ?_
  refine WpOpsG.nil ?_
  change WpG _ _ _ _ _
  refine WpG.seq ?_
  refine WpG.cond rfl (fun hq1 => ?_) (fun hq1 => ?_)
  ·(try simp only [zN] at hq1)
   refine WpG.skip ?_
   change WpG _ _ _ _ _
   refine WpG.seq ?_
   refine WpG.block ?_
   refine WpG.seq ?_
   refine WpG.reg ?_
   refine G.iaddrN rfl rfl (List.getElem?_eq_getElem (by omega)) ?_
   refine G.loadNF rfl rfl ?_
   refine G.box (g := 11) rfl rfl rfl ?_
   refine G.storeB rfl rfl rfl rfl rfl rfl ?_
   refine WpOpsG.nil ?_
   change WpG _ _ _ _ _
   refine WpG.seq ?_
   refine WpG.reg ?_
   refine G.mv rfl ?_
   refine G.faddrB rfl ?_
   refine G.load1B rfl rfl rfl ?_
   refine G.faddrB rfl ?_
   refine G.load1B rfl rfl rfl ?_
   refine G.call0 rfl rfl (rlate_ok l C[i].fr C[i].to hn h1 hw) ?_
   rintro _ _ ⟨rfl, rfl⟩
   refine ⟨rfl, ?_⟩
   change WpOpsG _ _ ((22, _) :: _) _ _
   have hge := late_ge h1 C[i].fr C[i].to
   refine G.mv rfl ?_
   refine WpOpsG.nil ?_
   change WpG _ _ _ _ _
   refine WpG.seq ?_
   refine WpG.reg ?_
   refine G.faddrB rfl ?_
   refine G.load1B rfl rfl rfl ?_
   refine G.bin rfl rfl rfl ?_
   refine G.mv rfl ?_
   apply G.andS rfl rfl rfl rfl rfl rfl
   case hB =>
    intro hs2
    (try simp only [zN] at hs2)
    refine G.mv rfl ?_
    refine G.bin rfl rfl rfl ?_
    refine G.mv rfl ?_
    apply G.orS rfl rfl rfl rfl rfl rfl
    case hB =>
     intro hs3
     (try simp only [zN] at hs3)
     refine G.mv rfl ?_
     refine G.faddrB rfl ?_
     refine G.load1B rfl rfl rfl ?_
     refine G.bin rfl rfl rfl ?_
     refine WpOpsG.nil ?_
     exact ⟨rfl, (by repeat (first | exact LLe.refl _ | refine LLe.cons rfl ?_)), (by repeat (first | exact HLe.refl _ | refine HLe.cons rfl ?_)), rfl⟩
    refine WpOpsG.nil ?_
    exact ⟨rfl, (by repeat (first | exact LLe.refl _ | refine LLe.cons rfl ?_)), (by repeat (first | exact HLe.refl _ | refine HLe.cons rfl ?_)), rfl⟩
   refine WpOpsG.nil ?_
   change WpG _ _ _ _ _
   refine WpG.cond rfl (fun hq4 => ?_) (fun hq4 => ?_)
   ·(try simp only [zN] at hq4)
    refine WpG.seq ?_
    refine WpG.reg ?_
    refine G.mv rfl ?_
    refine WpOpsG.nil ?_
    change WpG _ _ _ _ _
    refine WpG.ret ?_
    refine ⟨_, [], rfl, (hasP_le (by repeat (first | exact trivial | refine ⟨rfl, ?_⟩))), rfl, rfl, rfl, ?_⟩
    have hLB : lateBad l C[i] = true := by
     unfold lateBad
     rw [Bool.and_eq_true, Bool.or_eq_true, decide_eq_true_eq, decide_eq_true_eq, beq_iff_eq]; omega
    rw [hold_late (P := P) (i := i) (by omega) hLB]; exact ⟨rfl, rfl⟩
   ·(try simp only [zN] at hq4)
    refine WpG.skip ?_
    change WpG _ _ _ _ _
    refine WpG.reg ?_
    refine G.addI rfl rfl (by omega) ?_
    refine G.mv rfl ?_
    refine WpOpsG.nil ?_
    refine ⟨i + 1, by omega, ⟨by omega, ?_⟩, ⟨rfl, rfl, rfl, rfl, rfl, trivial⟩, ⟨rfl, trivial⟩, rfl⟩
    rw [any_take (by omega), hA, Bool.false_or]
    unfold lateBad
    rw [Bool.and_eq_false_iff, Bool.or_eq_false_iff, decide_eq_false_iff_not, decide_eq_false_iff_not, beq_eq_false_iff_ne]
    omega
  ·(try simp only [zN] at hq1)
   refine WpG.exit ?_
   change WpG _ _ _ _ _
   refine WpG.seq ?_
   refine WpG.seq ?_
   have hAll : C.any (lateBad l) = false := by rw [List.take_of_length_le (by omega)] at hA; exact hA
   refine WpG.reg ?_
   refine G.faddrB rfl ?_
   refine G.load1B rfl rfl rfl ?_
   refine G.lenM rfl ?_
   refine G.mv rfl ?_
   refine WpOpsG.nil ?_
   change WpG _ _ _ _ _
   refine WpG.block ?_
   refine WpG.loop (S := Nat) (fun i => [(1, .fsl 2 (l.map encN)), (38, .fsl 11 (P.map encP)), (39, .v (.int .i64 (P.length : Int))), (40, .v (.int .i64 (i : Int)))]) (fun _ => []) (fun i => i ≤ P.length ∧ ∀ k (h : k < P.length), k < i → shortBad l k P[k] = false) (fun i => P.length - i) (fun s => ⟨rfl, rfl⟩) ?_ 0 ?_ (by repeat (first | exact trivial | refine ⟨rfl, ?_⟩)) (by repeat (first | exact trivial | refine ⟨rfl, ?_⟩)) rfl
   ·rintro i ⟨hI, hS⟩
    refine WpG.seq ?_
    refine WpG.reg ?_
    refine G.bin rfl rfl rfl ?_
    refine WpOpsG.nil ?_
    change WpG _ _ _ _ _
    refine WpG.seq ?_
    refine WpG.cond rfl (fun hq5 => ?_) (fun hq5 => ?_)
    ·(try simp only [zN] at hq5)
     refine WpG.skip ?_
     change WpG _ _ _ _ _
     refine WpG.seq ?_
     refine WpG.block ?_
     refine WpG.seq ?_
     refine WpG.reg ?_
     refine G.mv rfl ?_
     refine G.iaddrN rfl rfl (List.getElem?_eq_getElem (by omega)) ?_
     refine G.loadNF rfl rfl ?_
     refine G.box (g := 12) rfl rfl rfl ?_
     refine G.mv rfl ?_
     refine G.storeB rfl rfl rfl rfl rfl rfl ?_
     refine WpOpsG.nil ?_
     change WpG _ _ _ _ _
     refine WpG.seq ?_
     refine WpG.reg ?_
     refine G.faddrB rfl ?_
     refine G.load1B rfl rfl rfl ?_
     refine G.bin rfl rfl rfl ?_
     refine G.mv rfl ?_
     apply G.andS rfl rfl rfl rfl rfl rfl
     case hB =>
      intro hs6
      (try simp only [zN] at hs6)
      refine G.mv rfl ?_
      refine G.mv rfl ?_
      refine G.faddrB rfl ?_
      refine G.load1B rfl rfl rfl ?_
      refine G.faddrB rfl ?_
      refine G.load1B rfl rfl rfl ?_
      refine G.ckcall0 rfl rfl rfl (rbudget_ok l (i : Int) P[i].per (hPp _ (List.getElem_mem (by omega))) hn h1 hw) ?_
      rintro _ _ ⟨rfl, rfl⟩
      refine ⟨rfl, ?_⟩
      change WpOpsG _ _ ((53, _) :: _) _ _
      refine G.bin rfl rfl rfl ?_
      refine WpOpsG.nil ?_
      exact ⟨rfl, (by repeat (first | exact LLe.refl _ | refine LLe.cons rfl ?_)), (by repeat (first | exact HLe.refl _ | refine HLe.cons rfl ?_)), rfl⟩
     refine WpOpsG.nil ?_
     change WpG _ _ _ _ _
     refine WpG.cond rfl (fun hq7 => ?_) (fun hq7 => ?_)
     ·(try simp only [zN] at hq7)
      refine WpG.seq ?_
      refine WpG.reg ?_
      refine G.mv rfl ?_
      refine WpOpsG.nil ?_
      change WpG _ _ _ _ _
      refine WpG.ret ?_
      refine ⟨_, [], rfl, (hasP_le (by repeat (first | exact trivial | refine ⟨rfl, ?_⟩))), rfl, rfl, rfl, ?_⟩
      have hSB : shortBad l i P[i] = true := by unfold shortBad; rw [Bool.and_eq_true, decide_eq_true_eq, decide_eq_true_eq]; omega
      rw [hold_short hAll (i := i) (by omega) hSB]; exact ⟨rfl, rfl⟩
     ·(try simp only [zN] at hq7)
      refine WpG.skip ?_
      change WpG _ _ _ _ _
      refine WpG.reg ?_
      refine G.addI rfl rfl (by omega) ?_
      refine G.mv rfl ?_
      refine WpOpsG.nil ?_
      refine ⟨i + 1, by omega, ⟨by omega, fun k hk hki => ?_⟩, ⟨rfl, rfl, rfl, rfl, trivial⟩, trivial, rfl⟩
      by_cases c : k = i
      ·subst c; unfold shortBad; rw [Bool.and_eq_false_iff, decide_eq_false_iff_not, decide_eq_false_iff_not]; omega
      ·exact hS k hk (by omega)
    ·(try simp only [zN] at hq5)
     refine WpG.exit ?_
     change WpG _ _ _ _ _
     refine WpG.seq ?_
     refine WpG.reg ?_
     refine G.mv rfl ?_
     refine WpOpsG.nil ?_
     change WpG _ _ _ _ _
     refine WpG.ret ?_
     refine ⟨_, [], rfl, (hasP_le (by repeat (first | exact trivial | refine ⟨rfl, ?_⟩))), rfl, rfl, rfl, ?_⟩
     rw [hold_ok hAll (fun k hk => hS k hk (by omega))]; exact ⟨rfl, rfl⟩
   ·exact ⟨Nat.zero_le _, fun k _ h => by omega⟩
 ·exact ⟨Nat.zero_le _, rfl⟩
end Go.AM.L9
