/- Contracts of the functions that the statement reaches. No condition. -/
import Derived.Test.YtnkbbfnloecbcaaC3d
set_option linter.all false
set_option maxRecDepth 10000
namespace Go.AM.L3
open Go.AM.PL
theorem fine_ok (x : Nd) : WpCallG A 32 [.agg (encD x)] [] (fun v H => v = .v (.bool (decide (0 ≤ kidV x))) ∧ H = []) := by
 refine WpCallG.intro g32 rfl rfl ?_
 unfold af32
 change WpG _ _ _ _ _
 refine WpG.seq ?_
 refine WpG.reg ?_
 refine G.box (g := 10) rfl rfl rfl ?_
 refine G.mv rfl ?_
 refine WpOpsG.nil ?_
 change WpG _ _ _ _ _
 refine WpG.seq ?_
 refine WpG.seq ?_
 refine WpG.reg ?_
 refine G.faddrB rfl ?_
 refine G.load1B rfl rfl rfl ?_
 refine WpOpsG.nil ?_
 change WpG _ _ _ _ _
 refine WpG.block ?_
 refine WpG.seq ?_
 refine WpG.reg ?_
 refine G.bin rfl rfl rfl ?_
 refine G.mv rfl ?_
 refine WpOpsG.nil ?_
 change WpG _ _ _ _ _
 refine WpG.cond rfl (fun hq1 => ?_) (fun hq1 => ?_)
 ·(try simp only [zN] at hq1)
  refine WpG.seq ?_
  refine WpG.reg ?_
  refine G.faddrB rfl ?_
  refine G.load1B rfl rfl rfl ?_
  refine G.bin rfl rfl rfl ?_
  refine G.mv rfl ?_
  apply G.andS rfl rfl rfl rfl rfl rfl
  case hB =>
   intro hs2
   (try simp only [zN] at hs2)
   refine G.faddrB rfl ?_
   refine G.load1B rfl rfl rfl ?_
   refine G.bin rfl rfl rfl ?_
   refine WpOpsG.nil ?_
   exact ⟨rfl, (by repeat (first | exact LLe.refl _ | refine LLe.cons rfl ?_)), (by repeat (first | exact HLe.refl _ | refine HLe.cons rfl ?_)), rfl⟩
  refine G.mv rfl ?_
  apply G.andS rfl rfl rfl rfl rfl rfl
  case hB =>
   intro hs3
   (try simp only [zN] at hs3)
   refine G.faddrB rfl ?_
   refine G.load1B rfl rfl rfl ?_
   refine G.bin rfl rfl rfl ?_
   refine WpOpsG.nil ?_
   exact ⟨rfl, (by repeat (first | exact LLe.refl _ | refine LLe.cons rfl ?_)), (by repeat (first | exact HLe.refl _ | refine HLe.cons rfl ?_)), rfl⟩
  refine G.mv rfl ?_
  refine WpOpsG.nil ?_
  change WpG _ _ _ _ _
  refine WpG.ret ?_
  refine ⟨_, [], rfl, (hasP_le (by repeat (first | exact trivial | refine ⟨rfl, ?_⟩))), rfl, rfl, rfl, ?_⟩
  first
   | (exfalso; omega)
   | (refine ⟨?_, rfl⟩
      show GV.v (.bool _) = GV.v (.bool _)
      congr 2
      rw [Bool.eq_iff_iff]
      simp only [Bool.and_eq_true, decide_eq_true_eq, beq_iff_eq]
      unfold kidV
      (repeat' split) <;> first | omega | simp_all)
   | (have e : decide (0 ≤ kidV x) = false := by
       rw [decide_eq_false_iff_not]; unfold kidV; (repeat' split) <;> omega
      rw [e]; exact ⟨rfl, rfl⟩)
 ·(try simp only [zN] at hq1)
  refine WpG.seq ?_
  refine WpG.seq ?_
  refine WpG.reg ?_
  refine G.bin rfl rfl rfl ?_
  refine G.mv rfl ?_
  refine WpOpsG.nil ?_
  change WpG _ _ _ _ _
  refine WpG.cond rfl (fun hq4 => ?_) (fun hq4 => ?_)
  ·(try simp only [zN] at hq4)
   refine WpG.skip ?_
   change WpG _ _ _ _ _
   refine WpG.cond rfl (fun hq5 => ?_) (fun hq5 => ?_)
   ·(try simp only [zN] at hq5)
    refine WpG.seq ?_
    refine WpG.reg ?_
    refine G.faddrB rfl ?_
    refine G.load1B rfl rfl rfl ?_
    refine G.bin rfl rfl rfl ?_
    refine G.mv rfl ?_
    apply G.andS rfl rfl rfl rfl rfl rfl
    case hB =>
     intro hs6
     (try simp only [zN] at hs6)
     refine G.faddrB rfl ?_
     refine G.load1B rfl rfl rfl ?_
     refine G.bin rfl rfl rfl ?_
     refine WpOpsG.nil ?_
     exact ⟨rfl, (by repeat (first | exact LLe.refl _ | refine LLe.cons rfl ?_)), (by repeat (first | exact HLe.refl _ | refine HLe.cons rfl ?_)), rfl⟩
    refine G.mv rfl ?_
    refine WpOpsG.nil ?_
    change WpG _ _ _ _ _
    refine WpG.ret ?_
    refine ⟨_, [], rfl, (hasP_le (by repeat (first | exact trivial | refine ⟨rfl, ?_⟩))), rfl, rfl, rfl, ?_⟩
    first
     | (exfalso; omega)
     | (refine ⟨?_, rfl⟩
        show GV.v (.bool _) = GV.v (.bool _)
        congr 2
        rw [Bool.eq_iff_iff]
        simp only [Bool.and_eq_true, decide_eq_true_eq, beq_iff_eq]
        unfold kidV
        (repeat' split) <;> first | omega | simp_all)
     | (have e : decide (0 ≤ kidV x) = false := by
         rw [decide_eq_false_iff_not]; unfold kidV; (repeat' split) <;> omega
        rw [e]; exact ⟨rfl, rfl⟩)
   ·(try simp only [zN] at hq5)
    refine WpG.seq ?_
    refine WpG.reg ?_
    refine G.bin rfl rfl rfl ?_
    refine G.mv rfl ?_
    refine WpOpsG.nil ?_
    change WpG _ _ _ _ _
    refine WpG.cond rfl (fun hq7 => ?_) (fun hq7 => ?_)
    ·(try simp only [zN] at hq7)
     refine WpG.seq ?_
     refine WpG.reg ?_
     refine G.faddrB rfl ?_
     refine G.load1B rfl rfl rfl ?_
     refine G.bin rfl rfl rfl ?_
     refine G.mv rfl ?_
     apply G.andS rfl rfl rfl rfl rfl rfl
     case hB =>
      intro hs8
      (try simp only [zN] at hs8)
      refine G.faddrB rfl ?_
      refine G.load1B rfl rfl rfl ?_
      refine G.bin rfl rfl rfl ?_
      refine WpOpsG.nil ?_
      exact ⟨rfl, (by repeat (first | exact LLe.refl _ | refine LLe.cons rfl ?_)), (by repeat (first | exact HLe.refl _ | refine HLe.cons rfl ?_)), rfl⟩
     refine G.mv rfl ?_
     apply G.andS rfl rfl rfl rfl rfl rfl
     case hB =>
      intro hs9
      (try simp only [zN] at hs9)
      refine G.faddrB rfl ?_
      refine G.load1B rfl rfl rfl ?_
      refine G.bin rfl rfl rfl ?_
      refine WpOpsG.nil ?_
      exact ⟨rfl, (by repeat (first | exact LLe.refl _ | refine LLe.cons rfl ?_)), (by repeat (first | exact HLe.refl _ | refine HLe.cons rfl ?_)), rfl⟩
     refine G.mv rfl ?_
     refine WpOpsG.nil ?_
     change WpG _ _ _ _ _
     refine WpG.ret ?_
     refine ⟨_, [], rfl, (hasP_le (by repeat (first | exact trivial | refine ⟨rfl, ?_⟩))), rfl, rfl, rfl, ?_⟩
     first
      | (exfalso; omega)
      | (refine ⟨?_, rfl⟩
         show GV.v (.bool _) = GV.v (.bool _)
         congr 2
         rw [Bool.eq_iff_iff]
         simp only [Bool.and_eq_true, decide_eq_true_eq, beq_iff_eq]
         unfold kidV
         (repeat' split) <;> first | omega | simp_all)
      | (have e : decide (0 ≤ kidV x) = false := by
          rw [decide_eq_false_iff_not]; unfold kidV; (repeat' split) <;> omega
         rw [e]; exact ⟨rfl, rfl⟩)
    ·(try simp only [zN] at hq7)
     refine WpG.skip ?_
     change WpG _ _ _ _ _
     refine WpG.seq ?_
     refine WpG.reg ?_
     refine G.mv rfl ?_
     refine WpOpsG.nil ?_
     change WpG _ _ _ _ _
     refine WpG.ret ?_
     refine ⟨_, [], rfl, (hasP_le (by repeat (first | exact trivial | refine ⟨rfl, ?_⟩))), rfl, rfl, rfl, ?_⟩
     first
      | (exfalso; omega)
      | (refine ⟨?_, rfl⟩
         show GV.v (.bool _) = GV.v (.bool _)
         congr 2
         rw [Bool.eq_iff_iff]
         simp only [Bool.and_eq_true, decide_eq_true_eq, beq_iff_eq]
         unfold kidV
         (repeat' split) <;> first | omega | simp_all)
      | (have e : decide (0 ≤ kidV x) = false := by
          rw [decide_eq_false_iff_not]; unfold kidV; (repeat' split) <;> omega
         rw [e]; exact ⟨rfl, rfl⟩)
  ·(try simp only [zN] at hq4)
   refine WpG.reg ?_
   refine G.bin rfl rfl rfl ?_
   refine G.mv rfl ?_
   refine WpOpsG.nil ?_
   change WpG _ _ _ _ _
   refine WpG.cond rfl (fun hq10 => ?_) (fun hq10 => ?_)
   ·(try simp only [zN] at hq10)
    refine WpG.seq ?_
    refine WpG.reg ?_
    refine G.faddrB rfl ?_
    refine G.load1B rfl rfl rfl ?_
    refine G.bin rfl rfl rfl ?_
    refine G.mv rfl ?_
    apply G.andS rfl rfl rfl rfl rfl rfl
    case hB =>
     intro hs11
     (try simp only [zN] at hs11)
     refine G.faddrB rfl ?_
     refine G.load1B rfl rfl rfl ?_
     refine G.bin rfl rfl rfl ?_
     refine WpOpsG.nil ?_
     exact ⟨rfl, (by repeat (first | exact LLe.refl _ | refine LLe.cons rfl ?_)), (by repeat (first | exact HLe.refl _ | refine HLe.cons rfl ?_)), rfl⟩
    refine G.mv rfl ?_
    refine WpOpsG.nil ?_
    change WpG _ _ _ _ _
    refine WpG.ret ?_
    refine ⟨_, [], rfl, (hasP_le (by repeat (first | exact trivial | refine ⟨rfl, ?_⟩))), rfl, rfl, rfl, ?_⟩
    first
     | (exfalso; omega)
     | (refine ⟨?_, rfl⟩
        show GV.v (.bool _) = GV.v (.bool _)
        congr 2
        rw [Bool.eq_iff_iff]
        simp only [Bool.and_eq_true, decide_eq_true_eq, beq_iff_eq]
        unfold kidV
        (repeat' split) <;> first | omega | simp_all)
     | (have e : decide (0 ≤ kidV x) = false := by
         rw [decide_eq_false_iff_not]; unfold kidV; (repeat' split) <;> omega
        rw [e]; exact ⟨rfl, rfl⟩)
   ·(try simp only [zN] at hq10)
    refine WpG.seq ?_
    refine WpG.reg ?_
    refine G.bin rfl rfl rfl ?_
    refine G.mv rfl ?_
    refine WpOpsG.nil ?_
    change WpG _ _ _ _ _
    refine WpG.cond rfl (fun hq12 => ?_) (fun hq12 => ?_)
    ·(try simp only [zN] at hq12)
     refine WpG.seq ?_
     refine WpG.reg ?_
     refine G.faddrB rfl ?_
     refine G.load1B rfl rfl rfl ?_
     refine G.bin rfl rfl rfl ?_
     refine G.mv rfl ?_
     apply G.andS rfl rfl rfl rfl rfl rfl
     case hB =>
      intro hs13
      (try simp only [zN] at hs13)
      refine G.faddrB rfl ?_
      refine G.load1B rfl rfl rfl ?_
      refine G.bin rfl rfl rfl ?_
      refine WpOpsG.nil ?_
      exact ⟨rfl, (by repeat (first | exact LLe.refl _ | refine LLe.cons rfl ?_)), (by repeat (first | exact HLe.refl _ | refine HLe.cons rfl ?_)), rfl⟩
     refine G.mv rfl ?_
     apply G.andS rfl rfl rfl rfl rfl rfl
     case hB =>
      intro hs14
      (try simp only [zN] at hs14)
      refine G.faddrB rfl ?_
      refine G.load1B rfl rfl rfl ?_
      refine G.bin rfl rfl rfl ?_
      refine WpOpsG.nil ?_
      exact ⟨rfl, (by repeat (first | exact LLe.refl _ | refine LLe.cons rfl ?_)), (by repeat (first | exact HLe.refl _ | refine HLe.cons rfl ?_)), rfl⟩
     refine G.mv rfl ?_
     refine WpOpsG.nil ?_
     change WpG _ _ _ _ _
     refine WpG.ret ?_
     refine ⟨_, [], rfl, (hasP_le (by repeat (first | exact trivial | refine ⟨rfl, ?_⟩))), rfl, rfl, rfl, ?_⟩
     first
      | (exfalso; omega)
      | (refine ⟨?_, rfl⟩
         show GV.v (.bool _) = GV.v (.bool _)
         congr 2
         rw [Bool.eq_iff_iff]
         simp only [Bool.and_eq_true, decide_eq_true_eq, beq_iff_eq]
         unfold kidV
         (repeat' split) <;> first | omega | simp_all)
      | (have e : decide (0 ≤ kidV x) = false := by
          rw [decide_eq_false_iff_not]; unfold kidV; (repeat' split) <;> omega
         rw [e]; exact ⟨rfl, rfl⟩)
    ·(try simp only [zN] at hq12)
     refine WpG.skip ?_
     change WpG _ _ _ _ _
     refine WpG.seq ?_
     refine WpG.reg ?_
     refine G.mv rfl ?_
     refine WpOpsG.nil ?_
     change WpG _ _ _ _ _
     refine WpG.ret ?_
     refine ⟨_, [], rfl, (hasP_le (by repeat (first | exact trivial | refine ⟨rfl, ?_⟩))), rfl, rfl, rfl, ?_⟩
     first
      | (exfalso; omega)
      | (refine ⟨?_, rfl⟩
         show GV.v (.bool _) = GV.v (.bool _)
         congr 2
         rw [Bool.eq_iff_iff]
         simp only [Bool.and_eq_true, decide_eq_true_eq, beq_iff_eq]
         unfold kidV
         (repeat' split) <;> first | omega | simp_all)
      | (have e : decide (0 ≤ kidV x) = false := by
          rw [decide_eq_false_iff_not]; unfold kidV; (repeat' split) <;> omega
         rw [e]; exact ⟨rfl, rfl⟩)
theorem rsize_ok (l : List Nd) (a : Int) (hl : l.length ≤ 2 ^ 43) (ha : i64 a) : WpCallG A 23 [.fsl 3 (l.map encD), .v (.int .i64 a)] [] (fun v H => v = .v (.int .i64 (sizeV l a)) ∧ H = []) := by
 unfold i64 at ha
 refine WpCallG.intro g23 rfl rfl ?_
 unfold af23
 change WpG _ _ _ _ _
 refine WpG.seq ?_
 refine WpG.reg ?_
 refine G.mv rfl ?_
 refine WpOpsG.nil ?_
 change WpG _ _ _ _ _
 refine WpG.seq ?_
 refine WpG.seq ?_
 refine WpG.reg ?_
 refine G.mv rfl ?_
 refine G.bin rfl rfl rfl ?_
 refine G.mv rfl ?_
 apply G.orS rfl rfl rfl rfl rfl rfl
 case hB =>
  intro hs1
  (try simp only [zN] at hs1)
  refine G.mv rfl ?_
  refine G.mv rfl ?_
  refine G.lenM rfl ?_
  refine G.bin rfl rfl rfl ?_
  refine WpOpsG.nil ?_
  exact ⟨rfl, (by repeat (first | exact LLe.refl _ | refine LLe.cons rfl ?_)), (by repeat (first | exact HLe.refl _ | refine HLe.cons rfl ?_)), rfl⟩
 refine WpOpsG.nil ?_
 change WpG _ _ _ _ _
 refine WpG.cond rfl (fun hq2 => ?_) (fun hq2 => ?_)
 ·(try simp only [zN] at hq2)
  refine WpG.seq ?_
  refine WpG.reg ?_
  refine G.mv rfl ?_
  refine WpOpsG.nil ?_
  change WpG _ _ _ _ _
  refine WpG.ret ?_
  refine ⟨_, [], rfl, (hasP_le (by repeat (first | exact trivial | refine ⟨rfl, ?_⟩))), rfl, rfl, rfl, ?_⟩
  have e : sizeV l a = 0 := by unfold sizeV; rw [if_pos (by omega)]
  rw [e]; exact ⟨rfl, rfl⟩
 ·(try simp only [zN] at hq2)
  refine WpG.skip ?_
  change WpG _ _ _ _ _
  refine WpG.seq ?_
  obtain ⟨q, rfl⟩ : ∃ q : Nat, a = q := ⟨a.toNat, by omega⟩
  have hq0 : sizeV l q = scan (l.drop q) 1 0 := by unfold sizeV; rw [if_neg (by omega), Int.toNat_natCast]
  refine WpG.reg ?_
  refine G.mv rfl ?_
  refine WpOpsG.nil ?_
  change WpG _ _ _ _ _
  refine WpG.seq ?_
  refine WpG.seq ?_
  refine WpG.reg ?_
  refine G.mv rfl ?_
  refine G.mv rfl ?_
  refine WpOpsG.nil ?_
  change WpG _ _ _ _ _
  refine WpG.block ?_
  refine WpG.loop (S := Nat × Int) (fun s => [(0, .fsl 3 (l.map encD)), (1, .v (.int .i64 (q : Int))), (5, .v (.int .i64 s.2)), (6, .v (.int .i64 (s.1 : Int)))]) (fun _ => []) (fun s => (q ≤ s.1 ∧ s.1 ≤ l.length) ∧ (1 ≤ s.2 ∧ s.2 ≤ 1 + 128 * s.1) ∧ scan (l.drop s.1) s.2 ((s.1 : Int) - q) = sizeV l q) (fun s => l.length - s.1) (fun s => ⟨rfl, rfl⟩) ?_ (q, 1) ?_ (by repeat (first | exact trivial | refine ⟨rfl, ?_⟩)) (by repeat (first | exact trivial | refine ⟨rfl, ?_⟩)) rfl
  ·rintro ⟨i, s⟩ ⟨⟨hI0, hI⟩, hs, hT⟩
   dsimp only at hI0 hI hs hT ⊢
   refine WpG.seq ?_
   refine WpG.seq ?_
   refine WpG.reg ?_
   refine G.mv rfl ?_
   refine G.mv rfl ?_
   refine G.lenM rfl ?_
   refine G.bin rfl rfl rfl ?_
   refine WpOpsG.nil ?_
   change WpG _ _ _ _ _
   refine WpG.cond rfl (fun hq3 => ?_) (fun hq3 => ?_)
   ·(try simp only [zN] at hq3)
    refine WpG.skip ?_
    change WpG _ _ _ _ _
    refine WpG.seq ?_
    refine WpG.block ?_
    refine WpG.seq ?_
    refine WpG.seq ?_
    have hlt : i < l.length := by omega
    have hd := List.drop_eq_getElem_cons hlt
    rw [hd, scan] at hT
    have hkr := kidV_rng l[i]
    refine WpG.reg ?_
    refine G.mv rfl ?_
    refine G.mv rfl ?_
    refine G.iaddrN rfl rfl (List.getElem?_eq_getElem hlt) ?_
    refine G.loadNF rfl rfl ?_
    refine G.call0 rfl rfl (fine_ok l[i]) ?_
    rintro _ _ ⟨rfl, rfl⟩
    refine ⟨rfl, ?_⟩
    change WpOpsG _ _ ((26, _) :: _) _ _
    refine G.un rfl rfl ?_
    refine WpOpsG.nil ?_
    change WpG _ _ _ _ _
    refine WpG.cond rfl (fun hq4 => ?_) (fun hq4 => ?_)
    ·(try simp only [zN] at hq4)
     refine WpG.seq ?_
     refine WpG.reg ?_
     refine G.mv rfl ?_
     refine WpOpsG.nil ?_
     change WpG _ _ _ _ _
     refine WpG.ret ?_
     refine ⟨_, [], rfl, (hasP_le (by repeat (first | exact trivial | refine ⟨rfl, ?_⟩))), rfl, rfl, rfl, ?_⟩
     rw [if_pos (by omega)] at hT
     rw [← hT]; exact ⟨rfl, rfl⟩
    ·(try simp only [zN] at hq4)
     refine WpG.skip ?_
     change WpG _ _ _ _ _
     refine WpG.seq ?_
     have hk0 : 0 ≤ kidV l[i] := by omega
     have hkn := kidV_pos hk0
     have hkc := kidV_k hk0
     refine WpG.reg ?_
     refine G.mv rfl ?_
     refine G.subI rfl rfl (by omega) ?_
     refine G.mv rfl ?_
     refine WpOpsG.nil ?_
     change WpG _ _ _ _ _
     refine WpG.seqJ ([(0, .fsl 3 (l.map encD)), (1, .v (.int .i64 (q : Int))), (5, .v (.int .i64 (s - 1 + if l[i].k = 3 then l[i].n else 0))), (6, .v (.int .i64 (i : Int)))]) ([]) ⟨rfl, rfl⟩ ?_ ?_
     ·change WpG _ _ _ _ _
      refine WpG.seq ?_
      refine WpG.reg ?_
      refine G.mv rfl ?_
      refine G.mv rfl ?_
      refine G.iaddrN rfl rfl (List.getElem?_eq_getElem hlt) ?_
      refine G.faddrF rfl ?_
      refine G.load1F rfl rfl ?_
      refine G.bin rfl rfl rfl ?_
      refine WpOpsG.nil ?_
      change WpG _ _ _ _ _
      refine WpG.cond rfl (fun hq5 => ?_) (fun hq5 => ?_)
      ·(try simp only [zN] at hq5)
       refine WpG.reg ?_
       refine G.mv rfl ?_
       refine G.mv rfl ?_
       refine G.mv rfl ?_
       refine G.iaddrN rfl rfl (List.getElem?_eq_getElem hlt) ?_
       refine G.faddrF rfl ?_
       refine G.load1F rfl rfl ?_
       refine G.addI rfl rfl (by omega) ?_
       refine G.mv rfl ?_
       refine WpOpsG.nil ?_
       first
        | (rw [if_pos (by omega)]; exact ⟨⟨rfl, rfl, rfl, rfl, trivial⟩, trivial, rfl⟩)
        | (rw [if_neg (by omega), Int.add_zero]; exact ⟨⟨rfl, rfl, rfl, rfl, trivial⟩, trivial, rfl⟩)
      ·(try simp only [zN] at hq5)
       refine WpG.skip ?_
       first
        | (rw [if_pos (by omega)]; exact ⟨⟨rfl, rfl, rfl, rfl, trivial⟩, trivial, rfl⟩)
        | (rw [if_neg (by omega), Int.add_zero]; exact ⟨⟨rfl, rfl, rfl, rfl, trivial⟩, trivial, rfl⟩)
     obtain ⟨u, hu⟩ : ∃ u, u = s - 1 + (if l[i].k = 3 then l[i].n else 0) := ⟨_, rfl⟩
     rw [← hu]
     have hub : u = s - 1 + l[i].n ∧ l[i].k = 3 ∨ u = s - 1 ∧ l[i].k ≠ 3 := by split at hu <;> omega
     change WpG _ _ _ _ _
     refine WpG.seqJ ([(0, .fsl 3 (l.map encD)), (1, .v (.int .i64 (q : Int))), (5, .v (.int .i64 (s + (kidV l[i] - 1)))), (6, .v (.int .i64 (i : Int)))]) ([]) ⟨rfl, rfl⟩ ?_ ?_
     ·change WpG _ _ _ _ _
      refine WpG.seq ?_
      refine WpG.reg ?_
      refine G.mv rfl ?_
      refine G.mv rfl ?_
      refine G.iaddrN rfl rfl (List.getElem?_eq_getElem hlt) ?_
      refine G.faddrF rfl ?_
      refine G.load1F rfl rfl ?_
      refine G.bin rfl rfl rfl ?_
      refine WpOpsG.nil ?_
      change WpG _ _ _ _ _
      refine WpG.cond rfl (fun hq6 => ?_) (fun hq6 => ?_)
      ·(try simp only [zN] at hq6)
       refine WpG.reg ?_
       refine G.mv rfl ?_
       refine G.addI rfl rfl (by omega) ?_
       refine G.mv rfl ?_
       refine WpOpsG.nil ?_
       first
        | (rw [show s + (kidV l[i] - 1) = u + 1 by omega]; exact ⟨⟨rfl, rfl, rfl, rfl, trivial⟩, trivial, rfl⟩)
        | (rw [show s + (kidV l[i] - 1) = u by omega]; exact ⟨⟨rfl, rfl, rfl, rfl, trivial⟩, trivial, rfl⟩)
      ·(try simp only [zN] at hq6)
       refine WpG.skip ?_
       first
        | (rw [show s + (kidV l[i] - 1) = u + 1 by omega]; exact ⟨⟨rfl, rfl, rfl, rfl, trivial⟩, trivial, rfl⟩)
        | (rw [show s + (kidV l[i] - 1) = u by omega]; exact ⟨⟨rfl, rfl, rfl, rfl, trivial⟩, trivial, rfl⟩)
     change WpG _ _ _ _ _
     refine WpG.seq ?_
     refine WpG.reg ?_
     refine G.mv rfl ?_
     refine G.bin rfl rfl rfl ?_
     refine WpOpsG.nil ?_
     change WpG _ _ _ _ _
     refine WpG.cond rfl (fun hq7 => ?_) (fun hq7 => ?_)
     ·(try simp only [zN] at hq7)
      refine WpG.seq ?_
      refine WpG.reg ?_
      refine G.mv rfl ?_
      refine G.mv rfl ?_
      refine G.subI rfl rfl (by omega) ?_
      refine G.addI rfl rfl (by omega) ?_
      refine G.mv rfl ?_
      refine WpOpsG.nil ?_
      change WpG _ _ _ _ _
      refine WpG.ret ?_
      refine ⟨_, [], rfl, (hasP_le (by repeat (first | exact trivial | refine ⟨rfl, ?_⟩))), rfl, rfl, rfl, ?_⟩
      rw [if_neg (by omega), if_pos (by omega)] at hT
      rw [← hT]; exact ⟨rfl, rfl⟩
     ·(try simp only [zN] at hq7)
      refine WpG.skip ?_
      change WpG _ _ _ _ _
      refine WpG.reg ?_
      refine G.mv rfl ?_
      refine G.addI rfl rfl (by omega) ?_
      refine G.mv rfl ?_
      refine WpOpsG.nil ?_
      rw [if_neg (by omega), if_neg (by omega)] at hT
      exact ⟨(i + 1, s + (kidV l[i] - 1)), by show l.length - (i + 1) < l.length - i; omega, ⟨⟨by dsimp only; omega, by dsimp only; omega⟩, ⟨by dsimp only; omega, by dsimp only; omega⟩, by dsimp only; rw [← hT]; congr 1; omega⟩, ⟨rfl, rfl, rfl, rfl, trivial⟩, trivial, rfl⟩
   ·(try simp only [zN] at hq3)
    refine WpG.exit ?_
    change WpG _ _ _ _ _
    refine WpG.seq ?_
    refine WpG.reg ?_
    refine G.mv rfl ?_
    refine WpOpsG.nil ?_
    change WpG _ _ _ _ _
    refine WpG.ret ?_
    refine ⟨_, [], rfl, (hasP_le (by repeat (first | exact trivial | refine ⟨rfl, ?_⟩))), rfl, rfl, rfl, ?_⟩
    rw [← hT, List.drop_eq_nil_of_le (by omega)]; exact ⟨rfl, rfl⟩
  ·exact ⟨⟨Nat.le_refl _, by dsimp only; omega⟩, ⟨by dsimp only; omega, by dsimp only; omega⟩, by dsimp only; rw [hq0, Int.sub_self]⟩
theorem rkids_ok (l : List Nd) (a : Nat) (K : List Nat) (hl : l.length ≤ 2 ^ 41) (ha : a ≤ 2 ^ 43) (hK : kidsAt l a K) : WpCallG A 25 [.fsl 3 (l.map encD), .v (.int .i64 (a : Int))] [] (fun v H => v = .osl 0 ∧ H = [(0, .arr .yes 1 (K.map encI))]) := by
 refine WpCallG.intro g25 rfl rfl ?_
 unfold af25
 change WpG _ _ _ _ _
 refine WpG.seq ?_
 refine WpG.reg ?_
 refine G.mv rfl ?_
 refine WpOpsG.nil ?_
 change WpG _ _ _ _ _
 refine WpG.seq ?_
 refine WpG.reg ?_
 refine G.mv rfl ?_
 refine G.mv rfl ?_
 refine G.call0 rfl rfl (rsize_ok l (a : Int) (by omega) (by unfold i64; omega)) ?_
 rintro _ _ ⟨rfl, rfl⟩
 refine ⟨rfl, ?_⟩
 change WpOpsG _ _ ((10, _) :: _) _ _
 have hr := sizeV_rng l (a : Int)
 obtain ⟨z, hz⟩ : ∃ z : Nat, sizeV l (a : Int) = (z : Int) := ⟨(sizeV l (a : Int)).toNat, by omega⟩
 rw [hz] at hr ⊢
 unfold kidsAt at hK
 rw [hz, Int.toNat_natCast] at hK
 have hKl : K.length ≤ 2 ^ 41 := by
  by_cases c : z = 0
  ·rw [hK.2 (by omega)]; exact Nat.zero_le _
  ·have := kch_len (hK.1 (by omega)) (by omega); omega
 refine G.mv rfl ?_
 refine WpOpsG.nil ?_
 change WpG _ _ _ _ _
 refine WpG.seq ?_
 refine WpG.reg ?_
 refine G.mv rfl ?_
 refine WpOpsG.nil ?_
 change WpG _ _ _ _ _
 refine WpG.seq ?_
 refine WpG.seq ?_
 refine WpG.reg ?_
 refine G.mv rfl ?_
 refine G.addI rfl rfl (by omega) ?_
 refine G.mv rfl ?_
 refine WpOpsG.nil ?_
 change WpG _ _ _ _ _
 refine WpG.block ?_
 refine WpG.ownNil (g := 0) (k := 6) (w := 1) rfl rfl ?_
 refine WpG.loop (S := Nat × Nat) (fun s => [(0, .fsl 3 (l.map encD)), (1, .v (.int .i64 (a : Int))), (5, .v (.int .i64 (z : Int))), (6, .osl 0), (7, .v (.int .i64 (s.1 : Int)))]) (fun s => [(0, .arr .yes 1 ((K.take s.2).map encI))]) (fun s => s.2 ≤ K.length ∧ s.1 ≤ a + z + l.length + 1 ∧ (0 < z → kch l s.1 (a + z) (K.drop s.2)) ∧ (z = 0 → s.1 = a + 1)) (fun s => K.length - s.2) (fun s => ⟨rfl, rfl⟩) ?_ (a + 1, 0) ?_ (by repeat (first | exact trivial | refine ⟨rfl, ?_⟩)) (by repeat (first | exact trivial | refine ⟨rfl, ?_⟩)) rfl
 ·rintro ⟨i, j⟩ ⟨hj, hi, hT, hi0⟩
  dsimp only at hj hi hT hi0 ⊢
  refine WpG.seq ?_
  refine WpG.seq ?_
  refine WpG.reg ?_
  refine G.mv rfl ?_
  refine G.mv rfl ?_
  refine G.mv rfl ?_
  refine G.addI rfl rfl (by omega) ?_
  refine G.bin rfl rfl rfl ?_
  refine WpOpsG.nil ?_
  change WpG _ _ _ _ _
  refine WpG.cond rfl (fun hq1 => ?_) (fun hq1 => ?_)
  ·(try simp only [zN] at hq1)
   refine WpG.skip ?_
   change WpG _ _ _ _ _
   refine WpG.seq ?_
   refine WpG.block ?_
   have hz0 : 0 < z := by
    by_cases c : 0 < z
    ·exact c
    ·exfalso; have := hi0 (by omega); omega
   have hK1 := hT (by omega)
   have hjl : j < K.length := by
    by_cases c : j < K.length
    ·exact c
    ·rw [List.drop_eq_nil_of_le (by omega)] at hK1
     have hK1 : a + z ≤ i := hK1
     omega
   rw [List.drop_eq_getElem_cons hjl] at hK1
   obtain ⟨hkj, hK0, hK2, hK3⟩ := hK1
   refine WpG.reg ?_
   refine G.mv rfl ?_
   refine G.mv rfl ?_
   refine G.bsliceF rfl rfl rfl ?_
   refine G.app (ds := [i].map encI) rfl rfl rfl rfl trivial (by simp only [List.length_map, List.length_take, List.length_cons, List.length_nil]; omega) ?_
   refine G.mv rfl ?_
   refine WpOpsG.nil ?_
   change WpG _ _ _ _ _
   refine WpG.reg ?_
   refine G.mv rfl ?_
   refine G.mv rfl ?_
   refine G.mv rfl ?_
   refine G.call0 rfl rfl (rsize_ok l (i : Int) (by omega) (by unfold i64; omega)) ?_
   rintro _ _ ⟨rfl, rfl⟩
   refine ⟨rfl, ?_⟩
   change WpOpsG _ _ ((21, _) :: _) _ _
   have hri := sizeV_rng l (i : Int)
   obtain ⟨y, hy⟩ : ∃ y : Nat, sizeV l (i : Int) = (y : Int) := ⟨(sizeV l (i : Int)).toNat, by omega⟩
   rw [hy] at hri ⊢
   rw [hy, Int.toNat_natCast] at hK3
   refine G.addI rfl rfl (by omega) ?_
   refine G.mv rfl ?_
   refine WpOpsG.nil ?_
   refine ⟨(i + y, j + 1), by show K.length - (j + 1) < K.length - j; omega, ⟨by dsimp only; omega, by dsimp only; omega, fun _ => by dsimp only; exact hK3, fun h => by omega⟩, ⟨rfl, rfl, rfl, rfl, rfl, trivial⟩, ⟨?_, trivial⟩, rfl⟩
   rw [List.take_succ_eq_append_getElem hjl, List.map_append, hkj]; rfl
  ·(try simp only [zN] at hq1)
   refine WpG.exit ?_
   change WpG _ _ _ _ _
   refine WpG.seq ?_
   have hjK : K.take j = K := by
    by_cases c : z = 0
    ·rw [hK.2 (by omega)]; simp
    ·by_cases d : j < K.length
     ·have hK1 := hT (by omega)
      rw [List.drop_eq_getElem_cons d] at hK1
      exact absurd hK1.2.1 (by omega)
     ·exact List.take_of_length_le (by omega)
   rw [hjK]
   refine WpG.reg ?_
   refine G.mv rfl ?_
   refine G.mv rfl ?_
   refine WpOpsG.nil ?_
   change WpG _ _ _ _ _
   refine WpG.ret ?_
   refine ⟨_, [(0, .arr .yes 1 (K.map encI))], rfl, (hasP_le (by repeat (first | exact trivial | refine ⟨rfl, ?_⟩))), rfl, rfl, rfl, ?_⟩
   exact ⟨rfl, rfl⟩
 ·exact ⟨Nat.zero_le _, by dsimp only; omega, fun h => hK.1 (by omega), fun _ => rfl⟩
set_option maxHeartbeats 1000000 in
theorem rdepth_ok (pre post : List Nd) (x : Nd) (ks : Fo) (hx : (Fo.one x ks).ok) (hl : (pre ++ (Fo.enc (Fo.one x ks) ++ post)).length ≤ 2 ^ 40) : WpCallG A 31 [.fsl 3 ((pre ++ (Fo.enc (Fo.one x ks) ++ post)).map encD), .v (.int .i64 (pre.length : Int))] [] (fun v H => v = .v (.int .i64 (1 + ks.dep)) ∧ H = []) := by
 have hlA : (pre ++ (Fo.enc (Fo.one x ks) ++ post)).length = pre.length + ((Fo.enc (Fo.one x ks)).length + post.length) := by rw [List.length_append, List.length_append]
 have hkl := Fo.kpos_len ks (pre.length + 1)
 have hck := Fo.cnt_le ks
 have hel : (Fo.enc (Fo.one x ks)).length = 1 + (Fo.enc ks).length := by simp [Fo.enc, Fo.one]; omega
 refine WpCallG.intro g31 rfl rfl ?_
 unfold af31
 change WpG _ _ _ _ _
 refine WpG.seq ?_
 refine WpG.reg ?_
 refine G.mv rfl ?_
 refine WpOpsG.nil ?_
 change WpG _ _ _ _ _
 refine WpG.seq ?_
 refine WpG.reg ?_
 refine G.mv rfl ?_
 refine WpOpsG.nil ?_
 change WpG _ _ _ _ _
 refine WpG.seq ?_
 refine WpG.seq ?_
 refine WpG.reg ?_
 refine G.mv rfl ?_
 refine G.mv rfl ?_
 refine G.call0 rfl rfl ((rkids_ok (pre ++ (Fo.enc (Fo.one x ks) ++ post)) pre.length (Fo.kpos (pre.length + 1) ks) (by omega) (by omega) (Fo.kids_at hx pre post)).ren [(0, 23)]) ?_
 rintro _ _ ⟨_, _, ⟨rfl, rfl⟩, rfl, rfl⟩
 change newOk _ _ [(23, _)] = true ∧ _
 refine ⟨rfl, ?_⟩
 change WpOpsG _ _ ((10, .osl 23) :: _) ([(23, .arr .yes 1 ((Fo.kpos (pre.length + 1) ks).map encI))] ++ _) _
 refine WpOpsG.freeze 23 rfl ?_
 change WpOpsG _ _ ((10, .fsl 1 ((Fo.kpos (pre.length + 1) ks).map encI)) :: _) _ _
 refine G.lenM rfl ?_
 refine G.mv rfl ?_
 refine WpOpsG.nil ?_
 change WpG _ _ _ _ _
 refine WpG.block ?_
 refine WpG.loop (S := Fo × Fo) (fun s => [(0, .fsl 3 ((pre ++ (Fo.enc (Fo.one x ks) ++ post)).map encD)), (1, .v (.int .i64 (pre.length : Int))), (5, .v (.int .i64 (s.1.dep))), (10, .fsl 1 ((Fo.kpos (pre.length + 1) ks).map encI)), (11, .v (.int .i64 ((Fo.kpos (pre.length + 1) ks).length : Int))), (12, .v (.int .i64 (s.1.cnt : Int)))]) (fun _ => []) (fun s => ks = Fo.app s.1 s.2) (fun s => ks.cnt - s.1.cnt) (fun s => ⟨rfl, rfl⟩) ?_ (.nil, ks) ?_ (by repeat (first | exact trivial | refine ⟨rfl, ?_⟩)) (by repeat (first | exact trivial | refine ⟨rfl, ?_⟩)) rfl
 ·rintro ⟨f, g⟩ hks
  dsimp only at hks ⊢
  have hcf := Fo.cnt_app f g
  rw [← hks] at hcf
  have hdf := Fo.dep_rng f
  refine WpG.seq ?_
  refine WpG.reg ?_
  refine G.bin rfl rfl rfl ?_
  refine WpOpsG.nil ?_
  change WpG _ _ _ _ _
  refine WpG.seq ?_
  refine WpG.cond rfl (fun hq1 => ?_) (fun hq1 => ?_)
  ·(try simp only [zN] at hq1)
   refine WpG.skip ?_
   change WpG _ _ _ _ _
   refine WpG.seq ?_
   refine WpG.block ?_
   refine WpG.seq ?_
   obtain ⟨y, js, r, rfl⟩ : ∃ y js r, g = Fo.cons y js r := by
    cases g with
    | nil =>
      exfalso
      have := Fo.cnt_app f .nil
      rw [← hks] at this
      have h0 : Fo.nil.cnt = 0 := rfl
      omega
    | cons y js r => exact ⟨y, js, r, rfl⟩
   have hok2 := hx.2.1
   rw [hks] at hok2
   have hpt := Fo.ok_parts hok2
   have hyo : (Fo.one y js).ok := ⟨hpt.2.1, hpt.2.2.1, trivial⟩
   have hee : (pre ++ (Fo.enc (Fo.one x ks) ++ post)) = (pre ++ x :: Fo.enc f) ++ (Fo.enc (Fo.one y js) ++ (Fo.enc r ++ post)) := by
    have h1 : Fo.enc ks = Fo.enc f ++ Fo.enc (Fo.cons y js r) := by rw [hks, Fo.enc_app]
    have h2 : Fo.enc (Fo.cons y js r) = Fo.enc (Fo.one y js) ++ Fo.enc r := by simp [Fo.enc, Fo.one]
    rw [h2] at h1
    simp only [Fo.enc, Fo.one, List.append_nil] at h1 ⊢
    rw [h1]; simp
   have hpl : (pre ++ x :: Fo.enc f).length = pre.length + 1 + (Fo.enc f).length := by rw [List.length_append, List.length_cons]; omega
   have hdec : (Fo.enc (Fo.one y js)).length < (Fo.enc (Fo.one x ks)).length := by
    have h1 : Fo.enc ks = Fo.enc f ++ Fo.enc (Fo.cons y js r) := by rw [hks, Fo.enc_app]
    have h2 : Fo.enc (Fo.cons y js r) = Fo.enc (Fo.one y js) ++ Fo.enc r := by simp [Fo.enc, Fo.one]
    have h3 : (Fo.enc (Fo.one x ks)).length = 1 + (Fo.enc ks).length := by simp [Fo.enc, Fo.one]; omega
    rw [h3, h1, h2, List.length_append, List.length_append]; omega
   refine WpG.reg ?_
   refine G.iaddrN rfl rfl (show (Fo.kpos (pre.length + 1) ks)[f.cnt]? = some (pre.length + 1 + (Fo.enc f).length) by rw [hks]; exact Fo.kpos_at (pre.length + 1)) ?_
   refine G.load1F rfl rfl ?_
   refine G.mv rfl ?_
   refine WpOpsG.nil ?_
   change WpG _ _ _ _ _
   refine WpG.reg ?_
   refine G.mv rfl ?_
   refine G.mv rfl ?_
   refine G.mv rfl ?_
   refine G.call0 rfl rfl (by
    have h := rdepth_ok (pre ++ x :: Fo.enc f) (Fo.enc r ++ post) y js hyo (by rw [← hee]; exact hl)
    rw [← hee, hpl] at h
    exact h) ?_
   rintro _ _ ⟨rfl, rfl⟩
   refine ⟨rfl, ?_⟩
   change WpOpsG _ _ ((19, _) :: _) _ _
   refine G.mx rfl rfl ?_
   refine G.mv rfl ?_
   refine WpOpsG.nil ?_
   change WpG _ _ _ _ _
   refine WpG.reg ?_
   refine G.addI rfl rfl (by omega) ?_
   refine G.mv rfl ?_
   refine WpOpsG.nil ?_
   refine ⟨(f.app (Fo.one y js), r), by show ks.cnt - (f.app (Fo.one y js)).cnt < ks.cnt - f.cnt; rw [Fo.cnt_app]; have : (Fo.one y js).cnt = 1 := rfl; omega, ?_, ⟨rfl, rfl, ?_, rfl, rfl, ?_, trivial⟩, trivial, rfl⟩
   ·show ks = Fo.app (Fo.app f (Fo.one y js)) r
    rw [hks, Fo.app_assoc]; rfl
   ·rw [Fo.dep_app]; show some (GV.v (.int .i64 (max f.dep (1 + js.dep)))) = some (GV.v (.int .i64 (max f.dep (max (1 + js.dep) 0)))); have := Fo.dep_rng js; congr 3; omega
   ·rw [Fo.cnt_app]; rfl
  ·(try simp only [zN] at hq1)
   refine WpG.exit ?_
   change WpG _ _ _ _ _
   refine WpG.seq ?_
   have hfk : f = ks := by
    cases g with
    | nil => rw [hks]; exact (Fo.app_nil f).symm
    | cons y js r =>
      exfalso
      have := Fo.cnt_app f (.cons y js r)
      rw [← hks] at this
      have h0 : (Fo.cons y js r).cnt = 1 + r.cnt := rfl
      omega
   clear hks
   subst hfk
   refine WpG.reg ?_
   refine G.mv rfl ?_
   refine G.addI rfl rfl (by omega) ?_
   refine G.mv rfl ?_
   refine WpOpsG.nil ?_
   change WpG _ _ _ _ _
   refine WpG.ret ?_
   refine ⟨_, [], rfl, (hasP_le (by repeat (first | exact trivial | refine ⟨rfl, ?_⟩))), rfl, rfl, rfl, ?_⟩
   have e : f.dep + 1 = 1 + f.dep := by omega
   rw [e]; exact ⟨rfl, rfl⟩
 ·exact rfl
termination_by (Fo.enc (Fo.one x ks)).length
decreasing_by all_goals exact hdec
set_option maxHeartbeats 1000000 in
theorem rlength_ok (pre post : List Nd) (x : Nd) (ks : Fo) (hx : (Fo.one x ks).ok) (hl : (pre ++ (Fo.enc (Fo.one x ks) ++ post)).length ≤ 2 ^ 40) : WpCallG A 30 [.fsl 3 ((pre ++ (Fo.enc (Fo.one x ks) ++ post)).map encD), .v (.int .i64 (pre.length : Int))] [] (fun v H => v = .v (.int .i64 (Fo.lenX x ks.tot)) ∧ H = []) := by
 have hlA : (pre ++ (Fo.enc (Fo.one x ks) ++ post)).length = pre.length + ((Fo.enc (Fo.one x ks)).length + post.length) := by rw [List.length_append, List.length_append]
 have hkl := Fo.kpos_len ks (pre.length + 1)
 have hck := Fo.cnt_le ks
 have hel : (Fo.enc (Fo.one x ks)).length = 1 + (Fo.enc ks).length := by simp [Fo.enc, Fo.one]; omega
 refine WpCallG.intro g30 rfl rfl ?_
 unfold af30
 change WpG _ _ _ _ _
 refine WpG.seq ?_
 refine WpG.reg ?_
 refine G.mv rfl ?_
 refine WpOpsG.nil ?_
 change WpG _ _ _ _ _
 refine WpG.seq ?_
 refine WpG.reg ?_
 refine G.mv rfl ?_
 refine WpOpsG.nil ?_
 change WpG _ _ _ _ _
 refine WpG.seq ?_
 refine WpG.seq ?_
 refine WpG.reg ?_
 refine G.mv rfl ?_
 refine G.mv rfl ?_
 refine G.call0 rfl rfl ((rkids_ok (pre ++ (Fo.enc (Fo.one x ks) ++ post)) pre.length (Fo.kpos (pre.length + 1) ks) (by omega) (by omega) (Fo.kids_at hx pre post)).ren [(0, 23)]) ?_
 rintro _ _ ⟨_, _, ⟨rfl, rfl⟩, rfl, rfl⟩
 change newOk _ _ [(23, _)] = true ∧ _
 refine ⟨rfl, ?_⟩
 change WpOpsG _ _ ((10, .osl 23) :: _) ([(23, .arr .yes 1 ((Fo.kpos (pre.length + 1) ks).map encI))] ++ _) _
 refine WpOpsG.freeze 23 rfl ?_
 change WpOpsG _ _ ((10, .fsl 1 ((Fo.kpos (pre.length + 1) ks).map encI)) :: _) _ _
 refine G.lenM rfl ?_
 refine G.mv rfl ?_
 refine WpOpsG.nil ?_
 change WpG _ _ _ _ _
 refine WpG.block ?_
 refine WpG.loop (S := Fo × Fo) (fun s => [(0, .fsl 3 ((pre ++ (Fo.enc (Fo.one x ks) ++ post)).map encD)), (1, .v (.int .i64 (pre.length : Int))), (5, .v (.int .i64 (min (Fo.totU s.1) 4097))), (10, .fsl 1 ((Fo.kpos (pre.length + 1) ks).map encI)), (11, .v (.int .i64 ((Fo.kpos (pre.length + 1) ks).length : Int))), (12, .v (.int .i64 (s.1.cnt : Int)))]) (fun _ => []) (fun s => ks = Fo.app s.1 s.2) (fun s => ks.cnt - s.1.cnt) (fun s => ⟨rfl, rfl⟩) ?_ (.nil, ks) ?_ (by repeat (first | exact trivial | refine ⟨rfl, ?_⟩)) (by repeat (first | exact trivial | refine ⟨rfl, ?_⟩)) rfl
 ·rintro ⟨f, g⟩ hks
  dsimp only at hks ⊢
  have hcf := Fo.cnt_app f g
  rw [← hks] at hcf
  have hdf := Fo.dep_rng f
  refine WpG.seq ?_
  refine WpG.reg ?_
  refine G.bin rfl rfl rfl ?_
  refine WpOpsG.nil ?_
  change WpG _ _ _ _ _
  refine WpG.seq ?_
  refine WpG.cond rfl (fun hq1 => ?_) (fun hq1 => ?_)
  ·(try simp only [zN] at hq1)
   refine WpG.skip ?_
   change WpG _ _ _ _ _
   refine WpG.seq ?_
   refine WpG.block ?_
   refine WpG.seq ?_
   obtain ⟨y, js, r, rfl⟩ : ∃ y js r, g = Fo.cons y js r := by
    cases g with
    | nil =>
      exfalso
      have := Fo.cnt_app f .nil
      rw [← hks] at this
      have h0 : Fo.nil.cnt = 0 := rfl
      omega
    | cons y js r => exact ⟨y, js, r, rfl⟩
   have hok2 := hx.2.1
   rw [hks] at hok2
   have hpt := Fo.ok_parts hok2
   have hyo : (Fo.one y js).ok := ⟨hpt.2.1, hpt.2.2.1, trivial⟩
   have hee : (pre ++ (Fo.enc (Fo.one x ks) ++ post)) = (pre ++ x :: Fo.enc f) ++ (Fo.enc (Fo.one y js) ++ (Fo.enc r ++ post)) := by
    have h1 : Fo.enc ks = Fo.enc f ++ Fo.enc (Fo.cons y js r) := by rw [hks, Fo.enc_app]
    have h2 : Fo.enc (Fo.cons y js r) = Fo.enc (Fo.one y js) ++ Fo.enc r := by simp [Fo.enc, Fo.one]
    rw [h2] at h1
    simp only [Fo.enc, Fo.one, List.append_nil] at h1 ⊢
    rw [h1]; simp
   have hpl : (pre ++ x :: Fo.enc f).length = pre.length + 1 + (Fo.enc f).length := by rw [List.length_append, List.length_cons]; omega
   have hdec : (Fo.enc (Fo.one y js)).length < (Fo.enc (Fo.one x ks)).length := by
    have h1 : Fo.enc ks = Fo.enc f ++ Fo.enc (Fo.cons y js r) := by rw [hks, Fo.enc_app]
    have h2 : Fo.enc (Fo.cons y js r) = Fo.enc (Fo.one y js) ++ Fo.enc r := by simp [Fo.enc, Fo.one]
    have h3 : (Fo.enc (Fo.one x ks)).length = 1 + (Fo.enc ks).length := by simp [Fo.enc, Fo.one]; omega
    rw [h3, h1, h2, List.length_append, List.length_append]; omega
   refine WpG.reg ?_
   refine G.iaddrN rfl rfl (show (Fo.kpos (pre.length + 1) ks)[f.cnt]? = some (pre.length + 1 + (Fo.enc f).length) by rw [hks]; exact Fo.kpos_at (pre.length + 1)) ?_
   refine G.load1F rfl rfl ?_
   refine G.mv rfl ?_
   refine WpOpsG.nil ?_
   change WpG _ _ _ _ _
   have hlr0 := Fo.lenX_rng (x := y) (t := js.tot) (by rw [hpt.2.1]; omega) (Fo.tot_rng hpt.2.2.1)
   have hUf0 := Fo.totU_nn hpt.1
   refine WpG.reg ?_
   refine G.mv rfl ?_
   refine G.mv rfl ?_
   refine G.mv rfl ?_
   refine G.call0 rfl rfl (by
    have h := rlength_ok (pre ++ x :: Fo.enc f) (Fo.enc r ++ post) y js hyo (by rw [← hee]; exact hl)
    rw [← hee, hpl] at h
    exact h) ?_
   rintro _ _ ⟨rfl, rfl⟩
   refine ⟨rfl, ?_⟩
   change WpOpsG _ _ ((19, _) :: _) _ _
   refine G.addI rfl rfl (by omega) ?_
   refine G.mn rfl rfl ?_
   refine G.mv rfl ?_
   refine WpOpsG.nil ?_
   change WpG _ _ _ _ _
   refine WpG.reg ?_
   refine G.addI rfl rfl (by omega) ?_
   refine G.mv rfl ?_
   refine WpOpsG.nil ?_
   refine ⟨(f.app (Fo.one y js), r), by show ks.cnt - (f.app (Fo.one y js)).cnt < ks.cnt - f.cnt; rw [Fo.cnt_app]; have : (Fo.one y js).cnt = 1 := rfl; omega, ?_, ⟨rfl, rfl, ?_, rfl, rfl, ?_, trivial⟩, trivial, rfl⟩
   ·show ks = Fo.app (Fo.app f (Fo.one y js)) r
    rw [hks, Fo.app_assoc]; rfl
   ·rw [Fo.totU_app]; have hUf := Fo.totU_nn hpt.1; have hlr := Fo.lenX_rng (x := y) (t := js.tot) (by rw [hpt.2.1]; omega) (Fo.tot_rng hpt.2.2.1); show some (GV.v (.int .i64 (min (min f.totU 4097 + Fo.lenX y js.tot) 4097))) = some (GV.v (.int .i64 (min (f.totU + (Fo.lenX y js.tot + 0)) 4097))); congr 3; omega
   ·rw [Fo.cnt_app]; rfl
  ·(try simp only [zN] at hq1)
   refine WpG.exit ?_
   change WpG _ _ _ _ _
   refine WpG.seq ?_
   refine WpG.seq ?_
   have hfk : f = ks := by
    cases g with
    | nil => rw [hks]; exact (Fo.app_nil f).symm
    | cons y js r =>
      exfalso
      have := Fo.cnt_app f (.cons y js r)
      rw [← hks] at this
      have h0 : (Fo.cons y js r).cnt = 1 + r.cnt := rfl
      omega
   clear hks
   subst hfk
   have hv := Fo.lens_val hx
   have hU0 := Fo.totU_nn hx.2.1
   have hxn := kidV_pos (x := x) (by rw [hx.1]; omega)
   refine WpG.reg ?_
   refine G.mv rfl ?_
   refine G.mv rfl ?_
   refine G.iaddrN rfl rfl (Fo.at_one x f pre post) ?_
   refine G.faddrF rfl ?_
   refine G.load1F rfl rfl ?_
   refine WpOpsG.nil ?_
   change WpG _ _ _ _ _
   refine WpG.block ?_
   refine WpG.seq ?_
   refine WpG.reg ?_
   refine G.bin rfl rfl rfl ?_
   refine G.mv rfl ?_
   refine WpOpsG.nil ?_
   change WpG _ _ _ _ _
   refine WpG.cond rfl (fun hq2 => ?_) (fun hq2 => ?_)
   ·(try simp only [zN] at hq2)
    refine WpG.seq ?_
    refine WpG.reg ?_
    refine G.mv rfl ?_
    refine G.mv rfl ?_
    refine WpOpsG.nil ?_
    change WpG _ _ _ _ _
    refine WpG.ret ?_
    refine ⟨_, [], rfl, (hasP_le (by repeat (first | exact trivial | refine ⟨rfl, ?_⟩))), rfl, rfl, rfl, ?_⟩
    rw [hv.1 (by omega)]; exact ⟨rfl, rfl⟩
   ·(try simp only [zN] at hq2)
    refine WpG.seq ?_
    refine WpG.reg ?_
    refine G.bin rfl rfl rfl ?_
    refine G.mv rfl ?_
    refine WpOpsG.nil ?_
    change WpG _ _ _ _ _
    refine WpG.cond rfl (fun hq3 => ?_) (fun hq3 => ?_)
    ·(try simp only [zN] at hq3)
     refine WpG.seq ?_
     refine WpG.reg ?_
     refine G.mv rfl ?_
     refine G.mv rfl ?_
     refine G.mv rfl ?_
     refine G.iaddrN rfl rfl (Fo.at_one x f pre post) ?_
     refine G.faddrF rfl ?_
     refine G.load1F rfl rfl ?_
     refine G.mn rfl rfl ?_
     have hm0 : 0 ≤ (min f.totU 4097) * min x.n 4097 := Int.mul_nonneg (by omega) (by omega)
     have hm1 : (min f.totU 4097) * min x.n 4097 ≤ 4097 * 4097 := Int.mul_le_mul (by omega) (by omega) (by omega) (by decide)
     refine G.mulI rfl rfl (by omega) ?_
     refine G.mn rfl rfl ?_
     refine G.mv rfl ?_
     refine WpOpsG.nil ?_
     change WpG _ _ _ _ _
     refine WpG.ret ?_
     refine ⟨_, [], rfl, (hasP_le (by repeat (first | exact trivial | refine ⟨rfl, ?_⟩))), rfl, rfl, rfl, ?_⟩
     rw [hv.2.1 (by omega)]; exact ⟨rfl, rfl⟩
    ·(try simp only [zN] at hq3)
     refine WpG.skip ?_
     change WpG _ _ _ _ _
     refine WpG.seq ?_
     refine WpG.reg ?_
     refine G.mv rfl ?_
     refine G.mv rfl ?_
     refine G.iaddrN rfl rfl (Fo.at_one x f pre post) ?_
     refine G.faddrF rfl ?_
     refine G.load1F rfl rfl ?_
     refine G.mn rfl rfl ?_
     refine G.mv rfl ?_
     refine WpOpsG.nil ?_
     change WpG _ _ _ _ _
     refine WpG.ret ?_
     refine ⟨_, [], rfl, (hasP_le (by repeat (first | exact trivial | refine ⟨rfl, ?_⟩))), rfl, rfl, rfl, ?_⟩
     rw [hv.2.2 (by omega)]; exact ⟨rfl, rfl⟩
 ·exact rfl
termination_by (Fo.enc (Fo.one x ks)).length
decreasing_by all_goals exact hdec
theorem rDepth_ok (l : List Nd) (hl : l.length ≤ 2 ^ 40) : WpCallG A 22 [.fsl 3 (l.map encD)] [] (fun v H => v = .v (.int .i64 (depV l)) ∧ H = []) := by
 refine WpCallG.intro g22 rfl rfl ?_
 unfold af22
 change WpG _ _ _ _ _
 refine WpG.seq ?_
 refine WpG.reg ?_
 refine G.mv rfl ?_
 refine WpOpsG.nil ?_
 change WpG _ _ _ _ _
 refine WpG.seq ?_
 refine WpG.seq ?_
 refine WpG.reg ?_
 refine G.mv rfl ?_
 refine G.lenM rfl ?_
 refine G.bin rfl rfl rfl ?_
 refine G.mv rfl ?_
 apply G.orS rfl rfl rfl rfl rfl rfl
 case hB =>
  intro hs1
  (try simp only [zN] at hs1)
  refine G.mv rfl ?_
  refine G.call0 rfl rfl (rsize_ok l 0 (by omega) (by unfold i64; decide)) ?_
  rintro _ _ ⟨rfl, rfl⟩
  refine ⟨rfl, ?_⟩
  change WpOpsG _ _ ((8, _) :: _) _ _
  refine G.mv rfl ?_
  refine G.lenM rfl ?_
  refine G.bin rfl rfl rfl ?_
  refine WpOpsG.nil ?_
  exact ⟨rfl, (by repeat (first | exact LLe.refl _ | refine LLe.cons rfl ?_)), (by repeat (first | exact HLe.refl _ | refine HLe.cons rfl ?_)), rfl⟩
 refine WpOpsG.nil ?_
 change WpG _ _ _ _ _
 refine WpG.cond rfl (fun hq2 => ?_) (fun hq2 => ?_)
 ·(try simp only [zN] at hq2)
  refine WpG.seq ?_
  refine WpG.reg ?_
  refine G.mv rfl ?_
  refine WpOpsG.nil ?_
  change WpG _ _ _ _ _
  refine WpG.ret ?_
  refine ⟨_, [], rfl, (hasP_le (by repeat (first | exact trivial | refine ⟨rfl, ?_⟩))), rfl, rfl, rfl, ?_⟩
  have e : depV l = 0 := by
   unfold depV wholeV
   rw [if_neg (fun h => by simp only [Bool.and_eq_true, decide_eq_true_eq] at h; omega)]
  rw [e]; exact ⟨rfl, rfl⟩
 ·(try simp only [zN] at hq2)
  refine WpG.skip ?_
  change WpG _ _ _ _ _
  refine WpG.seq ?_
  have hw : wholeV l = true := by
   unfold wholeV
   rw [decide_eq_true (by omega), decide_eq_true (by omega)]; rfl
  obtain ⟨x, ks, rfl, hx⟩ := Fo.whole_tree hw
  refine WpG.reg ?_
  refine G.mv rfl ?_
  refine G.call0 rfl rfl (by
   have h := rdepth_ok [] [] x ks hx (by simp only [List.nil_append, List.append_nil]; omega)
   rw [List.nil_append, List.append_nil] at h
   exact h) ?_
  rintro _ _ ⟨rfl, rfl⟩
  refine ⟨rfl, ?_⟩
  change WpOpsG _ _ ((14, _) :: _) _ _
  refine G.mv rfl ?_
  refine WpOpsG.nil ?_
  change WpG _ _ _ _ _
  refine WpG.ret ?_
  refine ⟨_, [], rfl, (hasP_le (by repeat (first | exact trivial | refine ⟨rfl, ?_⟩))), rfl, rfl, rfl, ?_⟩
  rw [Fo.dep_one hx (by omega)]; exact ⟨rfl, rfl⟩
theorem rLength_ok (l : List Nd) (hl : l.length ≤ 2 ^ 40) : WpCallG A 21 [.fsl 3 (l.map encD)] [] (fun v H => v = .tup [.v (.int .i64 (lenV l).1), .v (.bool (lenV l).2)] ∧ H = []) := by
 have hz := Fo.dep_zero hl
 refine WpCallG.intro g21 rfl rfl ?_
 unfold af21
 change WpG _ _ _ _ _
 refine WpG.seq ?_
 refine WpG.reg ?_
 refine G.mv rfl ?_
 refine G.mv rfl ?_
 refine WpOpsG.nil ?_
 change WpG _ _ _ _ _
 refine WpG.seq ?_
 refine WpG.seq ?_
 refine WpG.reg ?_
 refine G.mv rfl ?_
 refine G.call0 rfl rfl (rDepth_ok l hl) ?_
 rintro _ _ ⟨rfl, rfl⟩
 refine ⟨rfl, ?_⟩
 change WpOpsG _ _ ((6, _) :: _) _ _
 refine G.bin rfl rfl rfl ?_
 refine WpOpsG.nil ?_
 change WpG _ _ _ _ _
 refine WpG.cond rfl (fun hq1 => ?_) (fun hq1 => ?_)
 ·(try simp only [zN] at hq1)
  refine WpG.seq ?_
  refine WpG.reg ?_
  refine G.mv rfl ?_
  refine G.mv rfl ?_
  refine WpOpsG.nil ?_
  change WpG _ _ _ _ _
  refine WpG.ret ?_
  refine ⟨_, [], rfl, (hasP_le (by repeat (first | exact trivial | refine ⟨rfl, ?_⟩))), rfl, rfl, rfl, ?_⟩
  have e : lenV l = (0, false) := by unfold lenV; rw [if_neg (fun h => by have h1 := h.1; rw [hz.1 (by omega)] at h1; cases h1)]
  rw [e]; exact ⟨rfl, rfl⟩
 ·(try simp only [zN] at hq1)
  refine WpG.skip ?_
  change WpG _ _ _ _ _
  refine WpG.seq ?_
  have hw : wholeV l = true := hz.2 (by omega)
  obtain ⟨x, ks, rfl, hx⟩ := Fo.whole_tree hw
  refine WpG.reg ?_
  refine G.mv rfl ?_
  refine G.call0 rfl rfl (by
   have h := rlength_ok [] [] x ks hx (by simp only [List.nil_append, List.append_nil]; omega)
   rw [List.nil_append, List.append_nil] at h
   exact h) ?_
  rintro _ _ ⟨rfl, rfl⟩
  refine ⟨rfl, ?_⟩
  change WpOpsG _ _ ((9, _) :: _) _ _
  refine G.mv rfl ?_
  refine WpOpsG.nil ?_
  change WpG _ _ _ _ _
  refine WpG.seq ?_
  refine WpG.seq ?_
  refine WpG.reg ?_
  refine G.mv rfl ?_
  refine G.bin rfl rfl rfl ?_
  refine WpOpsG.nil ?_
  change WpG _ _ _ _ _
  refine WpG.cond rfl (fun hq2 => ?_) (fun hq2 => ?_)
  ·(try simp only [zN] at hq2)
   refine WpG.seq ?_
   refine WpG.reg ?_
   refine G.mv rfl ?_
   refine G.mv rfl ?_
   refine WpOpsG.nil ?_
   change WpG _ _ _ _ _
   refine WpG.ret ?_
   refine ⟨_, [], rfl, (hasP_le (by repeat (first | exact trivial | refine ⟨rfl, ?_⟩))), rfl, rfl, rfl, ?_⟩
   rw [Fo.len_one hx (by omega), if_neg (by omega)]; exact ⟨rfl, rfl⟩
  ·(try simp only [zN] at hq2)
   refine WpG.skip ?_
   change WpG _ _ _ _ _
   refine WpG.seq ?_
   refine WpG.reg ?_
   refine G.mv rfl ?_
   refine G.mv rfl ?_
   refine G.mv rfl ?_
   refine WpOpsG.nil ?_
   change WpG _ _ _ _ _
   refine WpG.ret ?_
   refine ⟨_, [], rfl, (hasP_le (by repeat (first | exact trivial | refine ⟨rfl, ?_⟩))), rfl, rfl, rfl, ?_⟩
   rw [Fo.len_one hx (by omega), if_pos (by omega)]; exact ⟨rfl, rfl⟩
theorem rRight_ok (l : List Nd) (hl : l.length ≤ 2 ^ 40) : WpCallG A 14 [.fsl 3 (l.map encD)] [] (fun v H => v = .v (.int .i64 (rightN l)) ∧ H = []) := by
 have hz := Fo.dep_zero hl
 refine WpCallG.intro g14 rfl rfl ?_
 unfold af14
 change WpG _ _ _ _ _
 refine WpG.seq ?_
 refine WpG.reg ?_
 refine G.mv rfl ?_
 refine WpOpsG.nil ?_
 change WpG _ _ _ _ _
 refine WpG.seq ?_
 refine WpG.seq ?_
 refine WpG.reg ?_
 refine G.mv rfl ?_
 refine G.lenM rfl ?_
 refine G.bin rfl rfl rfl ?_
 refine WpOpsG.nil ?_
 change WpG _ _ _ _ _
 refine WpG.cond rfl (fun hq1 => ?_) (fun hq1 => ?_)
 ·(try simp only [zN] at hq1)
  refine WpG.seq ?_
  refine WpG.reg ?_
  refine G.mv rfl ?_
  refine WpOpsG.nil ?_
  change WpG _ _ _ _ _
  refine WpG.ret ?_
  refine ⟨_, [], rfl, (hasP_le (by repeat (first | exact trivial | refine ⟨rfl, ?_⟩))), rfl, rfl, rfl, ?_⟩
  have e : rightN l = 3 := by unfold rightN; rw [if_pos (by omega)]
  rw [e]; exact ⟨rfl, rfl⟩
 ·(try simp only [zN] at hq1)
  refine WpG.skip ?_
  change WpG _ _ _ _ _
  refine WpG.seq ?_
  refine WpG.seq ?_
  refine WpG.reg ?_
  refine G.mv rfl ?_
  refine G.call0 rfl rfl (rDepth_ok l hl) ?_
  rintro _ _ ⟨rfl, rfl⟩
  refine ⟨rfl, ?_⟩
  change WpOpsG _ _ ((9, _) :: _) _ _
  refine G.bin rfl rfl rfl ?_
  refine WpOpsG.nil ?_
  change WpG _ _ _ _ _
  refine WpG.cond rfl (fun hq2 => ?_) (fun hq2 => ?_)
  ·(try simp only [zN] at hq2)
   refine WpG.seq ?_
   refine WpG.reg ?_
   refine G.mv rfl ?_
   refine WpOpsG.nil ?_
   change WpG _ _ _ _ _
   refine WpG.ret ?_
   refine ⟨_, [], rfl, (hasP_le (by repeat (first | exact trivial | refine ⟨rfl, ?_⟩))), rfl, rfl, rfl, ?_⟩
   have e : rightN l = 12 := by unfold rightN; rw [if_neg (by omega), if_pos (hz.1 (by omega))]
   rw [e]; exact ⟨rfl, rfl⟩
  ·(try simp only [zN] at hq2)
   refine WpG.skip ?_
   change WpG _ _ _ _ _
   refine WpG.seq ?_
   refine WpG.seq ?_
   refine WpG.reg ?_
   refine G.mv rfl ?_
   refine G.call0 rfl rfl (rDepth_ok l hl) ?_
   rintro _ _ ⟨rfl, rfl⟩
   refine ⟨rfl, ?_⟩
   change WpOpsG _ _ ((12, _) :: _) _ _
   refine G.bin rfl rfl rfl ?_
   refine WpOpsG.nil ?_
   change WpG _ _ _ _ _
   refine WpG.cond rfl (fun hq3 => ?_) (fun hq3 => ?_)
   ·(try simp only [zN] at hq3)
    refine WpG.seq ?_
    refine WpG.reg ?_
    refine G.mv rfl ?_
    refine WpOpsG.nil ?_
    change WpG _ _ _ _ _
    refine WpG.ret ?_
    refine ⟨_, [], rfl, (hasP_le (by repeat (first | exact trivial | refine ⟨rfl, ?_⟩))), rfl, rfl, rfl, ?_⟩
    have e : rightN l = 14 := by unfold rightN; rw [if_neg (by omega), hz.2 (by omega), if_neg (by simp), if_pos (by omega)]
    rw [e]; exact ⟨rfl, rfl⟩
   ·(try simp only [zN] at hq3)
    refine WpG.skip ?_
    change WpG _ _ _ _ _
    refine WpG.seq ?_
    refine WpG.seq ?_
    refine WpG.reg ?_
    refine G.mv rfl ?_
    refine G.call0 rfl rfl (rLength_ok l hl) ?_
    rintro _ _ ⟨rfl, rfl⟩
    refine ⟨rfl, ?_⟩
    change WpOpsG _ _ ((16, _) :: _) _ _
    refine G.mv rfl ?_
    refine G.ext rfl rfl ?_
    refine G.ext rfl rfl ?_
    refine G.mv rfl ?_
    refine G.mv rfl ?_
    refine WpOpsG.nil ?_
    change WpG _ _ _ _ _
    refine WpG.seq ?_
    refine WpG.reg ?_
    refine G.mv rfl ?_
    refine G.un rfl rfl ?_
    refine WpOpsG.nil ?_
    change WpG _ _ _ _ _
    refine WpG.cond rfl (fun hq4 => ?_) (fun hq4 => ?_)
    ·(try simp only [zN] at hq4)
     refine WpG.seq ?_
     refine WpG.reg ?_
     refine G.mv rfl ?_
     refine WpOpsG.nil ?_
     change WpG _ _ _ _ _
     refine WpG.ret ?_
     refine ⟨_, [], rfl, (hasP_le (by repeat (first | exact trivial | refine ⟨rfl, ?_⟩))), rfl, rfl, rfl, ?_⟩
     have e : rightN l = 18 := by unfold rightN; rw [if_neg (by omega), hz.2 (by omega), if_neg (by simp), if_neg (by omega), if_pos (by simp_all)]
     rw [e]; exact ⟨rfl, rfl⟩
    ·(try simp only [zN] at hq4)
     refine WpG.skip ?_
     change WpG _ _ _ _ _
     refine WpG.seq ?_
     refine WpG.reg ?_
     refine G.mv rfl ?_
     refine WpOpsG.nil ?_
     change WpG _ _ _ _ _
     refine WpG.ret ?_
     refine ⟨_, [], rfl, (hasP_le (by repeat (first | exact trivial | refine ⟨rfl, ?_⟩))), rfl, rfl, rfl, ?_⟩
     have e : rightN l = 0 := by unfold rightN; rw [if_neg (by omega), hz.2 (by omega), if_neg (by simp), if_neg (by omega), if_neg (by simp_all)]
     rw [e]; exact ⟨rfl, rfl⟩
end Go.AM.L3
