/- Contracts of the functions that the statement reaches. No condition. -/
import Derived.Test.YtkcacljpghfiaaaC16k
set_option linter.all false
set_option maxRecDepth 10000
namespace Go.AM.L16
open Go.AM.PL
set_option maxHeartbeats 1000000 in
theorem play16_ok (l : List Sp) (q : List Ak) (hl : l.length ≤ 2 ^ 40) (hq : q.length ≤ 2 ^ 40) : WpCallG A 15 [.fsl 2 (l.map encSp), .fsl 3 (q.map encAk)] [] (fun v H => v = .v (.bool true) ∧ H = []) := by
 refine WpCallG.intro g15 rfl rfl ?_
 unfold af15
 change WpG _ _ _ _ _
 refine WpG.seq ?_
 refine WpG.reg ?_
 refine G.mv rfl ?_
 refine WpOpsG.nil ?_
 change WpG _ _ _ _ _
 refine WpG.seq ?_
 rcases Classical.em (1 ≤ l.length ∧ l.length ≤ 3) with hz | hz
 ·change WpG _ _ _ _ _
  refine WpG.reg ?_
  refine G.mv rfl ?_
  refine G.call0 rfl rfl ((new16_ok l (by omega) (by omega)).ren [(0, 20), (1, 21)]) ?_
  rintro _ _ ⟨_, _, ⟨rfl, rfl⟩, rfl, rfl⟩
  change newOk _ _ [(20, _), (21, _)] = true ∧ _
  refine ⟨rfl, ?_⟩
  change WpOpsG _ _ ((11, .bptr 20 0) :: _) ([(20, .box [.osl 21]), (21, .arr .yes 3 ((newP l).map encPr))] ++ _) _
  refine G.mv rfl ?_
  refine WpOpsG.nil ?_
  change WpG _ _ _ _ _
  refine WpG.seq ?_
  refine WpG.seq ?_
  refine WpG.reg ?_
  refine G.mv rfl ?_
  refine G.lenM rfl ?_
  refine G.bin rfl rfl rfl ?_
  refine G.mv rfl ?_
  apply G.orS rfl rfl rfl rfl rfl rfl
  case hB =>
   intro hs1
   (try simp only [zN] at hs1)
   refine G.mv rfl ?_
   refine G.lenM rfl ?_
   refine G.bin rfl rfl rfl ?_
   refine WpOpsG.nil ?_
   exact ⟨rfl, (by repeat (first | exact LLe.refl _ | refine LLe.cons rfl ?_)), (by repeat (first | exact HLe.refl _ | refine HLe.cons rfl ?_)), rfl⟩
  refine WpOpsG.nil ?_
  change WpG _ _ _ _ _
  refine WpG.cond rfl (fun hq2 => ?_) (fun hq2 => ?_)
  ·(try simp only [zN] at hq2)
   exfalso; omega
  ·(try simp only [zN] at hq2)
   refine WpG.skip ?_
   change WpG _ _ _ _ _
   refine WpG.seq ?_
   refine WpG.reg ?_
   refine G.bslice (g := 39) rfl rfl rfl rfl ?_
   refine G.mv rfl ?_
   refine G.app (ds := l.map encSp) rfl rfl rfl rfl trivial (by rw [List.length_map]; show (0 + l.length) * 16 ≤ 2 ^ 47; omega) ?_
   change WpOpsG _ _ _ ((39, .arr .yes 2 (l.map encSp)) :: _) _
   refine WpOpsG.freeze 39 rfl ?_
   refine G.call0 rfl rfl ((begin16_ok l (by omega)).ren [(0, 30), (1, 31), (2, 32)]) ?_
   rintro _ _ ⟨_, _, ⟨rfl, rfl⟩, rfl, rfl⟩
   change newOk _ _ [(30, _), (31, _), (32, _)] = true ∧ _
   refine ⟨rfl, ?_⟩
   change WpOpsG _ _ ((25, .bptr 30 0) :: _) ([(30, .box [.fsl 2 (l.map encSp), .osl 31, .osl 32]), (31, .arr .yes 1 ((List.replicate l.length 0).map encK)), (32, .arr .yes 1 ((List.replicate l.length false).map encO))] ++ _) _
   refine G.mv rfl ?_
   refine WpOpsG.nil ?_
   change WpG _ _ _ _ _
   refine WpG.seq ?_
   refine WpG.seq ?_
   refine WpG.reg ?_
   refine G.mv rfl ?_
   refine WpOpsG.nil ?_
   change WpG _ _ _ _ _
   refine WpG.block ?_
   refine WpG.loop (S := Nat × List Pr × List Int × List Bool) (fun s => [(0, .fsl 2 (l.map encSp)), (1, .fsl 3 (q.map encAk)), (5, .bptr 20 0), (6, .bptr 30 0), (7, .v (.int .i64 (s.1 : Int)))]) (fun s => [(20, .box [.osl 21]), (21, .arr .yes 3 ((s.2.1).map encPr)), (30, .box [.fsl 2 (l.map encSp), .osl 31, .osl 32]), (31, .arr .yes 1 ((s.2.2.1).map encK)), (32, .arr .yes 1 ((s.2.2.2).map encO))]) (fun s => s.1 ≤ q.length ∧ RelP l s.2.1 s.2.2.1 s.2.2.2) (fun s => q.length - s.1) (fun s => ⟨rfl, rfl⟩) ?_ (0, newP l, List.replicate l.length 0, List.replicate l.length false) ?_ (by repeat (first | exact trivial | refine ⟨rfl, ?_⟩)) (by repeat (first | exact trivial | refine ⟨rfl, ?_⟩)) rfl
   ·rintro ⟨i, ps, wk, en⟩ ⟨hI, h⟩
    dsimp only at hI h ⊢
    have hn1 := h.n1
    refine WpG.seq ?_
    refine WpG.seq ?_
    refine WpG.reg ?_
    refine G.mv rfl ?_
    refine G.mv rfl ?_
    refine G.lenM rfl ?_
    refine G.bin rfl rfl rfl ?_
    refine G.mv rfl ?_
    apply G.andS rfl rfl rfl rfl rfl rfl
    case hB =>
     intro hs3
     (try simp only [zN] at hs3)
     refine G.mv rfl ?_
     refine G.bin rfl rfl rfl ?_
     refine WpOpsG.nil ?_
     exact ⟨rfl, (by repeat (first | exact LLe.refl _ | refine LLe.cons rfl ?_)), (by repeat (first | exact HLe.refl _ | refine HLe.cons rfl ?_)), rfl⟩
    refine WpOpsG.nil ?_
    change WpG _ _ _ _ _
    refine WpG.cond rfl (fun hq4 => ?_) (fun hq4 => ?_)
    ·(try simp only [zN] at hq4)
     have hiq : i < q.length := by omega
     refine WpG.skip ?_
     change WpG _ _ _ _ _
     refine WpG.seq ?_
     refine WpG.block ?_
     refine WpG.seq ?_
     refine WpG.reg ?_
     refine G.mv rfl ?_
     refine G.mv rfl ?_
     refine G.iaddrN rfl rfl (List.getElem?_eq_getElem (by omega)) ?_
     refine G.loadNF rfl rfl ?_
     refine G.box (g := 40) rfl rfl rfl ?_
     refine G.storeB rfl rfl rfl rfl rfl rfl ?_
     refine WpOpsG.nil ?_
     change WpG _ _ _ _ _
     refine WpG.seq ?_
     refine WpG.seq ?_
     refine WpG.reg ?_
     refine G.mv rfl ?_
     refine G.eqnilB rfl ?_
     refine WpOpsG.nil ?_
     change WpG _ _ _ _ _
     refine WpG.cond rfl (fun hq5 => absurd hq5 (by decide)) (fun hq5 => ?_)
     refine WpG.skip ?_
     change WpG _ _ _ _ _
     refine WpG.seq ?_
     refine WpG.reg ?_
     refine G.faddrB rfl ?_
     refine G.load1B rfl rfl rfl ?_
     refine G.bin rfl rfl rfl ?_
     refine G.mv rfl ?_
     apply G.andS rfl rfl rfl rfl rfl rfl
     case hB =>
      intro hs6
      (try simp only [zN] at hs6)
      refine G.faddrB rfl ?_
      refine G.load1B rfl rfl rfl ?_
      refine G.mv rfl ?_
      refine G.lenM rfl ?_
      refine G.bin rfl rfl rfl ?_
      refine WpOpsG.nil ?_
      exact ⟨rfl, (by repeat (first | exact LLe.refl _ | refine LLe.cons rfl ?_)), (by repeat (first | exact HLe.refl _ | refine HLe.cons rfl ?_)), rfl⟩
     refine G.mv rfl ?_
     refine WpOpsG.nil ?_
     change WpG _ _ _ _ _
     refine WpG.seqJ ([(0, .fsl 2 (l.map encSp)), (1, .fsl 3 (q.map encAk)), (5, .bptr 20 0), (6, .bptr 30 0), (7, .v (.int .i64 (i : Int))), (8, .bptr 40 0)]) ([(20, .box [.osl 21]), (21, .arr .yes 3 ((psA ps q[i]).map encPr)), (30, .box [.fsl 2 (l.map encSp), .osl 31, .osl 32]), (31, .arr .yes 1 ((wkA l wk q[i]).map encK)), (32, .arr .yes 1 ((enA l en q[i]).map encO)), (40, .box [.v (.int .i64 q[i].k), .v (.int .i64 q[i].i), .v (.int .i64 q[i].t)])]) ⟨rfl, rfl⟩ ?_ ?_
     ·change WpG _ _ _ _ _
      refine WpG.seq ?_
      rw [isV_l (ps := ps) (by omega)]
      refine WpG.reg ?_
      refine G.faddrB rfl ?_
      refine G.load1B rfl rfl rfl ?_
      refine WpOpsG.nil ?_
      change WpG _ _ _ _ _
      refine WpG.block ?_
      refine WpG.seq ?_
      refine WpG.seq ?_
      refine WpG.reg ?_
      refine G.bin rfl rfl rfl ?_
      refine G.mv rfl ?_
      refine WpOpsG.nil ?_
      change WpG _ _ _ _ _
      refine WpG.cond rfl (fun hq7 => ?_) (fun hq7 => ?_)
      ·(try simp only [zN] at hq7)
       have hk3 := hq7
       refine WpG.skip ?_
       change WpG _ _ _ _ _
       refine WpG.cond rfl (fun hq8 => ?_) (fun hq8 => ?_)
       ·(try simp only [zN] at hq8)
        refine WpG.seq ?_
        refine WpG.seq ?_
        refine WpG.reg ?_
        refine G.mv rfl ?_
        refine G.faddrB rfl ?_
        refine G.load1B rfl rfl rfl ?_
        refine G.faddrB rfl ?_
        refine G.load1B rfl rfl rfl ?_
        refine G.call (P := [(20, .box [.osl 21]), (21, .arr .yes 3 ((ps).map encPr))]) rfl (by repeat (first | exact trivial | refine ⟨rfl, ?_⟩)) rfl rfl ((sleep16_ok ps q[i].i q[i].t (by omega)).ren [(0, 20), (1, 21)]) ?_
        rintro _ _ ⟨_, _, ⟨rfl, rfl⟩, rfl, rfl⟩
        change newOk _ _ [(20, _), (21, _)] = true ∧ _
        refine ⟨rfl, ?_⟩
        change WpOpsG _ _ ((62, _) :: _) ([(20, .box [.osl 21]), (21, .arr .yes 3 ((sleepV ps q[i].i q[i].t).map encPr))] ++ _) _
        refine G.mv rfl ?_
        refine G.beq rfl rfl rfl ?_
        rw [beq_self_eq_true]
        refine WpOpsG.nil ?_
        change WpG _ _ _ _ _
        refine WpG.cond rfl (fun hq9 => absurd hq9 (by decide)) (fun hq9 => ?_)
        refine WpG.skip ?_
        change WpG _ _ _ _ _
        refine WpG.seq ?_
        refine WpG.reg ?_
        refine G.mv rfl ?_
        refine WpOpsG.nil ?_
        change WpG _ _ _ _ _
        refine WpG.cond rfl (fun hq10 => ?_) (fun hq10 => ?_)
        ·(try simp only [zN] at hq10)
         have hin : 0 ≤ q[i].i ∧ q[i].i < (l.length : Int) := by have := isV_iff.1 hq10; omega
         refine WpG.reg ?_
         refine G.mv rfl ?_
         refine G.nilcB rfl ?_
         refine G.faddrB rfl ?_
         refine G.load1B rfl rfl rfl ?_
         refine G.faddrB rfl ?_
         refine G.load1B rfl rfl rfl ?_
         refine G.faddrB rfl ?_
         refine G.load1B rfl rfl rfl ?_
         refine G.iaddrO rfl rfl rfl (by omega) (by rw [List.length_map]; have := h.n2; have := h.n3; omega) ?_
         refine G.storeEM (q[i].t) rfl rfl rfl (gd17 (0 : Int) (by have := h.n2; omega)) rfl rfl rfl rfl ?_
         refine WpOpsG.nil ?_
         refine ⟨⟨rfl, rfl, rfl, rfl, rfl, rfl, trivial⟩, ⟨rfl, ?_, rfl, ?_, ?_, rfl, trivial⟩, rfl⟩
         ·unfold psA; (repeat' split) <;> first | rfl | (exfalso; omega)
         ·unfold wkA; (repeat' split) <;> first | rfl | (exfalso; omega)
         ·unfold enA; (repeat' split) <;> first | rfl | (exfalso; omega)
        ·(try simp only [zN] at hq10)
         have hnin : ¬ (0 ≤ q[i].i ∧ q[i].i < (l.length : Int)) := fun c => by
          rw [isV_iff.2 ⟨c.1, by omega⟩] at hq10; cases hq10
         refine WpG.skip ?_
         refine ⟨⟨rfl, rfl, rfl, rfl, rfl, rfl, trivial⟩, ⟨rfl, ?_, rfl, ?_, ?_, rfl, trivial⟩, rfl⟩
         ·unfold psA; (repeat' split) <;> first | rfl | (exfalso; omega)
         ·unfold wkA; (repeat' split) <;> first | rfl | (exfalso; omega)
         ·unfold enA; (repeat' split) <;> first | rfl | (exfalso; omega)
       ·(try simp only [zN] at hq8)
        exfalso; omega
      ·(try simp only [zN] at hq7)
       have hk3 := hq7
       refine WpG.reg ?_
       refine G.bin rfl rfl rfl ?_
       refine G.mv rfl ?_
       refine WpOpsG.nil ?_
       change WpG _ _ _ _ _
       refine WpG.cond rfl (fun hq11 => ?_) (fun hq11 => ?_)
       ·(try simp only [zN] at hq11)
        have hk4 := hq11
        refine WpG.seq ?_
        refine WpG.seq ?_
        refine WpG.reg ?_
        refine G.mv rfl ?_
        refine G.faddrB rfl ?_
        refine G.load1B rfl rfl rfl ?_
        refine G.faddrB rfl ?_
        refine G.load1B rfl rfl rfl ?_
        refine G.call (P := [(20, .box [.osl 21]), (21, .arr .yes 3 ((ps).map encPr))]) rfl (by repeat (first | exact trivial | refine ⟨rfl, ?_⟩)) rfl rfl ((sleep16_ok ps q[i].i q[i].t (by omega)).ren [(0, 20), (1, 21)]) ?_
        rintro _ _ ⟨_, _, ⟨rfl, rfl⟩, rfl, rfl⟩
        change newOk _ _ [(20, _), (21, _)] = true ∧ _
        refine ⟨rfl, ?_⟩
        change WpOpsG _ _ ((62, _) :: _) ([(20, .box [.osl 21]), (21, .arr .yes 3 ((sleepV ps q[i].i q[i].t).map encPr))] ++ _) _
        refine G.mv rfl ?_
        refine G.beq rfl rfl rfl ?_
        rw [beq_self_eq_true]
        refine WpOpsG.nil ?_
        change WpG _ _ _ _ _
        refine WpG.cond rfl (fun hq12 => absurd hq12 (by decide)) (fun hq12 => ?_)
        refine WpG.skip ?_
        change WpG _ _ _ _ _
        refine WpG.seq ?_
        refine WpG.reg ?_
        refine G.mv rfl ?_
        refine WpOpsG.nil ?_
        change WpG _ _ _ _ _
        refine WpG.cond rfl (fun hq13 => ?_) (fun hq13 => ?_)
        ·(try simp only [zN] at hq13)
         have hin : 0 ≤ q[i].i ∧ q[i].i < (l.length : Int) := by have := isV_iff.1 hq13; omega
         refine WpG.reg ?_
         refine G.mv rfl ?_
         refine G.nilcB rfl ?_
         refine G.faddrB rfl ?_
         refine G.load1B rfl rfl rfl ?_
         refine G.faddrB rfl ?_
         refine G.load1B rfl rfl rfl ?_
         refine G.faddrB rfl ?_
         refine G.load1B rfl rfl rfl ?_
         refine G.iaddrO rfl rfl rfl (by omega) (by rw [List.length_map]; have := h.n2; have := h.n3; omega) ?_
         refine G.storeEM (q[i].t) rfl rfl rfl (gd17 (0 : Int) (by have := h.n2; omega)) rfl rfl rfl rfl ?_
         refine WpOpsG.nil ?_
         refine ⟨⟨rfl, rfl, rfl, rfl, rfl, rfl, trivial⟩, ⟨rfl, ?_, rfl, ?_, ?_, rfl, trivial⟩, rfl⟩
         ·unfold psA; (repeat' split) <;> first | rfl | (exfalso; omega)
         ·unfold wkA; (repeat' split) <;> first | rfl | (exfalso; omega)
         ·unfold enA; (repeat' split) <;> first | rfl | (exfalso; omega)
        ·(try simp only [zN] at hq13)
         have hnin : ¬ (0 ≤ q[i].i ∧ q[i].i < (l.length : Int)) := fun c => by
          rw [isV_iff.2 ⟨c.1, by omega⟩] at hq13; cases hq13
         refine WpG.skip ?_
         refine ⟨⟨rfl, rfl, rfl, rfl, rfl, rfl, trivial⟩, ⟨rfl, ?_, rfl, ?_, ?_, rfl, trivial⟩, rfl⟩
         ·unfold psA; (repeat' split) <;> first | rfl | (exfalso; omega)
         ·unfold wkA; (repeat' split) <;> first | rfl | (exfalso; omega)
         ·unfold enA; (repeat' split) <;> first | rfl | (exfalso; omega)
       ·(try simp only [zN] at hq11)
        have hk4 := hq11
        refine WpG.seq ?_
        refine WpG.reg ?_
        refine G.bin rfl rfl rfl ?_
        refine G.mv rfl ?_
        refine WpOpsG.nil ?_
        change WpG _ _ _ _ _
        refine WpG.cond rfl (fun hq14 => ?_) (fun hq14 => ?_)
        ·(try simp only [zN] at hq14)
         have hk5 := hq14
         refine WpG.seq ?_
         refine WpG.seq ?_
         refine WpG.reg ?_
         refine G.mv rfl ?_
         refine G.faddrB rfl ?_
         refine G.load1B rfl rfl rfl ?_
         refine G.call (P := [(20, .box [.osl 21]), (21, .arr .yes 3 ((ps).map encPr))]) rfl (by repeat (first | exact trivial | refine ⟨rfl, ?_⟩)) rfl rfl ((end16_ok ps q[i].i (by omega)).ren [(0, 20), (1, 21)]) ?_
         rintro _ _ ⟨_, _, ⟨rfl, rfl⟩, rfl, rfl⟩
         change newOk _ _ [(20, _), (21, _)] = true ∧ _
         refine ⟨rfl, ?_⟩
         change WpOpsG _ _ ((80, _) :: _) ([(20, .box [.osl 21]), (21, .arr .yes 3 ((endV ps q[i].i).map encPr))] ++ _) _
         refine G.mv rfl ?_
         refine G.beq rfl rfl rfl ?_
         rw [beq_self_eq_true]
         refine WpOpsG.nil ?_
         change WpG _ _ _ _ _
         refine WpG.cond rfl (fun hq15 => absurd hq15 (by decide)) (fun hq15 => ?_)
         refine WpG.skip ?_
         change WpG _ _ _ _ _
         refine WpG.seq ?_
         refine WpG.reg ?_
         refine G.mv rfl ?_
         refine WpOpsG.nil ?_
         change WpG _ _ _ _ _
         refine WpG.cond rfl (fun hq16 => ?_) (fun hq16 => ?_)
         ·(try simp only [zN] at hq16)
          have hin : 0 ≤ q[i].i ∧ q[i].i < (l.length : Int) := by have := isV_iff.1 hq16; omega
          refine WpG.reg ?_
          refine G.mv rfl ?_
          refine G.nilcB rfl ?_
          refine G.faddrB rfl ?_
          refine G.load1B rfl rfl rfl ?_
          refine G.faddrB rfl ?_
          refine G.load1B rfl rfl rfl ?_
          refine G.iaddrO rfl rfl rfl (by omega) (by rw [List.length_map]; have := h.n2; have := h.n3; omega) ?_
          refine G.storeEM true rfl rfl rfl (gd17 false (by have := h.n3; omega)) rfl rfl rfl rfl ?_
          refine WpOpsG.nil ?_
          refine ⟨⟨rfl, rfl, rfl, rfl, rfl, rfl, trivial⟩, ⟨rfl, ?_, rfl, ?_, ?_, rfl, trivial⟩, rfl⟩
          ·unfold psA; (repeat' split) <;> first | rfl | (exfalso; omega)
          ·unfold wkA; (repeat' split) <;> first | rfl | (exfalso; omega)
          ·unfold enA; (repeat' split) <;> first | rfl | (exfalso; omega)
         ·(try simp only [zN] at hq16)
          have hnin : ¬ (0 ≤ q[i].i ∧ q[i].i < (l.length : Int)) := fun c => by
           rw [isV_iff.2 ⟨c.1, by omega⟩] at hq16; cases hq16
          refine WpG.skip ?_
          refine ⟨⟨rfl, rfl, rfl, rfl, rfl, rfl, trivial⟩, ⟨rfl, ?_, rfl, ?_, ?_, rfl, trivial⟩, rfl⟩
          ·unfold psA; (repeat' split) <;> first | rfl | (exfalso; omega)
          ·unfold wkA; (repeat' split) <;> first | rfl | (exfalso; omega)
          ·unfold enA; (repeat' split) <;> first | rfl | (exfalso; omega)
        ·(try simp only [zN] at hq14)
         have hk5 := hq14
         refine WpG.seq ?_
         refine WpG.reg ?_
         refine G.bin rfl rfl rfl ?_
         refine G.mv rfl ?_
         refine WpOpsG.nil ?_
         change WpG _ _ _ _ _
         refine WpG.cond rfl (fun hq17 => ?_) (fun hq17 => ?_)
         ·(try simp only [zN] at hq17)
          have hk6 := hq17
          refine WpG.seq ?_
          refine WpG.reg ?_
          refine G.faddrB rfl ?_
          refine G.load1B rfl rfl rfl ?_
          refine G.andK rfl rfl ?_
          refine G.bin rfl rfl rfl ?_
          refine WpOpsG.nil ?_
          change WpG _ _ _ _ _
          refine WpG.cond rfl (fun hq18 => ?_) (fun hq18 => ?_)
          ·(try simp only [zN] at hq18)
           have ht3 := hq18
           refine WpG.seq ?_
           refine WpG.reg ?_
           refine G.mv rfl ?_
           refine G.call (P := [(20, .box [.osl 21]), (21, .arr .yes 3 ((ps).map encPr))]) rfl (by repeat (first | exact trivial | refine ⟨rfl, ?_⟩)) rfl rfl ((reset16_ok ps (by omega)).ren [(0, 20), (1, 21)]) ?_
           rintro _ _ ⟨_, _, ⟨rfl, rfl⟩, rfl, rfl⟩
           change newOk _ _ [(20, _), (21, _)] = true ∧ _
           refine ⟨rfl, ?_⟩
           change WpOpsG _ _ ((98, _) :: _) ([(20, .box [.osl 21]), (21, .arr .yes 3 ((ps.map rstP).map encPr))] ++ _) _
           refine WpOpsG.nil ?_
           change WpG _ _ _ _ _
           refine WpG.reg ?_
           refine G.mv rfl ?_
           refine G.nilcB rfl ?_
           refine G.faddrB rfl ?_
           refine G.load1B rfl rfl rfl ?_
           refine WpOpsG.less (L' := [(102, .fsl 2 (l.map encSp)), (0, .fsl 2 (l.map encSp)), (1, .fsl 3 (q.map encAk)), (5, .bptr 20 0), (7, .v (.int .i64 (i : Int))), (8, .bptr 40 0)]) (HG' := [(20, .box [.osl 21]), (21, .arr .yes 3 ((ps.map rstP).map encPr)), (40, .box [.v (.int .i64 q[i].k), .v (.int .i64 q[i].i), .v (.int .i64 q[i].t)])]) (hasP_le (by repeat (first | exact trivial | refine ⟨rfl, ?_⟩))) (hasP_le (by repeat (first | exact trivial | refine ⟨rfl, ?_⟩))) rfl rfl rfl ?_
           refine G.call0 rfl rfl ((begin16_ok l (by omega)).ren [(0, 30), (1, 31), (2, 32)]) ?_
           rintro _ _ ⟨_, _, ⟨rfl, rfl⟩, rfl, rfl⟩
           change newOk _ _ [(30, _), (31, _), (32, _)] = true ∧ _
           refine ⟨rfl, ?_⟩
           change WpOpsG _ _ ((103, .bptr 30 0) :: _) ([(30, .box [.fsl 2 (l.map encSp), .osl 31, .osl 32]), (31, .arr .yes 1 ((List.replicate l.length 0).map encK)), (32, .arr .yes 1 ((List.replicate l.length false).map encO))] ++ _) _
           refine G.mv rfl ?_
           refine WpOpsG.nil ?_
           refine ⟨⟨rfl, rfl, rfl, rfl, rfl, rfl, trivial⟩, ⟨rfl, ?_, rfl, ?_, ?_, rfl, trivial⟩, rfl⟩
           ·unfold psA; (repeat' split) <;> first | rfl | (exfalso; omega)
           ·unfold wkA; (repeat' split) <;> first | rfl | (exfalso; omega)
           ·unfold enA; (repeat' split) <;> first | rfl | (exfalso; omega)
          ·(try simp only [zN] at hq18)
           have ht3 := hq18
           refine WpG.skip ?_
           refine ⟨⟨rfl, rfl, rfl, rfl, rfl, rfl, trivial⟩, ⟨rfl, ?_, rfl, ?_, ?_, rfl, trivial⟩, rfl⟩
           ·unfold psA; (repeat' split) <;> first | rfl | (exfalso; omega)
           ·unfold wkA; (repeat' split) <;> first | rfl | (exfalso; omega)
           ·unfold enA; (repeat' split) <;> first | rfl | (exfalso; omega)
         ·(try simp only [zN] at hq17)
          have hk6 := hq17
          refine WpG.skip ?_
          refine ⟨⟨rfl, rfl, rfl, rfl, rfl, rfl, trivial⟩, ⟨rfl, ?_, rfl, ?_, ?_, rfl, trivial⟩, rfl⟩
          ·unfold psA; (repeat' split) <;> first | rfl | (exfalso; omega)
          ·unfold wkA; (repeat' split) <;> first | rfl | (exfalso; omega)
          ·unfold enA; (repeat' split) <;> first | rfl | (exfalso; omega)
     have h2 := relA h q[i]
     obtain ⟨ps, hps⟩ : ∃ z, psA ps q[i] = z := ⟨_, rfl⟩
     rw [hps] at h2 ⊢
     obtain ⟨wk, hwk⟩ : ∃ z, wkA l wk q[i] = z := ⟨_, rfl⟩
     rw [hwk] at h2 ⊢
     obtain ⟨en, hen⟩ : ∃ z, enA l en q[i] = z := ⟨_, rfl⟩
     rw [hen] at h2 ⊢
     clear h
     have h := h2
     change WpG _ _ _ _ _
     refine WpG.seq ?_
     refine WpG.reg ?_
     refine G.mv rfl ?_
     refine G.mv rfl ?_
     refine G.faddrB rfl ?_
     refine G.load1B rfl rfl rfl ?_
     refine G.lend rfl rfl (same16_ok l wk en ps q[i].t h (by omega)) ?_
     rintro _ _ ⟨rfl, rfl⟩
     refine ⟨rfl, trivial, rfl, ?_⟩
     change WpOpsG _ _ ((108, _) :: _) _ _
     refine G.un rfl rfl ?_
     refine G.mv rfl ?_
     refine WpOpsG.known 110 false rfl rfl ?_
     refine G.mv rfl ?_
     refine G.mv rfl ?_
     refine G.mv rfl ?_
     refine G.lend rfl rfl (same16_ok l wk en ps (i : Int) h (by omega)) ?_
     rintro _ _ ⟨rfl, rfl⟩
     refine ⟨rfl, trivial, rfl, ?_⟩
     change WpOpsG _ _ ((114, _) :: _) _ _
     refine G.un rfl rfl ?_
     refine G.pickF rfl rfl ?_
     refine WpOpsG.nil ?_
     change WpG _ _ _ _ _
     refine WpG.cond rfl (fun hq19 => absurd hq19 (by decide)) (fun hq19 => ?_)
     refine WpG.skip ?_
     change WpG _ _ _ _ _
     refine WpG.reg ?_
     refine G.mv rfl ?_
     refine G.addI rfl rfl (by omega) ?_
     refine G.mv rfl ?_
     refine WpOpsG.nil ?_
     exact ⟨(i + 1, ps, wk, en), by show q.length - (i + 1) < q.length - i; omega, ⟨by dsimp only; omega, h⟩, ⟨rfl, rfl, rfl, rfl, rfl, trivial⟩, ⟨rfl, rfl, rfl, rfl, rfl, trivial⟩, rfl⟩
    ·(try simp only [zN] at hq4)
     refine WpG.exit ?_
     change WpG _ _ _ _ _
     refine WpG.seq ?_
     refine WpG.reg ?_
     refine G.mv rfl ?_
     refine G.eqnilB rfl ?_
     refine G.mv rfl ?_
     refine WpOpsG.known 119 true rfl rfl ?_
     refine G.mv rfl ?_
     refine G.mv rfl ?_
     refine G.lend rfl rfl (same16_ok l wk en ps 0 h (by omega)) ?_
     rintro _ _ ⟨rfl, rfl⟩
     refine ⟨rfl, trivial, rfl, ?_⟩
     change WpOpsG _ _ ((122, _) :: _) _ _
     refine G.pickT rfl rfl ?_
     refine G.mv rfl ?_
     refine WpOpsG.nil ?_
     change WpG _ _ _ _ _
     refine WpG.ret ?_
     refine ⟨_, [], rfl, (hasP_le (by repeat (first | exact trivial | refine ⟨rfl, ?_⟩))), rfl, rfl, rfl, ?_⟩
     exact ⟨rfl, rfl⟩
   ·exact ⟨Nat.zero_le _, rel_new l⟩
 ·change WpG _ _ _ _ _
  refine WpG.reg ?_
  refine G.mv rfl ?_
  refine G.call0 rfl rfl (newN16_ok l (by omega) (by omega)) ?_
  rintro _ _ ⟨rfl, rfl⟩
  refine ⟨rfl, ?_⟩
  change WpOpsG _ _ ((11, _) :: _) _ _
  refine G.mv rfl ?_
  refine WpOpsG.nil ?_
  change WpG _ _ _ _ _
  refine WpG.seq ?_
  refine WpG.seq ?_
  refine WpG.reg ?_
  refine G.mv rfl ?_
  refine G.lenM rfl ?_
  refine G.bin rfl rfl rfl ?_
  refine G.mv rfl ?_
  apply G.orS rfl rfl rfl rfl rfl rfl
  case hB =>
   intro hs20
   (try simp only [zN] at hs20)
   refine G.mv rfl ?_
   refine G.lenM rfl ?_
   refine G.bin rfl rfl rfl ?_
   refine WpOpsG.nil ?_
   exact ⟨rfl, (by repeat (first | exact LLe.refl _ | refine LLe.cons rfl ?_)), (by repeat (first | exact HLe.refl _ | refine HLe.cons rfl ?_)), rfl⟩
  refine WpOpsG.nil ?_
  change WpG _ _ _ _ _
  refine WpG.cond rfl (fun hq21 => ?_) (fun hq21 => ?_)
  ·(try simp only [zN] at hq21)
   refine WpG.seq ?_
   refine WpG.reg ?_
   refine G.mv rfl ?_
   refine G.eqnilP rfl ?_
   refine G.mv rfl ?_
   refine WpOpsG.nil ?_
   change WpG _ _ _ _ _
   refine WpG.ret ?_
   refine ⟨_, [], rfl, (hasP_le (by repeat (first | exact trivial | refine ⟨rfl, ?_⟩))), rfl, rfl, rfl, ?_⟩
   exact ⟨rfl, rfl⟩
  ·(try simp only [zN] at hq21)
   exfalso; omega
theorem procNumbers_ok  : WpCallG A 5 [] [] (fun v H => v = .v (.bool true) ∧ H = []) := by
 refine WpCallG.intro g5 rfl rfl ?_
 unfold af5
 change WpG _ _ _ _ _
 refine WpG.seq ?_
 refine WpG.reg ?_
 refine G.mv rfl ?_
 refine WpOpsG.nil ?_
 change WpG _ _ _ _ _
 refine WpG.seq ?_
 refine WpG.seq ?_
 refine WpG.reg ?_
 refine G.mv rfl ?_
 refine WpOpsG.nil ?_
 change WpG _ _ _ _ _
 refine WpG.block ?_
 refine WpG.loop (S := Nat) (fun k => [(1, .v (.int .i64 (k : Int)))]) (fun _ => []) (fun k => k ≤ 40) (fun k => 40 - k) (fun s => ⟨rfl, rfl⟩) ?_ 0 ?_ (by repeat (first | exact trivial | refine ⟨rfl, ?_⟩)) (by repeat (first | exact trivial | refine ⟨rfl, ?_⟩)) rfl
 ·intro k hk
  refine WpG.seq ?_
  refine WpG.seq ?_
  refine WpG.reg ?_
  refine G.mv rfl ?_
  refine G.bin rfl rfl rfl ?_
  refine WpOpsG.nil ?_
  change WpG _ _ _ _ _
  refine WpG.cond rfl (fun hq1 => ?_) (fun hq1 => ?_)
  ·(try simp only [zN] at hq1)
   refine WpG.skip ?_
   change WpG _ _ _ _ _
   refine WpG.seq ?_
   refine WpG.block ?_
   refine WpG.seq ?_
   refine WpG.reg ?_
   refine G.mv rfl ?_
   refine WpOpsG.nil ?_
   change WpG _ _ _ _ _
   refine WpG.seq ?_
   refine WpG.seq ?_
   refine WpG.reg ?_
   refine G.mv rfl ?_
   refine WpOpsG.nil ?_
   change WpG _ _ _ _ _
   refine WpG.block ?_
   refine WpG.ownNil (g := 21) (k := 2) (w := 3) rfl rfl ?_
   refine WpG.loop (S := Nat) (fun i => [(1, .v (.int .i64 (k : Int))), (2, .osl 21), (3, .v (.int .i64 (i : Int)))]) (fun i => [(21, .arr .yes 3 ((aL k i).map encAk))]) (fun i => i ≤ 70) (fun i => 70 - i) (fun s => ⟨rfl, rfl⟩) ?_ 0 ?_ (by repeat (first | exact trivial | refine ⟨rfl, ?_⟩)) (by repeat (first | exact trivial | refine ⟨rfl, ?_⟩)) rfl
   ·intro i hI
    refine WpG.seq ?_
    refine WpG.seq ?_
    refine WpG.reg ?_
    refine G.mv rfl ?_
    refine G.bin rfl rfl rfl ?_
    refine WpOpsG.nil ?_
    change WpG _ _ _ _ _
    refine WpG.cond rfl (fun hq2 => ?_) (fun hq2 => ?_)
    ·(try simp only [zN] at hq2)
     refine WpG.skip ?_
     change WpG _ _ _ _ _
     refine WpG.seq ?_
     refine WpG.block ?_
     have e1 := mul_le' (a := i) (b := i) (m := 70) (n := 70) (by omega) (by omega)
     have e2 := mul_le' (a := i) (b := k) (m := 70) (n := 40) (by omega) (by omega)
     refine WpG.reg ?_
     refine G.mv rfl ?_
     refine G.mv rfl ?_
     refine G.mv rfl ?_
     refine G.mulI rfl rfl (by omega) ?_
     refine G.mv rfl ?_
     refine G.addI rfl rfl (by omega) ?_
     refine G.remN rfl rfl (by omega) (by omega) ?_
     refine G.mv rfl ?_
     refine G.mulI rfl rfl (by omega) ?_
     refine G.mv rfl ?_
     refine G.addI rfl rfl (by omega) ?_
     refine G.remN rfl rfl (by omega) (by omega) ?_
     refine G.subI rfl rfl (by omega) ?_
     refine G.mv rfl ?_
     refine G.mv rfl ?_
     refine G.mulI rfl rfl (by omega) ?_
     refine G.remN rfl rfl (by omega) (by omega) ?_
     refine G.subI rfl rfl (by omega) ?_
     refine G.build rfl ?_
     refine G.bsliceF rfl rfl rfl ?_
     change WpOpsG _ _ ((31, .fsl 3 (([aN k i] : List Ak).map encAk)) :: _) _ _
     refine G.app rfl rfl rfl rfl trivial (by rw [List.length_map, aL_len]; show (i + 1) * 24 ≤ 2 ^ 47; omega) ?_
     refine G.mv rfl ?_
     refine WpOpsG.nil ?_
     change WpG _ _ _ _ _
     refine WpG.reg ?_
     refine G.mv rfl ?_
     refine G.addI rfl rfl (by omega) ?_
     refine G.mv rfl ?_
     refine WpOpsG.nil ?_
     refine ⟨i + 1, by omega, by omega, ⟨rfl, rfl, rfl, trivial⟩, ⟨?_, trivial⟩, rfl⟩
     rw [aL_snoc, List.map_append]; rfl
    ·(try simp only [zN] at hq2)
     refine WpG.exit ?_
     change WpG _ _ _ _ _
     refine WpG.seq ?_
     obtain rfl : i = 70 := by omega
     refine WpG.freeze 21 rfl ?_
     have hn3 : (lN k).length = 3 := rfl
     refine WpG.reg ?_
     refine G.mv rfl ?_
     refine G.remN rfl rfl (by omega) (by omega) ?_
     refine G.build rfl ?_
     refine G.build rfl ?_
     refine G.mv rfl ?_
     refine G.remN rfl rfl (by omega) (by omega) ?_
     refine G.build rfl ?_
     refine G.bsliceF rfl rfl rfl ?_
     change WpOpsG _ _ ((40, .fsl 2 ((lN k).map encSp)) :: _) _ _
     refine G.mv rfl ?_
     refine G.remN rfl rfl (by omega) (by omega) ?_
     refine G.addI rfl rfl (by omega) ?_
     rw [show 1 + (k : Int) % 3 = ((1 + k % 3 : Nat) : Int) by omega]
     refine G.slTake (n := 1 + k % 3) rfl rfl (by omega) ?_
     refine G.mv rfl ?_
     refine G.call0 rfl rfl (play16_ok ((lN k).take (1 + k % 3)) (aL k 70) (by rw [List.length_take]; omega) (by rw [aL_len]; decide)) ?_
     rintro _ _ ⟨rfl, rfl⟩
     refine ⟨rfl, ?_⟩
     change WpOpsG _ _ ((46, _) :: _) _ _
     refine G.un rfl rfl ?_
     refine G.mv rfl ?_
     refine WpOpsG.known 48 false rfl rfl ?_
     refine G.build rfl ?_
     refine G.build rfl ?_
     refine G.build rfl ?_
     refine G.bsliceF rfl rfl rfl ?_
     change WpOpsG _ _ ((52, .fsl 2 (([(0, 3), (0, 3), (0, 3)] : List Sp).map encSp)) :: _) _ _
     refine G.mv rfl ?_
     refine G.call0 rfl rfl (play16_ok [(0, 3), (0, 3), (0, 3)] (aL k 70) (by decide) (by rw [aL_len]; decide)) ?_
     rintro _ _ ⟨rfl, rfl⟩
     refine ⟨rfl, ?_⟩
     change WpOpsG _ _ ((54, _) :: _) _ _
     refine G.un rfl rfl ?_
     refine G.pickF rfl rfl ?_
     refine WpOpsG.nil ?_
     change WpG _ _ _ _ _
     refine WpG.cond rfl (fun hq3 => absurd hq3 (by decide)) (fun hq3 => ?_)
     refine WpG.skip ?_
     change WpG _ _ _ _ _
     refine WpG.reg ?_
     refine G.mv rfl ?_
     refine G.addI rfl rfl (by omega) ?_
     refine G.mv rfl ?_
     refine WpOpsG.nil ?_
     exact ⟨k + 1, by omega, by omega, ⟨rfl, trivial⟩, trivial, rfl⟩
   ·exact Nat.zero_le _
  ·(try simp only [zN] at hq1)
   refine WpG.exit ?_
   change WpG _ _ _ _ _
   refine WpG.seq ?_
   refine WpG.reg ?_
   refine G.call0 rfl rfl (nil1 (nil2 (play16_ok [] [] (by decide) (by decide)))) ?_
   rintro _ _ ⟨rfl, rfl⟩
   refine ⟨rfl, ?_⟩
   change WpOpsG _ _ ((57, _) :: _) _ _
   refine G.mv rfl ?_
   refine WpOpsG.known 58 true rfl rfl ?_
   refine G.mkslice (g := 30) rfl rfl (by omega) (by omega) (by omega) (by omega) rfl rfl rfl rfl ?_
   change WpOpsG _ _ _ ((30, .arr .yes 2 ((List.replicate 4 ((0, 0) : Sp)).map encSp)) :: _) _
   refine WpOpsG.freeze 30 rfl ?_
   refine G.call0 rfl rfl (nil2 (play16_ok (List.replicate 4 (0, 0)) [] (by decide) (by decide))) ?_
   rintro _ _ ⟨rfl, rfl⟩
   refine ⟨rfl, ?_⟩
   change WpOpsG _ _ ((60, _) :: _) _ _
   refine G.pickT rfl rfl ?_
   refine G.mv rfl ?_
   refine WpOpsG.known 62 true rfl rfl ?_
   refine G.mkslice (g := 31) rfl rfl (by omega) (by omega) (by omega) (by omega) rfl rfl rfl rfl ?_
   change WpOpsG _ _ _ ((31, .arr .yes 2 ((List.replicate 2 ((0, 0) : Sp)).map encSp)) :: _) _
   refine WpOpsG.freeze 31 rfl ?_
   refine G.build rfl ?_
   refine G.build rfl ?_
   refine G.build rfl ?_
   refine G.build rfl ?_
   refine G.bsliceF rfl rfl rfl ?_
   change WpOpsG _ _ ((68, .fsl 3 (([⟨3, 0, 9223372036854775807⟩, ⟨0, 0, 9223372036854775807⟩, ⟨3, 1, -9223372036854775808⟩, ⟨0, 0, -9223372036854775808⟩] : List Ak).map encAk)) :: _) _ _
   refine G.call0 rfl rfl (play16_ok (List.replicate 2 (0, 0)) [⟨3, 0, 9223372036854775807⟩, ⟨0, 0, 9223372036854775807⟩, ⟨3, 1, -9223372036854775808⟩, ⟨0, 0, -9223372036854775808⟩] (by decide) (by decide)) ?_
   rintro _ _ ⟨rfl, rfl⟩
   refine ⟨rfl, ?_⟩
   change WpOpsG _ _ ((69, _) :: _) _ _
   refine G.pickT rfl rfl ?_
   refine G.mv rfl ?_
   refine WpOpsG.known 71 true rfl rfl ?_
   refine G.call0 rfl rfl (known16_ok) ?_
   rintro _ _ ⟨rfl, rfl⟩
   refine ⟨rfl, ?_⟩
   change WpOpsG _ _ ((72, _) :: _) _ _
   refine G.pickT rfl rfl ?_
   refine G.mv rfl ?_
   refine WpOpsG.nil ?_
   change WpG _ _ _ _ _
   refine WpG.ret ?_
   refine ⟨_, [], rfl, (hasP_le (by repeat (first | exact trivial | refine ⟨rfl, ?_⟩))), rfl, rfl, rfl, ?_⟩
   exact ⟨rfl, rfl⟩
 ·exact Nat.zero_le _
end Go.AM.L16
