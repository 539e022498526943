/- Contracts of the functions that the statement reaches. No condition. -/
import Derived.Test.YtnkbbfnloecbcaaC3a
set_option linter.all false
set_option maxRecDepth 10000
namespace Go.AM.L3
open Go.AM.PL
set_option maxHeartbeats 2000000 in
theorem measure_ok (l : List Nd) (hl : l.length ≤ 2 ^ 41) : WpCallG A 28 [.fsl 3 (l.map encD)] [] (fun v H => v = .tup [.v (.int .i64 (botF (runS l)).dep), .v (.int .i64 (botF (runS l)).tot)] ∧ H = []) := by
 refine WpCallG.intro g28 rfl rfl ?_
 unfold af28
 change WpG _ _ _ _ _
 refine WpG.seq ?_
 refine WpG.reg ?_
 refine G.mv rfl ?_
 refine G.mv rfl ?_
 refine WpOpsG.nil ?_
 change WpG _ _ _ _ _
 refine WpG.seq ?_
 refine WpG.reg ?_
 refine G.build rfl ?_
 refine G.bslice (g := 30) rfl rfl rfl rfl ?_
 change WpOpsG _ _ ((11, .osl 30) :: _) ((30, .arr .yes 6 ((stk sent []).map encF)) :: _) _
 refine WpOpsG.noO 30 rfl ?_
 refine G.mv rfl ?_
 refine WpOpsG.nil ?_
 change WpG _ _ _ _ _
 refine WpG.seq ?_
 refine WpG.seq ?_
 refine WpG.reg ?_
 refine G.mv rfl ?_
 refine G.lenM rfl ?_
 refine G.mv rfl ?_
 refine WpOpsG.nil ?_
 change WpG _ _ _ _ _
 refine WpG.block ?_
 refine WpG.loop (S := Nat) (fun i => [(4, .osl 30), (12, .fsl 3 (l.map encD)), (13, .v (.int .i64 (l.length))), (14, .v (.int .i64 i))]) (fun i => [(30, .arr .no 6 ((stk (runS (l.take i)).1 (runS (l.take i)).2).map encF))]) (fun i => i ≤ l.length) (fun i => l.length - i) (fun s => ⟨rfl, rfl⟩) ?_ 0 ?_ (by repeat (first | exact trivial | refine ⟨rfl, ?_⟩)) (by repeat (first | exact trivial | refine ⟨rfl, ?_⟩)) rfl
 ·rintro i hI
  refine WpG.seq ?_
  refine WpG.reg ?_
  refine G.bin rfl rfl rfl ?_
  refine WpOpsG.nil ?_
  change WpG _ _ _ _ _
  refine WpG.seq ?_
  refine WpG.cond rfl (fun hq1 => ?_) (fun hq1 => ?_)
  ·(try simp only [zN] at hq1)
   refine WpG.skip ?_
   change WpG _ _ _ _ _
   refine WpG.seq ?_
   refine WpG.block ?_
   refine WpG.seq ?_
   have hlt : i < l.length := by omega
   obtain ⟨F, hF⟩ : ∃ F, (runS (l.take i)).1 = F := ⟨_, rfl⟩
   obtain ⟨S, hS⟩ : ∃ S, (runS (l.take i)).2 = S := ⟨_, rfl⟩
   have hSl := runS_len (l.take i)
   rw [hS, List.length_take] at hSl
   rw [hF, hS]
   have hkl0 := stk_len F S
   have hkl := stk_len ⟨l[i], kidV l[i], 0, 0⟩ (F :: S)
   have hcl : (F :: S).length = S.length + 1 := rfl
   have hT0 := stk_top ⟨l[i], kidV l[i], 0, 0⟩ (F :: S)
   refine WpG.reg ?_
   refine G.iaddrN rfl rfl (List.getElem?_eq_getElem (by omega)) ?_
   refine G.loadNF rfl rfl ?_
   refine G.box (g := 10) rfl rfl rfl ?_
   refine G.storeB rfl rfl rfl rfl rfl rfl ?_
   refine WpOpsG.nil ?_
   change WpG _ _ _ _ _
   refine WpG.seq ?_
   refine WpG.reg ?_
   refine G.mv rfl ?_
   refine G.loadNB rfl rfl rfl ?_
   refine G.loadNB rfl rfl rfl ?_
   refine G.ckcall0 rfl rfl rfl (kidsX_ok l[i]) ?_
   rintro _ _ ⟨rfl, rfl⟩
   refine ⟨rfl, ?_⟩
   change WpOpsG _ _ ((21, _) :: _) _ _
   refine G.build rfl ?_
   refine G.bsliceF rfl rfl rfl ?_
   refine G.app (ds := [(⟨l[i], kidV l[i], 0, 0⟩ : Fm)].map encF) rfl rfl rfl rfl (by exact Nat.le_refl _) (by simp only [List.length_map, List.length_cons, List.length_nil]; omega) ?_
   rw [← List.map_append, ← stk_cons]
   refine G.mv rfl ?_
   refine WpOpsG.nil ?_
   change WpG _ _ _ _ _
   refine WpG.seqJ ([(12, .fsl 3 (l.map encD)), (13, .v (.int .i64 l.length)), (14, .v (.int .i64 (i : Int))), (4, .osl 30)]) ([(30, .arr .no 6 ((stk (mk l[i]) (F :: S)).map encF))]) ⟨rfl, rfl⟩ ?_ ?_
   ·change WpG _ _ _ _ _
    refine WpG.seq ?_
    refine WpG.reg ?_
    refine G.mv rfl ?_
    refine G.lenOM rfl rfl ?_
    rw [hkl]
    refine G.subI rfl rfl (by omega) ?_
    rw [show (((F :: S).length + 1 : Nat) : Int) - 1 = ((F :: S).length : Int) by omega]
    refine G.mv rfl ?_
    refine WpOpsG.nil ?_
    change WpG _ _ _ _ _
    refine WpG.seq ?_
    refine WpG.reg ?_
    refine G.mv rfl ?_
    refine G.mv rfl ?_
    refine G.iaddrO rfl rfl rfl (by omega) (by rw [List.length_map]; omega) ?_
    refine G.faddrE rfl ?_
    refine G.load1EM rfl rfl hT0 rfl ?_
    refine G.bin rfl rfl rfl ?_
    refine WpOpsG.nil ?_
    change WpG _ _ _ _ _
    refine WpG.cond rfl (fun hq2 => ?_) (fun hq2 => ?_)
    ·(try simp only [zN] at hq2)
     refine WpG.reg ?_
     refine G.mv rfl ?_
     refine G.mv rfl ?_
     refine G.faddrB rfl ?_
     refine G.load1B rfl rfl rfl ?_
     refine G.mn rfl rfl ?_
     refine G.iaddrO rfl rfl rfl (by omega) (by rw [List.length_map]; omega) ?_
     refine G.faddrE rfl ?_
     refine G.storeEM ⟨l[i], kidV l[i], 0, min 4097 l[i].n⟩ rfl rfl rfl hT0 rfl rfl rfl rfl ?_
     refine WpOpsG.nil ?_
     first
      | (have e : mk l[i] = ⟨l[i], kidV l[i], 0, min 4097 l[i].n⟩ := by unfold mk; rw [if_pos (by omega)]
         rw [e, ← stk_set ⟨l[i], kidV l[i], 0, 0⟩ _ (F :: S)]; exact ⟨⟨rfl, rfl, rfl, rfl, trivial⟩, ⟨rfl, trivial⟩, rfl⟩)
      | (have e : mk l[i] = ⟨l[i], kidV l[i], 0, 0⟩ := by unfold mk; rw [if_neg (by omega)]
         rw [e]; exact ⟨⟨rfl, rfl, rfl, rfl, trivial⟩, ⟨rfl, trivial⟩, rfl⟩)
    ·(try simp only [zN] at hq2)
     refine WpG.skip ?_
     first
      | (have e : mk l[i] = ⟨l[i], kidV l[i], 0, min 4097 l[i].n⟩ := by unfold mk; rw [if_pos (by omega)]
         rw [e, ← stk_set ⟨l[i], kidV l[i], 0, 0⟩ _ (F :: S)]; exact ⟨⟨rfl, rfl, rfl, rfl, trivial⟩, ⟨rfl, trivial⟩, rfl⟩)
      | (have e : mk l[i] = ⟨l[i], kidV l[i], 0, 0⟩ := by unfold mk; rw [if_neg (by omega)]
         rw [e]; exact ⟨⟨rfl, rfl, rfl, rfl, trivial⟩, ⟨rfl, trivial⟩, rfl⟩)
   change WpG _ _ _ _ _
   refine WpG.block ?_
   refine WpG.loop (S := Fm × List Fm) (fun s => [(12, .fsl 3 (l.map encD)), (13, .v (.int .i64 l.length)), (14, .v (.int .i64 (i : Int))), (4, .osl 30)]) (fun s => [(30, .arr .no 6 ((stk s.1 s.2).map encF))]) (fun s => settleF s.1 s.2 = push (runS (l.take i)) l[i] ∧ s.2.length ≤ l.length) (fun s => s.2.length) (fun s => ⟨rfl, rfl⟩) ?_ (mk l[i], F :: S) ?_ (by repeat (first | exact trivial | refine ⟨rfl, ?_⟩)) (by repeat (first | exact trivial | refine ⟨rfl, ?_⟩)) rfl
   ·rintro ⟨P, T⟩ ⟨hT, hTl⟩
    dsimp only at hT hTl ⊢
    have hkp := stk_len P T
    refine WpG.seq ?_
    refine WpG.seq ?_
    refine WpG.reg ?_
    refine G.mv rfl ?_
    refine G.lenOM rfl rfl ?_
    rw [hkp]
    refine G.bin rfl rfl rfl ?_
    refine G.mv rfl ?_
    apply G.andS rfl rfl rfl rfl rfl rfl
    case hB =>
     intro hs3
     (try simp only [zN] at hs3)
     refine G.mv rfl ?_
     refine G.mv rfl ?_
     refine G.lenOM rfl rfl ?_
     rw [hkp]
     refine G.subI rfl rfl (by omega) ?_
     rw [show ((T.length + 1 : Nat) : Int) - 1 = (T.length : Int) by omega]
     refine G.iaddrO rfl rfl rfl (by omega) (by rw [List.length_map]; omega) ?_
     refine G.faddrE rfl ?_
     refine G.load1EM rfl rfl (stk_top P T) rfl ?_
     refine G.bin rfl rfl rfl ?_
     refine WpOpsG.nil ?_
     exact ⟨rfl, (by repeat (first | exact LLe.refl _ | refine LLe.cons rfl ?_)), (by repeat (first | exact HLe.refl _ | refine HLe.cons rfl ?_)), rfl⟩
    refine WpOpsG.nil ?_
    change WpG _ _ _ _ _
    refine WpG.cond rfl (fun hq4 => ?_) (fun hq4 => ?_)
    ·(try simp only [zN] at hq4)
     refine WpG.skip ?_
     change WpG _ _ _ _ _
     refine WpG.block ?_
     refine WpG.seq ?_
     have hTp : 0 < T.length := by omega
     obtain ⟨E, U, rfl⟩ := List.exists_cons_of_length_pos hTp
     rw [settleF, if_pos (by omega)] at hT
     have hcu : (E :: U).length = U.length + 1 := rfl
     have hku := stk_len E U
     refine WpG.reg ?_
     refine G.mv rfl ?_
     refine G.mv rfl ?_
     refine G.lenOM rfl rfl ?_
     rw [hkp]
     refine G.subI rfl rfl (by omega) ?_
     rw [show (((E :: U).length + 1 : Nat) : Int) - 1 = ((E :: U).length : Int) by omega]
     refine G.iaddrO rfl rfl rfl (by omega) (by rw [List.length_map]; omega) ?_
     refine G.loadNEM rfl rfl (stk_top P (E :: U)) rfl ?_
     refine G.mv rfl ?_
     refine G.mv rfl ?_
     refine G.lenOM rfl rfl ?_
     rw [hkp]
     refine G.subI rfl rfl (by omega) ?_
     rw [show (((E :: U).length + 1 : Nat) : Int) - 2 = (U.length : Int) by omega]
     refine G.iaddrO rfl rfl rfl (by omega) (by rw [List.length_map]; omega) ?_
     refine G.box (g := 11) rfl rfl rfl ?_
     refine G.storeB rfl rfl rfl rfl rfl rfl ?_
     refine G.mv rfl ?_
     refine WpOpsG.nil ?_
     change WpG _ _ _ _ _
     refine WpG.seq ?_
     refine WpG.reg ?_
     refine G.mv rfl ?_
     refine G.mv rfl ?_
     refine G.lenOM rfl rfl ?_
     rw [hkp]
     refine G.subI rfl rfl (by omega) ?_
     rw [show (((E :: U).length + 1 : Nat) : Int) - 1 = ((E :: U).length : Int) by omega]
     refine G.slPre (hi := (E :: U).length) rfl rfl rfl (by rw [List.length_map]; omega) ?_
     rw [← List.map_take, show (E :: U).length = U.length + 1 from rfl, stk_take]
     refine G.mv rfl ?_
     refine WpOpsG.nil ?_
     change WpG _ _ _ _ _
     refine WpG.seqJ ([(12, .fsl 3 (l.map encD)), (13, .v (.int .i64 l.length)), (14, .v (.int .i64 (i : Int))), (4, .osl 30), (8, .bptr 11 0), (9, .eptr 30 ((U.length : Int)).toNat 0)]) ([(30, .arr .no 6 ((stk E U).map encF)), (11, .box (encF ⟨P.x, P.left, P.dep, (if P.x.k = 4 then timV P.x.n P.tot else P.tot)⟩))]) ⟨rfl, rfl⟩ ?_ ?_
     ·change WpG _ _ _ _ _
      refine WpG.seq ?_
      refine WpG.reg ?_
      refine G.faddrB rfl ?_
      refine G.faddrB rfl ?_
      refine G.load1B rfl rfl rfl ?_
      refine G.bin rfl rfl rfl ?_
      refine WpOpsG.nil ?_
      change WpG _ _ _ _ _
      refine WpG.cond rfl (fun hq5 => ?_) (fun hq5 => ?_)
      ·(try simp only [zN] at hq5)
       refine WpG.reg ?_
       refine G.faddrB rfl ?_
       refine G.faddrB rfl ?_
       refine G.load1B rfl rfl rfl ?_
       refine G.faddrB rfl ?_
       refine G.load1B rfl rfl rfl ?_
       refine G.call0 rfl rfl (times_ok P.x.n P.tot) ?_
       rintro _ _ ⟨rfl, rfl⟩
       refine ⟨rfl, ?_⟩
       change WpOpsG _ _ ((79, _) :: _) _ _
       refine G.faddrB rfl ?_
       refine G.storeB rfl rfl rfl rfl rfl rfl ?_
       refine WpOpsG.nil ?_
       first
        | (rw [if_pos (by omega)]; exact ⟨⟨rfl, rfl, rfl, rfl, rfl, rfl, trivial⟩, ⟨rfl, rfl, trivial⟩, rfl⟩)
        | (rw [if_neg (by omega)]; exact ⟨⟨rfl, rfl, rfl, rfl, rfl, rfl, trivial⟩, ⟨rfl, rfl, trivial⟩, rfl⟩)
      ·(try simp only [zN] at hq5)
       refine WpG.skip ?_
       first
        | (rw [if_pos (by omega)]; exact ⟨⟨rfl, rfl, rfl, rfl, rfl, rfl, trivial⟩, ⟨rfl, rfl, trivial⟩, rfl⟩)
        | (rw [if_neg (by omega)]; exact ⟨⟨rfl, rfl, rfl, rfl, rfl, rfl, trivial⟩, ⟨rfl, rfl, trivial⟩, rfl⟩)
     change WpG _ _ _ _ _
     refine WpG.seq ?_
     refine WpG.reg ?_
     refine G.mv rfl ?_
     refine G.nilcE rfl ?_
     refine G.faddrE rfl ?_
     refine G.load1EM rfl rfl (stk_top E U) rfl ?_
     refine G.bin rfl rfl rfl ?_
     refine G.nilcE rfl ?_
     refine G.faddrE rfl ?_
     refine G.storeEM (⟨E.x, IntKind.i64.wrap (E.left - 1), E.dep, E.tot⟩ : Fm) rfl rfl rfl (stk_top E U) rfl rfl rfl rfl ?_
     rw [show (stk E U).set ((U.length : Int)).toNat (⟨E.x, IntKind.i64.wrap (E.left - 1), E.dep, E.tot⟩ : Fm) = stk (⟨E.x, IntKind.i64.wrap (E.left - 1), E.dep, E.tot⟩ : Fm) U from stk_set E (⟨E.x, IntKind.i64.wrap (E.left - 1), E.dep, E.tot⟩ : Fm) U]
     refine WpOpsG.nil ?_
     change WpG _ _ _ _ _
     refine WpG.seq ?_
     refine WpG.reg ?_
     refine G.mv rfl ?_
     refine G.mv rfl ?_
     refine G.nilcE rfl ?_
     refine G.faddrE rfl ?_
     refine G.load1EM rfl rfl (stk_top (⟨E.x, IntKind.i64.wrap (E.left - 1), E.dep, E.tot⟩ : Fm) U) rfl ?_
     refine G.faddrB rfl ?_
     refine G.load1B rfl rfl rfl ?_
     refine G.bin rfl rfl rfl ?_
     refine G.mx rfl rfl ?_
     refine G.nilcE rfl ?_
     refine G.faddrE rfl ?_
     refine G.storeEM (⟨E.x, IntKind.i64.wrap (E.left - 1), max E.dep (IntKind.i64.wrap (P.dep + 1)), E.tot⟩ : Fm) rfl rfl rfl (stk_top (⟨E.x, IntKind.i64.wrap (E.left - 1), E.dep, E.tot⟩ : Fm) U) rfl rfl rfl rfl ?_
     rw [show (stk (⟨E.x, IntKind.i64.wrap (E.left - 1), E.dep, E.tot⟩ : Fm) U).set ((U.length : Int)).toNat (⟨E.x, IntKind.i64.wrap (E.left - 1), max E.dep (IntKind.i64.wrap (P.dep + 1)), E.tot⟩ : Fm) = stk (⟨E.x, IntKind.i64.wrap (E.left - 1), max E.dep (IntKind.i64.wrap (P.dep + 1)), E.tot⟩ : Fm) U from stk_set (⟨E.x, IntKind.i64.wrap (E.left - 1), E.dep, E.tot⟩ : Fm) (⟨E.x, IntKind.i64.wrap (E.left - 1), max E.dep (IntKind.i64.wrap (P.dep + 1)), E.tot⟩ : Fm) U]
     refine WpOpsG.nil ?_
     change WpG _ _ _ _ _
     refine WpG.reg ?_
     refine G.mv rfl ?_
     refine G.mv rfl ?_
     refine G.nilcE rfl ?_
     refine G.faddrE rfl ?_
     refine G.load1EM rfl rfl (stk_top (⟨E.x, IntKind.i64.wrap (E.left - 1), max E.dep (IntKind.i64.wrap (P.dep + 1)), E.tot⟩ : Fm) U) rfl ?_
     refine G.faddrB rfl ?_
     refine G.load1B rfl rfl rfl ?_
     refine G.call0 rfl rfl (addX_ok E.tot (if P.x.k = 4 then timV P.x.n P.tot else P.tot)) ?_
     rintro _ _ ⟨rfl, rfl⟩
     refine ⟨rfl, ?_⟩
     change WpOpsG _ _ ((106, _) :: _) _ _
     refine G.nilcE rfl ?_
     refine G.faddrE rfl ?_
     refine G.storeEM (pop1 P E) rfl rfl rfl (stk_top (⟨E.x, IntKind.i64.wrap (E.left - 1), max E.dep (IntKind.i64.wrap (P.dep + 1)), E.tot⟩ : Fm) U) rfl rfl rfl rfl ?_
     rw [show (stk (⟨E.x, IntKind.i64.wrap (E.left - 1), max E.dep (IntKind.i64.wrap (P.dep + 1)), E.tot⟩ : Fm) U).set ((U.length : Int)).toNat (pop1 P E) = stk (pop1 P E) U from stk_set (⟨E.x, IntKind.i64.wrap (E.left - 1), max E.dep (IntKind.i64.wrap (P.dep + 1)), E.tot⟩ : Fm) (pop1 P E) U]
     refine WpOpsG.nil ?_
     exact ⟨(pop1 P E, U), by show U.length < (E :: U).length; omega, ⟨hT, by dsimp only; omega⟩, ⟨rfl, rfl, rfl, rfl, trivial⟩, ⟨rfl, trivial⟩, rfl⟩
    ·(try simp only [zN] at hq4)
     refine WpG.exit ?_
     change WpG _ _ _ _ _
     refine WpG.reg ?_
     refine G.addI rfl rfl (by omega) ?_
     refine G.mv rfl ?_
     refine WpOpsG.nil ?_
     have hfin : settleF P T = (P, T) := by
      cases T with
      | nil => rfl
      | cons E U =>
        have hcu : (E :: U).length = U.length + 1 := rfl
        rw [settleF, if_neg (by omega)]
     have hR : runS (l.take (i + 1)) = (P, T) := by rw [runS_snoc hlt, ← hT, hfin]
     refine ⟨i + 1, by omega, by omega, ⟨rfl, rfl, rfl, rfl, trivial⟩, ⟨by rw [hR]; rfl, trivial⟩, rfl⟩
   ·exact ⟨by unfold push; rw [hF, hS], by dsimp only; omega⟩
  ·(try simp only [zN] at hq1)
   refine WpG.exit ?_
   change WpG _ _ _ _ _
   refine WpG.seq ?_
   rw [show l.take i = l from take_all (by omega)]
   refine WpG.reg ?_
   refine G.mv rfl ?_
   refine G.iaddrO rfl rfl rfl (by decide) (by rw [List.length_map, stk_len]; omega) ?_
   refine G.faddrE rfl ?_
   refine G.load1EM rfl rfl (stk_head _ _) rfl ?_
   refine G.mv rfl ?_
   refine G.iaddrO rfl rfl rfl (by decide) (by rw [List.length_map, stk_len]; omega) ?_
   refine G.faddrE rfl ?_
   refine G.load1EM rfl rfl (stk_head _ _) rfl ?_
   refine G.mv rfl ?_
   refine G.mv rfl ?_
   refine WpOpsG.nil ?_
   change WpG _ _ _ _ _
   refine WpG.ret ?_
   refine ⟨_, [], rfl, (hasP_le (by repeat (first | exact trivial | refine ⟨rfl, ?_⟩))), rfl, rfl, rfl, ?_⟩
   exact ⟨rfl, rfl⟩
 ·exact Nat.zero_le _
theorem nlength_ok (l : List Nd) (hl : l.length ≤ 2 ^ 41) : WpCallG A 17 [.fsl 3 (l.map encD)] [] (fun v H => v = .tup [.v (.int .i64 (lenV l).1), .v (.bool (lenV l).2)] ∧ H = []) := by
 refine WpCallG.intro g17 rfl rfl ?_
 unfold af17
 change WpG _ _ _ _ _
 refine WpG.seq ?_
 refine WpG.reg ?_
 refine G.mv rfl ?_
 refine G.mv rfl ?_
 refine WpOpsG.nil ?_
 change WpG _ _ _ _ _
 refine WpG.seq ?_
 refine WpG.seq ?_
 refine WpG.reg ?_
 refine G.mv rfl ?_
 refine G.call0 rfl rfl (whole_ok l (by omega)) ?_
 rintro _ _ ⟨rfl, rfl⟩
 refine ⟨rfl, ?_⟩
 change WpOpsG _ _ ((7, _) :: _) _ _
 refine G.un rfl rfl ?_
 refine WpOpsG.nil ?_
 change WpG _ _ _ _ _
 refine WpG.cond rfl (fun hq1 => ?_) (fun hq1 => ?_)
 ·(try simp only [zN] at hq1)
  refine WpG.seq ?_
  refine WpG.reg ?_
  refine G.mv rfl ?_
  refine G.mv rfl ?_
  refine WpOpsG.nil ?_
  change WpG _ _ _ _ _
  refine WpG.ret ?_
  refine ⟨_, [], rfl, (hasP_le (by repeat (first | exact trivial | refine ⟨rfl, ?_⟩))), rfl, rfl, rfl, ?_⟩
  have e : lenV l = (0, false) := by unfold lenV; rw [if_neg (fun h => by rw [h.1] at hq1; simp at hq1)]
  rw [e]; exact ⟨rfl, rfl⟩
 ·(try simp only [zN] at hq1)
  refine WpG.skip ?_
  change WpG _ _ _ _ _
  refine WpG.seq ?_
  refine WpG.seq ?_
  refine WpG.reg ?_
  refine G.mv rfl ?_
  refine G.call0 rfl rfl (measure_ok l hl) ?_
  rintro _ _ ⟨rfl, rfl⟩
  refine ⟨rfl, ?_⟩
  change WpOpsG _ _ ((11, _) :: _) _ _
  refine G.mv rfl ?_
  refine G.ext rfl rfl ?_
  refine G.ext rfl rfl ?_
  refine G.mv rfl ?_
  refine G.mv rfl ?_
  refine WpOpsG.nil ?_
  change WpG _ _ _ _ _
  refine WpG.seq ?_
  refine WpG.reg ?_
  refine G.mv rfl ?_
  refine G.bin rfl rfl rfl ?_
  refine WpOpsG.nil ?_
  change WpG _ _ _ _ _
  refine WpG.cond rfl (fun hq2 => ?_) (fun hq2 => ?_)
  ·(try simp only [zN] at hq2)
   refine WpG.seq ?_
   refine WpG.reg ?_
   refine G.mv rfl ?_
   refine G.mv rfl ?_
   refine G.mv rfl ?_
   refine WpOpsG.nil ?_
   change WpG _ _ _ _ _
   refine WpG.ret ?_
   refine ⟨_, [], rfl, (hasP_le (by repeat (first | exact trivial | refine ⟨rfl, ?_⟩))), rfl, rfl, rfl, ?_⟩
   have e : lenV l = ((botF (runS l)).tot, true) := by unfold lenV; rw [if_pos ⟨by simpa using hq1, hq2⟩]
   rw [e]; exact ⟨rfl, rfl⟩
  ·(try simp only [zN] at hq2)
   refine WpG.skip ?_
   change WpG _ _ _ _ _
   refine WpG.seq ?_
   refine WpG.reg ?_
   refine G.mv rfl ?_
   refine G.mv rfl ?_
   refine WpOpsG.nil ?_
   change WpG _ _ _ _ _
   refine WpG.ret ?_
   refine ⟨_, [], rfl, (hasP_le (by repeat (first | exact trivial | refine ⟨rfl, ?_⟩))), rfl, rfl, rfl, ?_⟩
   have e : lenV l = (0, false) := by unfold lenV; rw [if_neg (fun h => by have := h.2; omega)]
   rw [e]; exact ⟨rfl, rfl⟩
theorem ndepth_ok (l : List Nd) (hl : l.length ≤ 2 ^ 41) : WpCallG A 18 [.fsl 3 (l.map encD)] [] (fun v H => v = .v (.int .i64 (depV l)) ∧ H = []) := by
 refine WpCallG.intro g18 rfl rfl ?_
 unfold af18
 change WpG _ _ _ _ _
 refine WpG.seq ?_
 refine WpG.reg ?_
 refine G.mv rfl ?_
 refine WpOpsG.nil ?_
 change WpG _ _ _ _ _
 refine WpG.seq ?_
 refine WpG.seq ?_
 refine WpG.reg ?_
 refine G.mv rfl ?_
 refine G.call0 rfl rfl (whole_ok l (by omega)) ?_
 rintro _ _ ⟨rfl, rfl⟩
 refine ⟨rfl, ?_⟩
 change WpOpsG _ _ ((6, _) :: _) _ _
 refine G.un rfl rfl ?_
 refine WpOpsG.nil ?_
 change WpG _ _ _ _ _
 refine WpG.cond rfl (fun hq1 => ?_) (fun hq1 => ?_)
 ·(try simp only [zN] at hq1)
  refine WpG.seq ?_
  refine WpG.reg ?_
  refine G.mv rfl ?_
  refine WpOpsG.nil ?_
  change WpG _ _ _ _ _
  refine WpG.ret ?_
  refine ⟨_, [], rfl, (hasP_le (by repeat (first | exact trivial | refine ⟨rfl, ?_⟩))), rfl, rfl, rfl, ?_⟩
  have e : depV l = 0 := by unfold depV; rw [if_neg (fun h => by rw [h] at hq1; simp at hq1)]
  rw [e]; exact ⟨rfl, rfl⟩
 ·(try simp only [zN] at hq1)
  refine WpG.skip ?_
  change WpG _ _ _ _ _
  refine WpG.seq ?_
  refine WpG.reg ?_
  refine G.mv rfl ?_
  refine G.call0 rfl rfl (measure_ok l hl) ?_
  rintro _ _ ⟨rfl, rfl⟩
  refine ⟨rfl, ?_⟩
  change WpOpsG _ _ ((10, _) :: _) _ _
  refine G.mv rfl ?_
  refine G.ext rfl rfl ?_
  refine G.ext rfl rfl ?_
  refine G.mv rfl ?_
  refine G.mv rfl ?_
  refine WpOpsG.nil ?_
  change WpG _ _ _ _ _
  refine WpG.seq ?_
  refine WpG.reg ?_
  refine G.mv rfl ?_
  refine G.mv rfl ?_
  refine WpOpsG.nil ?_
  change WpG _ _ _ _ _
  refine WpG.ret ?_
  refine ⟨_, [], rfl, (hasP_le (by repeat (first | exact trivial | refine ⟨rfl, ?_⟩))), rfl, rfl, rfl, ?_⟩
  have e : depV l = (botF (runS l)).dep := by unfold depV; rw [if_pos (by simpa using hq1)]
  rw [e]; exact ⟨rfl, rfl⟩
theorem nright_ok (l : List Nd) (hl : l.length ≤ 2 ^ 41) : WpCallG A 13 [.fsl 3 (l.map encD)] [] (fun v H => v = .v (.int .i64 (rightN l)) ∧ H = []) := by
 refine WpCallG.intro g13 rfl rfl ?_
 unfold af13
 change WpG _ _ _ _ _
 refine WpG.seq ?_
 refine WpG.reg ?_
 refine G.mv rfl ?_
 refine WpOpsG.nil ?_
 change WpG _ _ _ _ _
 refine WpG.seq ?_
 refine WpG.reg ?_
 refine G.mv rfl ?_
 refine G.call0 rfl rfl (nlength_ok l hl) ?_
 rintro _ _ ⟨rfl, rfl⟩
 refine ⟨rfl, ?_⟩
 change WpOpsG _ _ ((7, _) :: _) _ _
 refine G.mv rfl ?_
 refine G.ext rfl rfl ?_
 refine G.ext rfl rfl ?_
 refine G.mv rfl ?_
 refine G.mv rfl ?_
 refine WpOpsG.nil ?_
 change WpG _ _ _ _ _
 refine WpG.seq ?_
 refine WpG.block ?_
 refine WpG.seq ?_
 refine WpG.reg ?_
 refine G.mv rfl ?_
 refine G.lenM rfl ?_
 refine G.bin rfl rfl rfl ?_
 refine G.mv rfl ?_
 refine WpOpsG.nil ?_
 change WpG _ _ _ _ _
 refine WpG.cond rfl (fun hq1 => ?_) (fun hq1 => ?_)
 ·(try simp only [zN] at hq1)
  refine WpG.seq ?_
  refine WpG.reg ?_
  refine G.mv rfl ?_
  refine WpOpsG.nil ?_
  change WpG _ _ _ _ _
  refine WpG.ret ?_
  refine ⟨_, [], rfl, (hasP_le (by repeat (first | exact trivial | refine ⟨rfl, ?_⟩))), rfl, rfl, rfl, ?_⟩
  first
   | (have e : rightN l = 3 := by
       unfold rightN; (repeat' split) <;> first | rfl | (exfalso; first | omega | simp_all)
      rw [e]; exact ⟨rfl, rfl⟩)
   | (have e : rightN l = 12 := by
       unfold rightN; (repeat' split) <;> first | rfl | (exfalso; first | omega | simp_all)
      rw [e]; exact ⟨rfl, rfl⟩)
   | (have e : rightN l = 14 := by
       unfold rightN; (repeat' split) <;> first | rfl | (exfalso; first | omega | simp_all)
      rw [e]; exact ⟨rfl, rfl⟩)
   | (have e : rightN l = 18 := by
       unfold rightN; (repeat' split) <;> first | rfl | (exfalso; first | omega | simp_all)
      rw [e]; exact ⟨rfl, rfl⟩)
   | (have e : rightN l = 0 := by
       unfold rightN; (repeat' split) <;> first | rfl | (exfalso; first | omega | simp_all)
      rw [e]; exact ⟨rfl, rfl⟩)
 ·(try simp only [zN] at hq1)
  refine WpG.seq ?_
  refine WpG.reg ?_
  refine G.mv rfl ?_
  refine G.call0 rfl rfl (whole_ok l (by omega)) ?_
  rintro _ _ ⟨rfl, rfl⟩
  refine ⟨rfl, ?_⟩
  change WpOpsG _ _ ((16, _) :: _) _ _
  refine G.un rfl rfl ?_
  refine G.mv rfl ?_
  refine WpOpsG.nil ?_
  change WpG _ _ _ _ _
  refine WpG.cond rfl (fun hq2 => ?_) (fun hq2 => ?_)
  ·(try simp only [zN] at hq2)
   refine WpG.seq ?_
   refine WpG.reg ?_
   refine G.mv rfl ?_
   refine WpOpsG.nil ?_
   change WpG _ _ _ _ _
   refine WpG.ret ?_
   refine ⟨_, [], rfl, (hasP_le (by repeat (first | exact trivial | refine ⟨rfl, ?_⟩))), rfl, rfl, rfl, ?_⟩
   first
    | (have e : rightN l = 3 := by
        unfold rightN; (repeat' split) <;> first | rfl | (exfalso; first | omega | simp_all)
       rw [e]; exact ⟨rfl, rfl⟩)
    | (have e : rightN l = 12 := by
        unfold rightN; (repeat' split) <;> first | rfl | (exfalso; first | omega | simp_all)
       rw [e]; exact ⟨rfl, rfl⟩)
    | (have e : rightN l = 14 := by
        unfold rightN; (repeat' split) <;> first | rfl | (exfalso; first | omega | simp_all)
       rw [e]; exact ⟨rfl, rfl⟩)
    | (have e : rightN l = 18 := by
        unfold rightN; (repeat' split) <;> first | rfl | (exfalso; first | omega | simp_all)
       rw [e]; exact ⟨rfl, rfl⟩)
    | (have e : rightN l = 0 := by
        unfold rightN; (repeat' split) <;> first | rfl | (exfalso; first | omega | simp_all)
       rw [e]; exact ⟨rfl, rfl⟩)
  ·(try simp only [zN] at hq2)
   refine WpG.seq ?_
   refine WpG.reg ?_
   refine G.mv rfl ?_
   refine G.call0 rfl rfl (ndepth_ok l hl) ?_
   rintro _ _ ⟨rfl, rfl⟩
   refine ⟨rfl, ?_⟩
   change WpOpsG _ _ ((20, _) :: _) _ _
   refine G.bin rfl rfl rfl ?_
   refine G.mv rfl ?_
   refine WpOpsG.nil ?_
   change WpG _ _ _ _ _
   refine WpG.cond rfl (fun hq3 => ?_) (fun hq3 => ?_)
   ·(try simp only [zN] at hq3)
    refine WpG.seq ?_
    refine WpG.reg ?_
    refine G.mv rfl ?_
    refine WpOpsG.nil ?_
    change WpG _ _ _ _ _
    refine WpG.ret ?_
    refine ⟨_, [], rfl, (hasP_le (by repeat (first | exact trivial | refine ⟨rfl, ?_⟩))), rfl, rfl, rfl, ?_⟩
    first
     | (have e : rightN l = 3 := by
         unfold rightN; (repeat' split) <;> first | rfl | (exfalso; first | omega | simp_all)
        rw [e]; exact ⟨rfl, rfl⟩)
     | (have e : rightN l = 12 := by
         unfold rightN; (repeat' split) <;> first | rfl | (exfalso; first | omega | simp_all)
        rw [e]; exact ⟨rfl, rfl⟩)
     | (have e : rightN l = 14 := by
         unfold rightN; (repeat' split) <;> first | rfl | (exfalso; first | omega | simp_all)
        rw [e]; exact ⟨rfl, rfl⟩)
     | (have e : rightN l = 18 := by
         unfold rightN; (repeat' split) <;> first | rfl | (exfalso; first | omega | simp_all)
        rw [e]; exact ⟨rfl, rfl⟩)
     | (have e : rightN l = 0 := by
         unfold rightN; (repeat' split) <;> first | rfl | (exfalso; first | omega | simp_all)
        rw [e]; exact ⟨rfl, rfl⟩)
   ·(try simp only [zN] at hq3)
    refine WpG.seq ?_
    refine WpG.reg ?_
    refine G.mv rfl ?_
    refine G.un rfl rfl ?_
    refine G.mv rfl ?_
    refine WpOpsG.nil ?_
    change WpG _ _ _ _ _
    refine WpG.cond rfl (fun hq4 => ?_) (fun hq4 => ?_)
    ·(try simp only [zN] at hq4)
     refine WpG.seq ?_
     refine WpG.reg ?_
     refine G.mv rfl ?_
     refine WpOpsG.nil ?_
     change WpG _ _ _ _ _
     refine WpG.ret ?_
     refine ⟨_, [], rfl, (hasP_le (by repeat (first | exact trivial | refine ⟨rfl, ?_⟩))), rfl, rfl, rfl, ?_⟩
     first
      | (have e : rightN l = 3 := by
          unfold rightN; (repeat' split) <;> first | rfl | (exfalso; first | omega | simp_all)
         rw [e]; exact ⟨rfl, rfl⟩)
      | (have e : rightN l = 12 := by
          unfold rightN; (repeat' split) <;> first | rfl | (exfalso; first | omega | simp_all)
         rw [e]; exact ⟨rfl, rfl⟩)
      | (have e : rightN l = 14 := by
          unfold rightN; (repeat' split) <;> first | rfl | (exfalso; first | omega | simp_all)
         rw [e]; exact ⟨rfl, rfl⟩)
      | (have e : rightN l = 18 := by
          unfold rightN; (repeat' split) <;> first | rfl | (exfalso; first | omega | simp_all)
         rw [e]; exact ⟨rfl, rfl⟩)
      | (have e : rightN l = 0 := by
          unfold rightN; (repeat' split) <;> first | rfl | (exfalso; first | omega | simp_all)
         rw [e]; exact ⟨rfl, rfl⟩)
    ·(try simp only [zN] at hq4)
     refine WpG.skip ?_
     change WpG _ _ _ _ _
     refine WpG.seq ?_
     refine WpG.reg ?_
     refine G.mv rfl ?_
     refine WpOpsG.nil ?_
     change WpG _ _ _ _ _
     refine WpG.ret ?_
     refine ⟨_, [], rfl, (hasP_le (by repeat (first | exact trivial | refine ⟨rfl, ?_⟩))), rfl, rfl, rfl, ?_⟩
     first
      | (have e : rightN l = 3 := by
          unfold rightN; (repeat' split) <;> first | rfl | (exfalso; first | omega | simp_all)
         rw [e]; exact ⟨rfl, rfl⟩)
      | (have e : rightN l = 12 := by
          unfold rightN; (repeat' split) <;> first | rfl | (exfalso; first | omega | simp_all)
         rw [e]; exact ⟨rfl, rfl⟩)
      | (have e : rightN l = 14 := by
          unfold rightN; (repeat' split) <;> first | rfl | (exfalso; first | omega | simp_all)
         rw [e]; exact ⟨rfl, rfl⟩)
      | (have e : rightN l = 18 := by
          unfold rightN; (repeat' split) <;> first | rfl | (exfalso; first | omega | simp_all)
         rw [e]; exact ⟨rfl, rfl⟩)
      | (have e : rightN l = 0 := by
          unfold rightN; (repeat' split) <;> first | rfl | (exfalso; first | omega | simp_all)
         rw [e]; exact ⟨rfl, rfl⟩)
end Go.AM.L3
