/- Contracts of the functions that the statement reaches. No condition. -/
import Derived.Test.YtabhoinefficpaaC10a
set_option linter.all false
set_option maxRecDepth 10000
namespace Go.AM.L10
open Go.AM.PL
theorem gdep_ok (P : List Pt) (C : List Ch) (ts : List (List GV)) (hP : P.length ≤ 2 ^ 30) (hC : C.length ≤ 2 ^ 30) : WpCallG A 52 [.agg [.fsl 11 (P.map encP), .fsl 6 (C.map encC), .fsl 1 ts]] [] (fun v H => v = .fsl 1 ((matF P.length (depG P C)).map encBs) ∧ H = []) := by
 refine WpCallG.intro g52 rfl rfl ?_
 unfold af52
 change WpG _ _ _ _ _
 refine WpG.seq ?_
 refine WpG.reg ?_
 refine G.box (g := 10) rfl rfl rfl ?_
 refine G.mv rfl ?_
 refine WpOpsG.nil ?_
 change WpG _ _ _ _ _
 refine WpG.seq ?_
 refine WpG.reg ?_
 refine G.faddrB rfl ?_
 refine G.load1B rfl rfl rfl ?_
 refine G.lenM rfl ?_
 refine G.call0 rfl rfl ((gsq_ok P.length (by omega)).ren [(0, 20)]) ?_
 rintro _ _ ⟨_, _, ⟨rfl, rfl⟩, rfl, rfl⟩
 change newOk _ _ [(20, _)] = true ∧ _
 refine ⟨rfl, ?_⟩
 change WpOpsG _ _ ((11, .msl 20) :: _) ([(20, .mat 1 (bM P.length noF))] ++ _) _
 rw [lex_0 (f := dF P)]
 refine G.mv rfl ?_
 refine WpOpsG.nil ?_
 change WpG _ _ _ _ _
 refine WpG.seq ?_
 refine WpG.seq ?_
 refine WpG.reg ?_
 refine G.mv rfl ?_
 refine G.lenBM rfl rfl ?_
 refine G.mv rfl ?_
 refine WpOpsG.nil ?_
 change WpG _ _ _ _ _
 refine WpG.block ?_
 refine WpG.loop (S := Nat) (fun a => [(1, .bptr 10 0), (3, .msl 20), (13, .v (.int .i64 (P.length : Int))), (14, .v (.int .i64 ((a : Nat) : Int)))]) (fun a => [(10, .box [.fsl 11 (P.map encP), .fsl 6 (C.map encC), .fsl 1 ts]), (20, .mat 1 (bM P.length (lexF a 0 (dF P) noF)))]) (fun a => a ≤ P.length) (fun a => P.length - a) (fun s => ⟨rfl, rfl⟩) ?_ 0 ?_ (by repeat (first | exact trivial | refine ⟨rfl, ?_⟩)) (by repeat (first | exact trivial | refine ⟨rfl, ?_⟩)) rfl
 ·intro a ha
  refine WpG.seq ?_
  refine WpG.reg ?_
  refine G.bin rfl rfl rfl ?_
  refine WpOpsG.nil ?_
  change WpG _ _ _ _ _
  refine WpG.seq ?_
  refine WpG.cond rfl (fun hq1 => ?_) (fun hq1 => ?_)
  ·(try simp only [zN] at hq1)
   refine WpG.skip ?_
   change WpG _ _ _ _ _
   refine WpG.seq ?_
   refine WpG.block ?_
   refine WpG.seq ?_
   refine WpG.reg ?_
   refine G.mv rfl ?_
   refine G.mv rfl ?_
   refine WpOpsG.nil ?_
   change WpG _ _ _ _ _
   refine WpG.seq ?_
   refine WpG.reg ?_
   refine G.mv rfl ?_
   refine G.lenBM rfl rfl ?_
   refine G.mv rfl ?_
   refine WpOpsG.nil ?_
   change WpG _ _ _ _ _
   refine WpG.block ?_
   refine WpG.loop (S := Nat) (fun b => [(1, .bptr 10 0), (3, .msl 20), (4, .v (.int .i64 ((a : Nat) : Int))), (13, .v (.int .i64 (P.length : Int))), (14, .v (.int .i64 ((a : Nat) : Int))), (18, .v (.int .i64 (P.length : Int))), (19, .v (.int .i64 ((b : Nat) : Int)))]) (fun b => [(10, .box [.fsl 11 (P.map encP), .fsl 6 (C.map encC), .fsl 1 ts]), (20, .mat 1 (bM P.length (lexF a b (dF P) noF)))]) (fun b => b ≤ P.length) (fun b => P.length - b) (fun s => ⟨rfl, rfl⟩) ?_ 0 ?_ (by repeat (first | exact trivial | refine ⟨rfl, ?_⟩)) (by repeat (first | exact trivial | refine ⟨rfl, ?_⟩)) rfl
   ·intro b hb
    refine WpG.seq ?_
    refine WpG.reg ?_
    refine G.bin rfl rfl rfl ?_
    refine WpOpsG.nil ?_
    change WpG _ _ _ _ _
    refine WpG.seq ?_
    refine WpG.cond rfl (fun hq2 => ?_) (fun hq2 => ?_)
    ·(try simp only [zN] at hq2)
     refine WpG.skip ?_
     change WpG _ _ _ _ _
     refine WpG.seq ?_
     refine WpG.block ?_
     refine WpG.seq ?_
     refine WpG.reg ?_
     refine G.mv rfl ?_
     refine G.mv rfl ?_
     refine WpOpsG.nil ?_
     change WpG _ _ _ _ _
     refine WpG.reg ?_
     refine G.mv rfl ?_
     refine G.mv rfl ?_
     refine G.iaddrBM rfl rfl rfl (by omega) ?_
     refine G.load1BM rfl rfl (by omega) ?_
     refine G.mv rfl ?_
     refine G.mv rfl ?_
     refine G.mv rfl ?_
     refine G.bin rfl rfl rfl ?_
     refine G.mv rfl ?_
     apply G.orS rfl rfl rfl rfl rfl rfl
     case hB =>
      intro hs3
      (try simp only [zN] at hs3)
      refine G.faddrB rfl ?_
      refine G.load1B rfl rfl rfl ?_
      refine G.mv rfl ?_
      refine G.iaddrM rfl rfl (by omega) (gd17 zP (by omega)) ?_
      rw [Int.toNat_natCast]
      refine G.faddrF rfl ?_
      refine G.load1F rfl rfl ?_
      refine G.mv rfl ?_
      apply G.andS rfl rfl rfl rfl rfl rfl
      case hB =>
       intro hs4
       (try simp only [zN] at hs4)
       refine G.faddrB rfl ?_
       refine G.load1B rfl rfl rfl ?_
       refine G.mv rfl ?_
       refine G.iaddrM rfl rfl (by omega) (gd17 zP (by omega)) ?_
       rw [Int.toNat_natCast]
       refine G.faddrF rfl ?_
       refine G.load1F rfl rfl ?_
       refine WpOpsG.nil ?_
       exact ⟨rfl, (by repeat (first | exact LLe.refl _ | refine LLe.cons rfl ?_)), (by repeat (first | exact HLe.refl _ | refine HLe.cons rfl ?_)), rfl⟩
      refine WpOpsG.nil ?_
      exact ⟨rfl, (by repeat (first | exact LLe.refl _ | refine LLe.cons rfl ?_)), (by repeat (first | exact HLe.refl _ | refine HLe.cons rfl ?_)), rfl⟩
     refine G.iaddrBR rfl rfl rfl (by omega) (by omega) ?_
     refine G.storeBR rfl rfl rfl (by omega) (by omega) ?_
     refine WpOpsG.nil ?_
     change WpG _ _ _ _ _
     refine WpG.reg ?_
     refine G.addI rfl rfl (by omega) ?_
     refine G.mv rfl ?_
     refine WpOpsG.nil ?_
     refine ⟨b + 1, by omega, by omega, ⟨rfl, rfl, rfl, rfl, rfl, rfl, rfl, trivial⟩, ⟨rfl, ?_, trivial⟩, rfl⟩
     rw [lex_step (by rfl)]; rfl
    ·(try simp only [zN] at hq2)
     refine WpG.exit ?_
     change WpG _ _ _ _ _
     refine WpG.reg ?_
     refine G.addI rfl rfl (by omega) ?_
     refine G.mv rfl ?_
     refine WpOpsG.nil ?_
     refine ⟨a + 1, by omega, by omega, ⟨rfl, rfl, rfl, rfl, trivial⟩, ⟨rfl, ?_, trivial⟩, rfl⟩
     rw [show b = P.length by omega, lex_next]; rfl
   ·exact Nat.zero_le _
  ·(try simp only [zN] at hq1)
   refine WpG.exit ?_
   change WpG _ _ _ _ _
   refine WpG.seq ?_
   refine WpG.seq ?_
   rw [show a = P.length by omega, lex_n]
   refine WpG.reg ?_
   refine G.faddrB rfl ?_
   refine G.load1B rfl rfl rfl ?_
   refine G.lenM rfl ?_
   refine G.mv rfl ?_
   refine WpOpsG.nil ?_
   change WpG _ _ _ _ _
   refine WpG.block ?_
   refine WpG.loop (S := Nat) (fun i => [(1, .bptr 10 0), (3, .msl 20), (50, .fsl 6 (C.map encC)), (51, .v (.int .i64 (C.length : Int))), (52, .v (.int .i64 ((i : Nat) : Int)))]) (fun i => [(10, .box [.fsl 11 (P.map encP), .fsl 6 (C.map encC), .fsl 1 ts]), (20, .mat 1 (bM P.length ((C.take i).foldl (stD P.length) (dF P))))]) (fun i => i ≤ C.length) (fun i => C.length - i) (fun s => ⟨rfl, rfl⟩) ?_ 0 ?_ (by repeat (first | exact trivial | refine ⟨rfl, ?_⟩)) (by repeat (first | exact trivial | refine ⟨rfl, ?_⟩)) rfl
   ·intro i hi
    refine WpG.seq ?_
    refine WpG.reg ?_
    refine G.bin rfl rfl rfl ?_
    refine WpOpsG.nil ?_
    change WpG _ _ _ _ _
    refine WpG.seq ?_
    refine WpG.cond rfl (fun hq5 => ?_) (fun hq5 => ?_)
    ·(try simp only [zN] at hq5)
     refine WpG.skip ?_
     change WpG _ _ _ _ _
     refine WpG.seq ?_
     refine WpG.block ?_
     refine WpG.seq ?_
     refine WpG.reg ?_
     refine G.iaddrN rfl rfl (List.getElem?_eq_getElem (by omega)) ?_
     refine G.loadNF rfl rfl ?_
     refine G.box (g := 11) rfl rfl rfl ?_
     refine G.storeB rfl rfl rfl rfl rfl rfl ?_
     refine WpOpsG.nil ?_
     change WpG _ _ _ _ _
     refine WpG.seq ?_
     refine WpG.reg ?_
     refine G.loadNB rfl rfl rfl ?_
     refine G.faddrB rfl ?_
     refine G.load1B rfl rfl rfl ?_
     refine G.call0 rfl rfl (gis_ok P C ts C[i].fr (by omega)) ?_
     rintro _ _ ⟨rfl, rfl⟩
     refine ⟨rfl, ?_⟩
     change WpOpsG _ _ ((59, _) :: _) _ _
     refine G.mv rfl ?_
     apply G.andS rfl rfl rfl rfl rfl rfl
     case hB =>
      intro hs6
      (try simp only [zN] at hs6)
      refine G.loadNB rfl rfl rfl ?_
      refine G.faddrB rfl ?_
      refine G.load1B rfl rfl rfl ?_
      refine G.call0 rfl rfl (gis_ok P C ts C[i].to (by omega)) ?_
      rintro _ _ ⟨rfl, rfl⟩
      refine ⟨rfl, ?_⟩
      change WpOpsG _ _ ((64, _) :: _) _ _
      refine WpOpsG.nil ?_
      exact ⟨rfl, (by repeat (first | exact LLe.refl _ | refine LLe.cons rfl ?_)), (by repeat (first | exact HLe.refl _ | refine HLe.cons rfl ?_)), rfl⟩
     refine WpOpsG.nil ?_
     change WpG _ _ _ _ _
     refine WpG.cond rfl (fun hq7 => ?_) (fun hq7 => ?_)
     ·(try simp only [zN] at hq7)
      have hb7 : both7 P.length C[i] = true := by unfold both7; rw [hq7.1, hq7.2]; rfl
      have hu := isP_T hq7.1
      have hv := isP_T hq7.2
      refine WpG.reg ?_
      refine G.mv rfl ?_
      refine G.faddrB rfl ?_
      refine G.load1B rfl rfl rfl ?_
      refine G.iaddrMt rfl rfl rfl (by omega) (by rw [bM_len]; omega) ?_
      refine G.load1BM rfl rfl (by omega) ?_
      refine G.faddrB rfl ?_
      refine G.load1B rfl rfl rfl ?_
      refine G.mv rfl ?_
      refine G.faddrB rfl ?_
      refine G.load1B rfl rfl rfl ?_
      refine G.iaddrMt rfl rfl rfl (by omega) (by rw [bM_len]; omega) ?_
      refine G.load1BM rfl rfl (by omega) ?_
      refine G.faddrB rfl ?_
      refine G.load1B rfl rfl rfl ?_
      refine G.iaddrR rfl rfl (bM_at (by omega)) rfl (by omega) (by rw [bRow_len]; omega) ?_
      refine G.ckX [(20, .mat 1 (bM P.length ((C.take i).foldl (stD P.length) (dF P))))] [(80, .rptr 20 C[i].fr.toNat C[i].to.toNat 0)] (by repeat (first | exact trivial | refine ⟨rfl, ?_⟩)) (by repeat (first | exact trivial | refine ⟨rfl, ?_⟩)) rfl rfl rfl ?_ ?_
      ·refine G.storeBR (i := C[i].fr.toNat) (j := C[i].to.toNat) rfl rfl rfl (by omega) (by omega) ?_
       exact WpOpsG.nil trivial
      refine G.storeBR (i := C[i].fr.toNat) (j := C[i].to.toNat) rfl rfl rfl (by omega) (by omega) ?_
      refine WpOpsG.nil ?_
      change WpOpsG _ _ _ ((20, _) :: _) _
      refine G.iaddrR rfl rfl (bM_at (by omega)) rfl (by omega) (by rw [bRow_len]; omega) ?_
      refine G.storeBR rfl rfl rfl (by omega) (by omega) ?_
      refine WpOpsG.nil ?_
      change WpG _ _ _ _ _
      refine WpG.reg ?_
      refine G.addI rfl rfl (by omega) ?_
      refine G.mv rfl ?_
      refine WpOpsG.nil ?_
      refine ⟨i + 1, by omega, by omega, ⟨rfl, rfl, rfl, rfl, rfl, trivial⟩, ⟨rfl, ?_, trivial⟩, rfl⟩
      rw [foldl_snoc7 _ _ (show i < C.length by omega)]
      first
       | (rw [show stD P.length ((C.take i).foldl (stD P.length) (dF P)) C[i] = ((C.take i).foldl (stD P.length) (dF P)) from if_neg hb7]; rfl)
       | (rw [show stD P.length ((C.take i).foldl (stD P.length) (dF P)) C[i] = (updF (updF ((C.take i).foldl (stD P.length) (dF P)) C[i].fr.toNat C[i].to.toNat true) C[i].to.toNat C[i].fr.toNat true) from if_pos hb7]; rfl)
     ·(try simp only [zN] at hq7)
      have hb7 : ¬ both7 P.length C[i] = true := by unfold both7; simp only [Bool.and_eq_true, not_and]; intro c1 c2; simp [c1, c2] at hq7
      refine WpG.skip ?_
      change WpG _ _ _ _ _
      refine WpG.reg ?_
      refine G.addI rfl rfl (by omega) ?_
      refine G.mv rfl ?_
      refine WpOpsG.nil ?_
      refine ⟨i + 1, by omega, by omega, ⟨rfl, rfl, rfl, rfl, rfl, trivial⟩, ⟨rfl, ?_, trivial⟩, rfl⟩
      rw [foldl_snoc7 _ _ (show i < C.length by omega)]
      first
       | (rw [show stD P.length ((C.take i).foldl (stD P.length) (dF P)) C[i] = ((C.take i).foldl (stD P.length) (dF P)) from if_neg hb7]; rfl)
       | (rw [show stD P.length ((C.take i).foldl (stD P.length) (dF P)) C[i] = (updF (updF ((C.take i).foldl (stD P.length) (dF P)) C[i].fr.toNat C[i].to.toNat true) C[i].to.toNat C[i].fr.toNat true) from if_pos hb7]; rfl)
    ·(try simp only [zN] at hq5)
     refine WpG.exit ?_
     change WpG _ _ _ _ _
     refine WpG.seq ?_
     rw [show C.take i = C from List.take_of_length_le (by omega)]
     refine WpG.freezeMt 20 rfl matF_enc ?_
     change WpG _ _ _ _ _
     refine WpG.reg ?_
     refine G.mv rfl ?_
     refine G.mv rfl ?_
     refine WpOpsG.nil ?_
     change WpG _ _ _ _ _
     refine WpG.ret ?_
     refine ⟨_, [], rfl, (hasP_le (by repeat (first | exact trivial | refine ⟨rfl, ?_⟩))), rfl, rfl, rfl, ?_⟩
     exact ⟨rfl, rfl⟩
   ·exact Nat.zero_le _
 ·exact Nat.zero_le _
theorem rdep_ok (P : List Pt) (C : List Ch) (ts : List (List GV)) (hP : P.length ≤ 2 ^ 30) (hC : C.length ≤ 2 ^ 30) : WpCallG A 15 [.agg [.fsl 11 (P.map encP), .fsl 6 (C.map encC), .fsl 1 ts]] [] (fun v H => v = .fsl 1 ((matF P.length (depG P C)).map encBs) ∧ H = []) := by
 refine WpCallG.intro g15 rfl rfl ?_
 unfold af15
 change WpG _ _ _ _ _
 refine WpG.seq ?_
 refine WpG.reg ?_
 refine G.box (g := 10) rfl rfl rfl ?_
 refine G.mv rfl ?_
 refine WpOpsG.nil ?_
 change WpG _ _ _ _ _
 refine WpG.seq ?_
 refine WpG.reg ?_
 refine G.faddrB rfl ?_
 refine G.load1B rfl rfl rfl ?_
 refine G.lenM rfl ?_
 refine G.call0 rfl rfl ((rsq_ok P.length (by omega)).ren [(0, 20)]) ?_
 rintro _ _ ⟨_, _, ⟨rfl, rfl⟩, rfl, rfl⟩
 change newOk _ _ [(20, _)] = true ∧ _
 refine ⟨rfl, ?_⟩
 change WpOpsG _ _ ((11, .msl 20) :: _) ([(20, .mat 1 (bM P.length eqF))] ++ _) _
 rw [lex_0 (f := dF P)]
 refine G.mv rfl ?_
 refine WpOpsG.nil ?_
 change WpG _ _ _ _ _
 refine WpG.seq ?_
 refine WpG.seq ?_
 refine WpG.reg ?_
 refine G.mv rfl ?_
 refine G.lenBM rfl rfl ?_
 refine G.mv rfl ?_
 refine WpOpsG.nil ?_
 change WpG _ _ _ _ _
 refine WpG.block ?_
 refine WpG.loop (S := Nat) (fun a => [(1, .bptr 10 0), (3, .msl 20), (13, .v (.int .i64 (P.length : Int))), (14, .v (.int .i64 ((a : Nat) : Int)))]) (fun a => [(10, .box [.fsl 11 (P.map encP), .fsl 6 (C.map encC), .fsl 1 ts]), (20, .mat 1 (bM P.length (lexF a 0 (dF P) eqF)))]) (fun a => a ≤ P.length) (fun a => P.length - a) (fun s => ⟨rfl, rfl⟩) ?_ 0 ?_ (by repeat (first | exact trivial | refine ⟨rfl, ?_⟩)) (by repeat (first | exact trivial | refine ⟨rfl, ?_⟩)) rfl
 ·intro a ha
  refine WpG.seq ?_
  refine WpG.reg ?_
  refine G.bin rfl rfl rfl ?_
  refine WpOpsG.nil ?_
  change WpG _ _ _ _ _
  refine WpG.seq ?_
  refine WpG.cond rfl (fun hq1 => ?_) (fun hq1 => ?_)
  ·(try simp only [zN] at hq1)
   refine WpG.skip ?_
   change WpG _ _ _ _ _
   refine WpG.seq ?_
   refine WpG.block ?_
   refine WpG.seq ?_
   refine WpG.reg ?_
   refine G.mv rfl ?_
   refine G.mv rfl ?_
   refine WpOpsG.nil ?_
   change WpG _ _ _ _ _
   refine WpG.seq ?_
   refine WpG.reg ?_
   refine G.mv rfl ?_
   refine G.lenBM rfl rfl ?_
   refine G.mv rfl ?_
   refine WpOpsG.nil ?_
   change WpG _ _ _ _ _
   refine WpG.block ?_
   refine WpG.loop (S := Nat) (fun b => [(1, .bptr 10 0), (3, .msl 20), (4, .v (.int .i64 ((a : Nat) : Int))), (13, .v (.int .i64 (P.length : Int))), (14, .v (.int .i64 ((a : Nat) : Int))), (18, .v (.int .i64 (P.length : Int))), (19, .v (.int .i64 ((b : Nat) : Int)))]) (fun b => [(10, .box [.fsl 11 (P.map encP), .fsl 6 (C.map encC), .fsl 1 ts]), (20, .mat 1 (bM P.length (lexF a b (dF P) eqF)))]) (fun b => b ≤ P.length) (fun b => P.length - b) (fun s => ⟨rfl, rfl⟩) ?_ 0 ?_ (by repeat (first | exact trivial | refine ⟨rfl, ?_⟩)) (by repeat (first | exact trivial | refine ⟨rfl, ?_⟩)) rfl
   ·intro b hb
    refine WpG.seq ?_
    refine WpG.reg ?_
    refine G.bin rfl rfl rfl ?_
    refine WpOpsG.nil ?_
    change WpG _ _ _ _ _
    refine WpG.seq ?_
    refine WpG.cond rfl (fun hq2 => ?_) (fun hq2 => ?_)
    ·(try simp only [zN] at hq2)
     refine WpG.skip ?_
     change WpG _ _ _ _ _
     refine WpG.seq ?_
     refine WpG.block ?_
     refine WpG.seq ?_
     refine WpG.reg ?_
     refine G.mv rfl ?_
     refine G.mv rfl ?_
     refine WpOpsG.nil ?_
     change WpG _ _ _ _ _
     refine WpG.reg ?_
     refine G.mv rfl ?_
     refine G.mv rfl ?_
     refine G.iaddrBM rfl rfl rfl (by omega) ?_
     refine G.load1BM rfl rfl (by omega) ?_
     refine G.mv rfl ?_
     refine G.mv rfl ?_
     refine G.mv rfl ?_
     refine G.iaddrBM rfl rfl rfl (by omega) ?_
     refine G.load1BM rfl rfl (by omega) ?_
     refine G.mv rfl ?_
     refine G.iaddrBR rfl rfl rfl (by omega) (by omega) ?_
     refine G.load1BR rfl rfl (by omega) (by omega) ?_
     refine G.mv rfl ?_
     apply G.orS rfl rfl rfl rfl rfl rfl
     case hB =>
      intro hs3
      (try simp only [zN] at hs3)
      refine G.faddrB rfl ?_
      refine G.load1B rfl rfl rfl ?_
      refine G.mv rfl ?_
      refine G.iaddrM rfl rfl (by omega) (gd17 zP (by omega)) ?_
      rw [Int.toNat_natCast]
      refine G.faddrF rfl ?_
      refine G.load1F rfl rfl ?_
      refine G.mv rfl ?_
      apply G.andS rfl rfl rfl rfl rfl rfl
      case hB =>
       intro hs4
       (try simp only [zN] at hs4)
       refine G.faddrB rfl ?_
       refine G.load1B rfl rfl rfl ?_
       refine G.mv rfl ?_
       refine G.iaddrM rfl rfl (by omega) (gd17 zP (by omega)) ?_
       rw [Int.toNat_natCast]
       refine G.faddrF rfl ?_
       refine G.load1F rfl rfl ?_
       refine WpOpsG.nil ?_
       exact ⟨rfl, (by repeat (first | exact LLe.refl _ | refine LLe.cons rfl ?_)), (by repeat (first | exact HLe.refl _ | refine HLe.cons rfl ?_)), rfl⟩
      refine WpOpsG.nil ?_
      exact ⟨rfl, (by repeat (first | exact LLe.refl _ | refine LLe.cons rfl ?_)), (by repeat (first | exact HLe.refl _ | refine HLe.cons rfl ?_)), rfl⟩
     refine G.iaddrBR rfl rfl rfl (by omega) (by omega) ?_
     refine G.storeBR rfl rfl rfl (by omega) (by omega) ?_
     refine WpOpsG.nil ?_
     change WpG _ _ _ _ _
     refine WpG.reg ?_
     refine G.addI rfl rfl (by omega) ?_
     refine G.mv rfl ?_
     refine WpOpsG.nil ?_
     refine ⟨b + 1, by omega, by omega, ⟨rfl, rfl, rfl, rfl, rfl, rfl, rfl, trivial⟩, ⟨rfl, ?_, trivial⟩, rfl⟩
     rw [lex_step (by (rw [lex_at, eq_or]; rfl))]; rfl
    ·(try simp only [zN] at hq2)
     refine WpG.exit ?_
     change WpG _ _ _ _ _
     refine WpG.reg ?_
     refine G.addI rfl rfl (by omega) ?_
     refine G.mv rfl ?_
     refine WpOpsG.nil ?_
     refine ⟨a + 1, by omega, by omega, ⟨rfl, rfl, rfl, rfl, trivial⟩, ⟨rfl, ?_, trivial⟩, rfl⟩
     rw [show b = P.length by omega, lex_next]; rfl
   ·exact Nat.zero_le _
  ·(try simp only [zN] at hq1)
   refine WpG.exit ?_
   change WpG _ _ _ _ _
   refine WpG.seq ?_
   refine WpG.seq ?_
   rw [show a = P.length by omega, lex_n]
   refine WpG.reg ?_
   refine G.faddrB rfl ?_
   refine G.load1B rfl rfl rfl ?_
   refine G.lenM rfl ?_
   refine G.mv rfl ?_
   refine WpOpsG.nil ?_
   change WpG _ _ _ _ _
   refine WpG.block ?_
   refine WpG.loop (S := Nat) (fun i => [(1, .bptr 10 0), (3, .msl 20), (54, .fsl 6 (C.map encC)), (55, .v (.int .i64 (C.length : Int))), (56, .v (.int .i64 ((i : Nat) : Int)))]) (fun i => [(10, .box [.fsl 11 (P.map encP), .fsl 6 (C.map encC), .fsl 1 ts]), (20, .mat 1 (bM P.length ((C.take i).foldl (stD P.length) (dF P))))]) (fun i => i ≤ C.length) (fun i => C.length - i) (fun s => ⟨rfl, rfl⟩) ?_ 0 ?_ (by repeat (first | exact trivial | refine ⟨rfl, ?_⟩)) (by repeat (first | exact trivial | refine ⟨rfl, ?_⟩)) rfl
   ·intro i hi
    refine WpG.seq ?_
    refine WpG.reg ?_
    refine G.bin rfl rfl rfl ?_
    refine WpOpsG.nil ?_
    change WpG _ _ _ _ _
    refine WpG.seq ?_
    refine WpG.cond rfl (fun hq5 => ?_) (fun hq5 => ?_)
    ·(try simp only [zN] at hq5)
     refine WpG.skip ?_
     change WpG _ _ _ _ _
     refine WpG.seq ?_
     refine WpG.block ?_
     refine WpG.seq ?_
     refine WpG.reg ?_
     refine G.iaddrN rfl rfl (List.getElem?_eq_getElem (by omega)) ?_
     refine G.loadNF rfl rfl ?_
     refine G.box (g := 11) rfl rfl rfl ?_
     refine G.storeB rfl rfl rfl rfl rfl rfl ?_
     refine WpOpsG.nil ?_
     change WpG _ _ _ _ _
     refine WpG.seq ?_
     refine WpG.reg ?_
     refine G.loadNB rfl rfl rfl ?_
     refine G.faddrB rfl ?_
     refine G.load1B rfl rfl rfl ?_
     refine G.call0 rfl rfl (gin_ok P C ts C[i].fr (by omega)) ?_
     rintro _ _ ⟨rfl, rfl⟩
     refine ⟨rfl, ?_⟩
     change WpOpsG _ _ ((63, _) :: _) _ _
     refine G.mv rfl ?_
     apply G.andS rfl rfl rfl rfl rfl rfl
     case hB =>
      intro hs6
      (try simp only [zN] at hs6)
      refine G.loadNB rfl rfl rfl ?_
      refine G.faddrB rfl ?_
      refine G.load1B rfl rfl rfl ?_
      refine G.call0 rfl rfl (gin_ok P C ts C[i].to (by omega)) ?_
      rintro _ _ ⟨rfl, rfl⟩
      refine ⟨rfl, ?_⟩
      change WpOpsG _ _ ((68, _) :: _) _ _
      refine WpOpsG.nil ?_
      exact ⟨rfl, (by repeat (first | exact LLe.refl _ | refine LLe.cons rfl ?_)), (by repeat (first | exact HLe.refl _ | refine HLe.cons rfl ?_)), rfl⟩
     refine WpOpsG.nil ?_
     change WpG _ _ _ _ _
     refine WpG.cond rfl (fun hq7 => ?_) (fun hq7 => ?_)
     ·(try simp only [zN] at hq7)
      have hb7 : both7 P.length C[i] = true := by unfold both7; rw [hq7.1, hq7.2]; rfl
      have hu := isP_T hq7.1
      have hv := isP_T hq7.2
      refine WpG.reg ?_
      refine G.mv rfl ?_
      refine G.faddrB rfl ?_
      refine G.load1B rfl rfl rfl ?_
      refine G.iaddrMt rfl rfl rfl (by omega) (by rw [bM_len]; omega) ?_
      refine G.load1BM rfl rfl (by omega) ?_
      refine G.faddrB rfl ?_
      refine G.load1B rfl rfl rfl ?_
      refine G.mv rfl ?_
      refine G.faddrB rfl ?_
      refine G.load1B rfl rfl rfl ?_
      refine G.iaddrMt rfl rfl rfl (by omega) (by rw [bM_len]; omega) ?_
      refine G.load1BM rfl rfl (by omega) ?_
      refine G.faddrB rfl ?_
      refine G.load1B rfl rfl rfl ?_
      refine G.iaddrR rfl rfl (bM_at (by omega)) rfl (by omega) (by rw [bRow_len]; omega) ?_
      refine G.ckX [(20, .mat 1 (bM P.length ((C.take i).foldl (stD P.length) (dF P))))] [(84, .rptr 20 C[i].fr.toNat C[i].to.toNat 0)] (by repeat (first | exact trivial | refine ⟨rfl, ?_⟩)) (by repeat (first | exact trivial | refine ⟨rfl, ?_⟩)) rfl rfl rfl ?_ ?_
      ·refine G.storeBR (i := C[i].fr.toNat) (j := C[i].to.toNat) rfl rfl rfl (by omega) (by omega) ?_
       exact WpOpsG.nil trivial
      refine G.storeBR (i := C[i].fr.toNat) (j := C[i].to.toNat) rfl rfl rfl (by omega) (by omega) ?_
      refine WpOpsG.nil ?_
      change WpOpsG _ _ _ ((20, _) :: _) _
      refine G.iaddrR rfl rfl (bM_at (by omega)) rfl (by omega) (by rw [bRow_len]; omega) ?_
      refine G.storeBR rfl rfl rfl (by omega) (by omega) ?_
      refine WpOpsG.nil ?_
      change WpG _ _ _ _ _
      refine WpG.reg ?_
      refine G.addI rfl rfl (by omega) ?_
      refine G.mv rfl ?_
      refine WpOpsG.nil ?_
      refine ⟨i + 1, by omega, by omega, ⟨rfl, rfl, rfl, rfl, rfl, trivial⟩, ⟨rfl, ?_, trivial⟩, rfl⟩
      rw [foldl_snoc7 _ _ (show i < C.length by omega)]
      first
       | (rw [show stD P.length ((C.take i).foldl (stD P.length) (dF P)) C[i] = ((C.take i).foldl (stD P.length) (dF P)) from if_neg hb7]; rfl)
       | (rw [show stD P.length ((C.take i).foldl (stD P.length) (dF P)) C[i] = (updF (updF ((C.take i).foldl (stD P.length) (dF P)) C[i].fr.toNat C[i].to.toNat true) C[i].to.toNat C[i].fr.toNat true) from if_pos hb7]; rfl)
     ·(try simp only [zN] at hq7)
      have hb7 : ¬ both7 P.length C[i] = true := by unfold both7; simp only [Bool.and_eq_true, not_and]; intro c1 c2; simp [c1, c2] at hq7
      refine WpG.skip ?_
      change WpG _ _ _ _ _
      refine WpG.reg ?_
      refine G.addI rfl rfl (by omega) ?_
      refine G.mv rfl ?_
      refine WpOpsG.nil ?_
      refine ⟨i + 1, by omega, by omega, ⟨rfl, rfl, rfl, rfl, rfl, trivial⟩, ⟨rfl, ?_, trivial⟩, rfl⟩
      rw [foldl_snoc7 _ _ (show i < C.length by omega)]
      first
       | (rw [show stD P.length ((C.take i).foldl (stD P.length) (dF P)) C[i] = ((C.take i).foldl (stD P.length) (dF P)) from if_neg hb7]; rfl)
       | (rw [show stD P.length ((C.take i).foldl (stD P.length) (dF P)) C[i] = (updF (updF ((C.take i).foldl (stD P.length) (dF P)) C[i].fr.toNat C[i].to.toNat true) C[i].to.toNat C[i].fr.toNat true) from if_pos hb7]; rfl)
    ·(try simp only [zN] at hq5)
     refine WpG.exit ?_
     change WpG _ _ _ _ _
     refine WpG.seq ?_
     rw [show C.take i = C from List.take_of_length_le (by omega)]
     refine WpG.freezeMt 20 rfl matF_enc ?_
     change WpG _ _ _ _ _
     refine WpG.reg ?_
     refine G.mv rfl ?_
     refine G.mv rfl ?_
     refine WpOpsG.nil ?_
     change WpG _ _ _ _ _
     refine WpG.ret ?_
     refine ⟨_, [], rfl, (hasP_le (by repeat (first | exact trivial | refine ⟨rfl, ?_⟩))), rfl, rfl, rfl, ?_⟩
     exact ⟨rfl, rfl⟩
   ·exact Nat.zero_le _
 ·exact Nat.zero_le _
end Go.AM.L10
