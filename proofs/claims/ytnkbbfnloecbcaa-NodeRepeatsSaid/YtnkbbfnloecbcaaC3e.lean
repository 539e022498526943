/- Contracts of the functions that the statement reaches. No condition. -/
import Derived.Test.YtnkbbfnloecbcaaC3d
import Derived.Test.YtnkbbfnloecbcaaPL1b
set_option linter.all false
set_option maxRecDepth 10000
namespace Go.AM.L3
open Go.AM.PL
set_option maxHeartbeats 1000000 in
theorem nodeRepeats_ok (t : List Int) (n : Int) (ht : t.length ≤ 2 ^ 50) (hi : ∀ x ∈ t, i64 x) : WpCallG A 6 [.fsl 1 (t.map encK), .v (.int .i64 n)] [] (fun v H => v = .v (.bool true) ∧ H = []) := by
  obtain ⟨q, hq, hq2⟩ := and_rng1 n 65535 (by decide)
  refine WpCallG.intro g6 rfl rfl ?_
  unfold af6
  change WpG _ _ _ _ _
  refine WpG.seq ?_
  refine WpG.reg ?_
  refine G.mv rfl ?_
  refine WpOpsG.nil ?_
  change WpG _ _ _ _ _
  refine WpG.seq ?_
  refine WpG.reg ?_
  refine G.mv rfl ?_
  refine G.build rfl ?_
  refine G.box (g := 11) rfl rfl rfl ?_
  change WpOpsG _ _ _ ((11, tbox t 0) :: _) _
  refine G.call (P := [(11, tbox t 0)]) rfl (by repeat (first | exact trivial | refine ⟨rfl, ?_⟩)) rfl rfl ((table_ok t 0 3 3 ht hi (Nat.zero_le _) (by decide) (by decide)).ren [(0, 11), (2, 20)]) ?_
  rintro _ _ ⟨_, _, ⟨x, ks, z, hx, _, rfl, rfl⟩, rfl, rfl⟩
  change newOk _ _ [(20, _), (11, tbox t z)] = true ∧ _
  refine ⟨rfl, ?_⟩
  change WpOpsG _ _ ((15, .osl 20) :: _) ([(20, .arr .yes 3 ((Fo.enc (Fo.one x ks)).map encD)), (11, tbox t z)] ++ _) _
  have lx := Fo.tb_len hx (by decide)
  have tx := Fo.tb_tot hx (by decide)
  have px := Fo.tot_pos hx.1 (by intro e; cases e)
  rw [Fo.tot_one hx.1] at px
  have dx := Fo.dep_rng ks
  refine WpOpsG.freeze 20 rfl ?_
  change WpOpsG _ _ ((15, .fsl 3 ((Fo.enc (Fo.one x ks)).map encD)) :: _) _ _
  refine G.mv rfl ?_
  refine WpOpsG.nil ?_
  change WpG _ _ _ _ _
  refine WpG.seq ?_
  refine WpG.reg ?_
  refine G.mv rfl ?_
  refine G.andK rfl rfl ?_
  rw [show andI .i64 n 65535 = (q : Int) from hq]
  first | refine G.addI rfl rfl (by omega) ?_ | refine G.bin rfl rfl rfl ?_
  refine G.mv rfl ?_
  refine WpOpsG.nil ?_
  change WpG _ _ _ _ _
  refine WpG.seq ?_
  refine WpG.reg ?_
  refine G.mv rfl ?_
  refine G.build rfl ?_
  refine G.bslice (g := 21) rfl rfl rfl rfl ?_
  refine G.mv rfl ?_
  refine G.app (ds := (Fo.enc (Fo.one x ks)).map encD) rfl rfl rfl rfl trivial (by simp only [List.length_map, List.length_cons, List.length_nil]; omega) ?_
  refine WpOpsG.freeze 21 rfl ?_
  change WpOpsG _ _ ((23, .fsl 3 (((⟨4, 0, 1 + (q : Int)⟩ : Nd) :: Fo.enc (Fo.one x ks)).map encD)) :: _) _ _
  have hL : ((⟨4, 0, 1 + (q : Int)⟩ : Nd) :: Fo.enc (Fo.one x ks)).length = (Fo.enc (Fo.one x ks)).length + 1 := List.length_cons
  have hr := Fo.lenX_rng (x := x) (t := ks.tot) (by rw [hx.1.1]; omega) (Fo.tot_rng hx.1.2.1)
  have hm0 : 0 ≤ (Fo.lenX x ks.tot * (1 + (q : Int))) := Int.mul_nonneg hr.1 (by omega)
  have hm1 : (Fo.lenX x ks.tot * (1 + (q : Int))) ≤ 1024 * 65536 := Int.mul_le_mul tx (by omega) (by omega) (by decide)
  obtain ⟨v, hv, hv2⟩ := Fo.rep_len hx (by decide) (m := 1 + (q : Int)) (by omega)
  have hy : (Fo.one (⟨4, 0, 1 + (q : Int)⟩ : Nd) (Fo.one x ks)).ok := ⟨by rw [show kidV (⟨4, 0, 1 + (q : Int)⟩ : Nd) = 1 by unfold kidV; rw [if_neg (by dsimp only; omega), if_neg (by dsimp only; omega), if_neg (by dsimp only; omega), if_pos rfl]]; rfl, hx.1, trivial⟩
  have hye : Fo.enc (Fo.one (⟨4, 0, 1 + (q : Int)⟩ : Nd) (Fo.one x ks)) = ((⟨4, 0, 1 + (q : Int)⟩ : Nd) :: Fo.enc (Fo.one x ks)) := by simp [Fo.enc, Fo.one]
  have hxd := hx.2.2.1
  refine G.mv rfl ?_
  refine WpOpsG.nil ?_
  change WpG _ _ _ _ _
  refine WpG.seq ?_
  refine WpG.reg ?_
  refine G.mv rfl ?_
  refine G.call0 rfl rfl (nlength_ok (Fo.enc (Fo.one x ks)) (by omega)) ?_
  rintro _ _ ⟨rfl, rfl⟩
  refine ⟨rfl, ?_⟩
  change WpOpsG _ _ ((26, _) :: _) _ _
  rw [Fo.len_one hx.1 (by omega), if_pos (by omega)]
  change WpOpsG _ _ ((26, .tup [.v (.int .i64 (Fo.lenX x ks.tot)), .v (.bool true)]) :: _) _ _
  refine G.mv rfl ?_
  refine G.ext rfl rfl ?_
  refine G.ext rfl rfl ?_
  refine G.mv rfl ?_
  refine G.mv rfl ?_
  refine WpOpsG.nil ?_
  change WpG _ _ _ _ _
  refine WpG.seq ?_
  refine WpG.reg ?_
  refine G.mv rfl ?_
  refine G.call0 rfl rfl (nlength_ok ((⟨4, 0, 1 + (q : Int)⟩ : Nd) :: Fo.enc (Fo.one x ks)) (by omega)) ?_
  rintro _ _ ⟨rfl, rfl⟩
  refine ⟨rfl, ?_⟩
  change WpOpsG _ _ ((31, _) :: _) _ _
  rw [hv]
  change WpOpsG _ _ ((31, .tup [.v (.int .i64 v), .v (.bool (decide ((Fo.lenX x ks.tot * (1 + (q : Int))) ≤ 4096)))]) :: _) _ _
  refine G.mv rfl ?_
  refine G.ext rfl rfl ?_
  refine G.ext rfl rfl ?_
  refine G.mv rfl ?_
  refine G.mv rfl ?_
  refine WpOpsG.nil ?_
  change WpG _ _ _ _ _
  refine WpG.seq ?_
  refine WpG.reg ?_
  refine G.mv rfl ?_
  refine G.mv rfl ?_
  refine G.mv rfl ?_
  apply G.andS rfl rfl rfl rfl rfl rfl
  case hB =>
    intro hs1
    (try simp only [decide_eq_true_eq, decide_eq_false_iff_not, Bool.or_eq_true, Bool.and_eq_true, Bool.or_eq_false_iff, Bool.and_eq_false_iff, bne_iff_ne, beq_iff_eq, beq_eq_false_iff_ne, bne_eq_false_iff_eq, ne_eq, Bool.not_eq_true', Bool.not_eq_false', Int.not_lt, Int.not_le, Decidable.not_not, List.length_map, List.length_cons, List.length_nil] at hs1)
    refine G.mv rfl ?_
    refine G.mv rfl ?_
    first | refine G.mulI rfl rfl (by omega) ?_ | refine G.bin rfl rfl rfl ?_
    refine G.bin rfl rfl rfl ?_
    refine WpOpsG.nil ?_
    exact ⟨rfl, (by repeat (first | exact LLe.refl _ | refine LLe.cons rfl ?_)), (by repeat (first | exact HLe.refl _ | refine HLe.cons rfl ?_)), rfl⟩
  refine G.beq rfl rfl rfl ?_
  rw [show (false ^^ (decide ((Fo.lenX x ks.tot * (1 + (q : Int))) ≤ 4096) == (true && decide ((Fo.lenX x ks.tot * (1 + (q : Int))) ≤ 4096)))) = true by cases decide ((Fo.lenX x ks.tot * (1 + (q : Int))) ≤ 4096) <;> rfl]
  refine G.mv rfl ?_
  apply G.andS rfl rfl rfl rfl rfl rfl
  case hB =>
    intro hs2
    (try simp only [decide_eq_true_eq, decide_eq_false_iff_not, Bool.or_eq_true, Bool.and_eq_true, Bool.or_eq_false_iff, Bool.and_eq_false_iff, bne_iff_ne, beq_iff_eq, beq_eq_false_iff_ne, bne_eq_false_iff_eq, ne_eq, Bool.not_eq_true', Bool.not_eq_false', Int.not_lt, Int.not_le, Decidable.not_not, List.length_map, List.length_cons, List.length_nil] at hs2)
    refine G.mv rfl ?_
    refine G.un rfl rfl ?_
    refine G.mv rfl ?_
    apply G.orS rfl rfl rfl rfl rfl rfl
    case hB =>
      intro hs3
      (try simp only [decide_eq_true_eq, decide_eq_false_iff_not, Bool.or_eq_true, Bool.and_eq_true, Bool.or_eq_false_iff, Bool.and_eq_false_iff, bne_iff_ne, beq_iff_eq, beq_eq_false_iff_ne, bne_eq_false_iff_eq, ne_eq, Bool.not_eq_true', Bool.not_eq_false', Int.not_lt, Int.not_le, Decidable.not_not, List.length_map, List.length_cons, List.length_nil] at hs3)
      refine G.mv rfl ?_
      refine G.mv rfl ?_
      refine G.mv rfl ?_
      first | refine G.mulI rfl rfl (by omega) ?_ | refine G.bin rfl rfl rfl ?_
      refine G.bin rfl rfl rfl ?_
      rw [show (v == (Fo.lenX x ks.tot * (1 + (q : Int)))) = true by rw [hv2 (by omega)]; simp]
      refine WpOpsG.nil ?_
      exact ⟨rfl, (by repeat (first | exact LLe.refl _ | refine LLe.cons rfl ?_)), (by repeat (first | exact HLe.refl _ | refine HLe.cons rfl ?_)), rfl⟩
    refine WpOpsG.nil ?_
    exact ⟨rfl, (by repeat (first | exact LLe.refl _ | refine LLe.cons rfl ?_)), (by repeat (first | exact HLe.refl _ | refine HLe.cons rfl ?_)), rfl⟩
  refine G.mv rfl ?_
  apply G.andS rfl rfl rfl rfl rfl rfl
  case hB =>
    intro hs4
    (try simp only [decide_eq_true_eq, decide_eq_false_iff_not, Bool.or_eq_true, Bool.and_eq_true, Bool.or_eq_false_iff, Bool.and_eq_false_iff, bne_iff_ne, beq_iff_eq, beq_eq_false_iff_ne, bne_eq_false_iff_eq, ne_eq, Bool.not_eq_true', Bool.not_eq_false', Int.not_lt, Int.not_le, Decidable.not_not, List.length_map, List.length_cons, List.length_nil] at hs4)
    refine G.mv rfl ?_
    refine G.call0 rfl rfl (nsize_ok ((⟨4, 0, 1 + (q : Int)⟩ : Nd) :: Fo.enc (Fo.one x ks)) 0 (by omega) (by unfold i64; decide)) ?_
    rintro _ _ ⟨rfl, rfl⟩
    refine ⟨rfl, ?_⟩
    change WpOpsG _ _ ((56, _) :: _) _ _
    rw [show sizeV ((⟨4, 0, 1 + (q : Int)⟩ : Nd) :: Fo.enc (Fo.one x ks)) 0 = (((⟨4, 0, 1 + (q : Int)⟩ : Nd) :: Fo.enc (Fo.one x ks)).length : Int) by have h := Fo.size_one hy [] []; rw [List.nil_append, List.append_nil, hye] at h; exact h]
    refine G.mv rfl ?_
    first | refine G.lenM rfl ?_ | refine G.lenOM rfl rfl ?_ | refine G.lenF rfl ?_ | refine G.lenO rfl rfl ?_ | refine G.lenNil rfl ?_
    refine G.bin rfl rfl rfl ?_
    rw [show ((((⟨4, 0, 1 + (q : Int)⟩ : Nd) :: Fo.enc (Fo.one x ks)).length : Int) == ((⟨4, 0, 1 + (q : Int)⟩ : Nd) :: Fo.enc (Fo.one x ks)).length) = true by simp]
    refine WpOpsG.nil ?_
    exact ⟨rfl, (by repeat (first | exact LLe.refl _ | refine LLe.cons rfl ?_)), (by repeat (first | exact HLe.refl _ | refine HLe.cons rfl ?_)), rfl⟩
  refine G.mv rfl ?_
  apply G.andS rfl rfl rfl rfl rfl rfl
  case hB =>
    intro hs5
    (try simp only [decide_eq_true_eq, decide_eq_false_iff_not, Bool.or_eq_true, Bool.and_eq_true, Bool.or_eq_false_iff, Bool.and_eq_false_iff, bne_iff_ne, beq_iff_eq, beq_eq_false_iff_ne, bne_eq_false_iff_eq, ne_eq, Bool.not_eq_true', Bool.not_eq_false', Int.not_lt, Int.not_le, Decidable.not_not, List.length_map, List.length_cons, List.length_nil] at hs5)
    refine G.mv rfl ?_
    refine G.call0 rfl rfl (ndepth_ok ((⟨4, 0, 1 + (q : Int)⟩ : Nd) :: Fo.enc (Fo.one x ks)) (by omega)) ?_
    rintro _ _ ⟨rfl, rfl⟩
    refine ⟨rfl, ?_⟩
    change WpOpsG _ _ ((63, _) :: _) _ _
    rw [show depV ((⟨4, 0, 1 + (q : Int)⟩ : Nd) :: Fo.enc (Fo.one x ks)) = 1 + (1 + ks.dep) by have h := Fo.dep_one hy (by rw [hye]; omega); rw [hye] at h; rw [h]; have := Fo.dep_rng ks; show 1 + max (1 + ks.dep) 0 = _; omega]
    refine G.mv rfl ?_
    refine G.call0 rfl rfl (ndepth_ok (Fo.enc (Fo.one x ks)) (by omega)) ?_
    rintro _ _ ⟨rfl, rfl⟩
    refine ⟨rfl, ?_⟩
    change WpOpsG _ _ ((65, _) :: _) _ _
    rw [Fo.dep_one hx.1 (by omega)]
    first | refine G.addI rfl rfl (by omega) ?_ | refine G.bin rfl rfl rfl ?_
    refine G.bin rfl rfl rfl ?_
    rw [show ((1 + (1 + ks.dep) : Int) == 1 + (1 + ks.dep)) = true by simp]
    refine WpOpsG.nil ?_
    exact ⟨rfl, (by repeat (first | exact LLe.refl _ | refine LLe.cons rfl ?_)), (by repeat (first | exact HLe.refl _ | refine HLe.cons rfl ?_)), rfl⟩
  refine G.mv rfl ?_
  apply G.andS rfl rfl rfl rfl rfl rfl
  case hB =>
    intro hs6
    (try simp only [decide_eq_true_eq, decide_eq_false_iff_not, Bool.or_eq_true, Bool.and_eq_true, Bool.or_eq_false_iff, Bool.and_eq_false_iff, bne_iff_ne, beq_iff_eq, beq_eq_false_iff_ne, bne_eq_false_iff_eq, ne_eq, Bool.not_eq_true', Bool.not_eq_false', Int.not_lt, Int.not_le, Decidable.not_not, List.length_map, List.length_cons, List.length_nil] at hs6)
    refine G.mv rfl ?_
    refine G.mv rfl ?_
    refine G.call0 rfl rfl (nsame_ok (Fo.enc (Fo.one x ks)) ((⟨4, 0, 1 + (q : Int)⟩ : Nd) :: Fo.enc (Fo.one x ks)) (by omega) (by omega)) ?_
    rintro _ _ ⟨rfl, rfl⟩
    refine ⟨rfl, ?_⟩
    change WpOpsG _ _ ((72, _) :: _) _ _
    rw [show decide (Fo.enc (Fo.one x ks) = ((⟨4, 0, 1 + (q : Int)⟩ : Nd) :: Fo.enc (Fo.one x ks))) = false from decide_eq_false (fun e => by have := congrArg List.length e; omega)]
    refine G.un rfl rfl ?_
    refine WpOpsG.nil ?_
    exact ⟨rfl, (by repeat (first | exact LLe.refl _ | refine LLe.cons rfl ?_)), (by repeat (first | exact HLe.refl _ | refine HLe.cons rfl ?_)), rfl⟩
  refine G.mv rfl ?_
  apply G.andS rfl rfl rfl rfl rfl rfl
  case hB =>
    intro hs7
    (try simp only [decide_eq_true_eq, decide_eq_false_iff_not, Bool.or_eq_true, Bool.and_eq_true, Bool.or_eq_false_iff, Bool.and_eq_false_iff, bne_iff_ne, beq_iff_eq, beq_eq_false_iff_ne, bne_eq_false_iff_eq, ne_eq, Bool.not_eq_true', Bool.not_eq_false', Int.not_lt, Int.not_le, Decidable.not_not, List.length_map, List.length_cons, List.length_nil] at hs7)
    refine G.call0 rfl rfl (known3_ok) ?_
    rintro _ _ ⟨rfl, rfl⟩
    refine ⟨rfl, ?_⟩
    change WpOpsG _ _ ((76, _) :: _) _ _
    refine WpOpsG.nil ?_
    exact ⟨rfl, (by repeat (first | exact LLe.refl _ | refine LLe.cons rfl ?_)), (by repeat (first | exact HLe.refl _ | refine HLe.cons rfl ?_)), rfl⟩
  refine G.mv rfl ?_
  refine WpOpsG.nil ?_
  change WpG _ _ _ _ _
  refine WpG.ret ?_
  refine ⟨_, [], rfl, (hasP_le (by repeat (first | exact trivial | refine ⟨rfl, ?_⟩))), rfl, rfl, rfl, ?_⟩
  refine ⟨?_, rfl⟩
  show GV.v (.bool _) = GV.v (.bool true)
  congr 2
  cases decide ((Fo.lenX x ks.tot * (1 + (q : Int))) ≤ 4096) <;> rfl
end Go.AM.L3
