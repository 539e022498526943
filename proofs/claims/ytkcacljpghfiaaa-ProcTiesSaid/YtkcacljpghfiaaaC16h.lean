/- Contracts of the functions that the statement reaches. No condition. -/
import Derived.Test.YtkcacljpghfiaaaC16g
set_option linter.all false
set_option maxRecDepth 10000
namespace Go.AM.L16
open Go.AM.PL
theorem procTies_ok (n prio now : Int) (hnn : i64 n) : WpCallG A 4 [.v (.int .i64 n), .v (.int .i64 prio), .v (.int .i64 now)] [] (fun v H => v = .v (.bool true) ∧ H = []) := by
 refine WpCallG.intro g4 rfl rfl ?_
 unfold af4
 change WpG _ _ _ _ _
 refine WpG.seq ?_
 refine WpG.reg ?_
 refine G.mv rfl ?_
 refine WpOpsG.nil ?_
 change WpG _ _ _ _ _
 refine WpG.seq ?_
 refine WpG.reg ?_
 refine G.mv rfl ?_
 refine G.call0 rfl rfl (within_ok n 0 2 hnn (by decide) (by decide) (by decide)) ?_
 rintro _ _ ⟨rfl, rfl⟩
 refine ⟨rfl, ?_⟩
 change WpOpsG _ _ ((13, _) :: _) _ _
 obtain ⟨b, hb, hb2⟩ := within_nat1 n 2
 rw [show within n 0 2 = (b : Int) from hb]
 refine G.addI rfl rfl (by omega) ?_
 rw [show 1 + (b : Int) = ((1 + b : Nat) : Int) by omega]
 refine G.mv rfl ?_
 refine WpOpsG.nil ?_
 change WpG _ _ _ _ _
 refine WpG.seq ?_
 refine WpG.reg ?_
 refine G.mv rfl ?_
 refine WpOpsG.nil ?_
 change WpG _ _ _ _ _
 refine WpG.seq ?_
 refine WpG.seq ?_
 refine WpG.reg ?_
 refine G.mv rfl ?_
 refine WpOpsG.nil ?_
 change WpG _ _ _ _ _
 refine WpG.block ?_
 refine WpG.ownNil (g := 20) (k := 8) (w := 2) rfl rfl ?_
 refine WpG.loop (S := Nat) (fun i => [(1, .v (.int .i64 prio)), (2, .v (.int .i64 now)), (6, .v (.bool false)), (7, .v (.int .i64 ((1 + b : Nat) : Int))), (8, .osl 20), (9, .v (.int .i64 (i : Int)))]) (fun i => [(20, .arr .yes 2 ((List.replicate i ((0 : Int), prio)).map encSp))]) (fun i => i ≤ 1 + b) (fun i => 1 + b - i) (fun s => ⟨rfl, rfl⟩) ?_ 0 ?_ (by repeat (first | exact trivial | refine ⟨rfl, ?_⟩)) (by repeat (first | exact trivial | refine ⟨rfl, ?_⟩)) rfl
 ·intro i hI
  refine WpG.seq ?_
  refine WpG.seq ?_
  refine WpG.reg ?_
  refine G.mv rfl ?_
  refine G.mv rfl ?_
  refine G.bin rfl rfl rfl ?_
  refine WpOpsG.nil ?_
  change WpG _ _ _ _ _
  refine WpG.cond rfl (fun hq1 => ?_) (fun hq1 => ?_)
  ·(try simp only [zN] at hq1)
   refine WpG.skip ?_
   change WpG _ _ _ _ _
   refine WpG.seq ?_
   refine WpG.block ?_
   refine WpG.reg ?_
   refine G.mv rfl ?_
   refine G.mv rfl ?_
   refine G.build rfl ?_
   refine G.bsliceF rfl rfl rfl ?_
   change WpOpsG _ _ ((23, .fsl 2 (([(0, prio)] : List Sp).map encSp)) :: _) _ _
   refine G.app rfl rfl rfl rfl trivial (by rw [List.length_map, List.length_replicate]; show (_ + 1) * 16 ≤ 2 ^ 47; omega) ?_
   rw [← List.map_append]
   refine G.mv rfl ?_
   refine WpOpsG.nil ?_
   change WpG _ _ _ _ _
   refine WpG.reg ?_
   refine G.mv rfl ?_
   refine G.addI rfl rfl (by omega) ?_
   refine G.mv rfl ?_
   refine WpOpsG.nil ?_
   refine ⟨i + 1, by omega, by omega, ⟨rfl, rfl, rfl, rfl, rfl, rfl, trivial⟩, ⟨?_, trivial⟩, rfl⟩
   rw [List.replicate_succ']; rfl
  ·(try simp only [zN] at hq1)
   refine WpG.exit ?_
   change WpG _ _ _ _ _
   refine WpG.seq ?_
   obtain rfl : i = 1 + b := by omega
   refine WpG.freeze 20 rfl ?_
   refine WpG.reg ?_
   refine G.mv rfl ?_
   refine G.call0 rfl rfl ((new16_ok (List.replicate (1 + b) (0, prio)) (by rw [List.length_replicate]; omega) (by rw [List.length_replicate]; omega)).ren [(0, 21), (1, 22)]) ?_
   rintro _ _ ⟨_, _, ⟨rfl, rfl⟩, rfl, rfl⟩
   change newOk _ _ [(21, _), (22, _)] = true ∧ _
   refine ⟨rfl, ?_⟩
   change WpOpsG _ _ ((26, .bptr 21 0) :: _) ([(21, .box [.osl 22]), (22, .arr .yes 3 ((newP (List.replicate (1 + b) (0, prio))).map encPr))] ++ _) _
   rw [tie_new]
   refine G.mv rfl ?_
   refine WpOpsG.nil ?_
   change WpG _ _ _ _ _
   refine WpG.seq ?_
   refine WpG.seq ?_
   refine WpG.reg ?_
   refine G.mv rfl ?_
   refine G.eqnilB rfl ?_
   refine WpOpsG.nil ?_
   change WpG _ _ _ _ _
   refine WpG.cond rfl (fun hq2 => absurd hq2 (by decide)) (fun hq2 => ?_)
   refine WpG.skip ?_
   change WpG _ _ _ _ _
   refine WpG.seq ?_
   refine WpG.seq ?_
   refine WpG.reg ?_
   refine G.mv rfl ?_
   refine WpOpsG.nil ?_
   change WpG _ _ _ _ _
   refine WpG.block ?_
   refine WpG.loop (S := Nat) (fun i => [(2, .v (.int .i64 now)), (6, .v (.bool false)), (7, .v (.int .i64 ((1 + b : Nat) : Int))), (10, .bptr 21 0), (11, .v (.int .i64 (i : Int)))]) (fun i => [(21, .box [.osl 22]), (22, .arr .yes 3 ((tieP (1 + b) prio i).map encPr))]) (fun i => i ≤ 1 + b) (fun i => 1 + b - i) (fun s => ⟨rfl, rfl⟩) ?_ 0 ?_ (by repeat (first | exact trivial | refine ⟨rfl, ?_⟩)) (by repeat (first | exact trivial | refine ⟨rfl, ?_⟩)) rfl
   ·intro i hI
    refine WpG.seq ?_
    refine WpG.seq ?_
    refine WpG.reg ?_
    refine G.mv rfl ?_
    refine G.mv rfl ?_
    refine G.bin rfl rfl rfl ?_
    refine WpOpsG.nil ?_
    change WpG _ _ _ _ _
    refine WpG.cond rfl (fun hq3 => ?_) (fun hq3 => ?_)
    ·(try simp only [zN] at hq3)
     refine WpG.skip ?_
     change WpG _ _ _ _ _
     refine WpG.seq ?_
     refine WpG.block ?_
     refine WpG.seq ?_
     refine WpG.reg ?_
     refine G.mv rfl ?_
     refine G.mv rfl ?_
     refine G.andK rfl rfl ?_
     obtain ⟨q, eq, hq⟩ := and_rng1 now 63 (by decide)
     rw [show andI .i64 now 63 = (q : Int) from eq]
     refine G.lend rfl rfl (pick_ok (tieP (1 + b) prio i) (q : Int) (by rw [tie_len]; omega)) ?_
     rintro _ _ ⟨rfl, rfl⟩
     refine ⟨rfl, trivial, rfl, ?_⟩
     change WpOpsG _ _ ((37, _) :: _) _ _
     rw [tie_pick (by omega) (by omega), if_pos (by omega)]
     refine G.mv rfl ?_
     refine G.bin rfl rfl rfl ?_
     rw [bne_self_eq_false]
     refine G.mv rfl ?_
     refine WpOpsG.known 40 false rfl rfl ?_
     refine G.mv rfl ?_
     refine G.mv rfl ?_
     refine G.call (P := [(21, .box [.osl 22]), (22, .arr .yes 3 ((tieP (1 + b) prio i).map encPr))]) rfl (by repeat (first | exact trivial | refine ⟨rfl, ?_⟩)) rfl rfl ((end16_ok (tieP (1 + b) prio i) (i : Int) (by rw [tie_len]; omega)).ren [(0, 21), (1, 22)]) ?_
     rintro _ _ ⟨_, _, ⟨rfl, rfl⟩, rfl, rfl⟩
     change newOk _ _ [(21, _), (22, _)] = true ∧ _
     refine ⟨rfl, ?_⟩
     change WpOpsG _ _ ((43, _) :: _) ([(21, .box [.osl 22]), (22, .arr .yes 3 ((endV (tieP (1 + b) prio i) (i : Int)).map encPr))] ++ _) _
     rw [tie_end (by omega), show isV (tieP (1 + b) prio i) (i : Int) = true from isV_iff.2 (by rw [tie_len]; omega)]
     refine G.un rfl rfl ?_
     refine G.pickF rfl rfl ?_
     refine WpOpsG.nil ?_
     change WpG _ _ _ _ _
     refine WpG.cond rfl (fun hq4 => absurd hq4 (by decide)) (fun hq4 => ?_)
     refine WpG.skip ?_
     change WpG _ _ _ _ _
     refine WpG.reg ?_
     refine G.mv rfl ?_
     refine G.addI rfl rfl (by omega) ?_
     refine G.mv rfl ?_
     refine WpOpsG.nil ?_
     exact ⟨i + 1, by omega, by omega, ⟨rfl, rfl, rfl, rfl, rfl, trivial⟩, ⟨rfl, rfl, trivial⟩, rfl⟩
    ·(try simp only [zN] at hq3)
     refine WpG.exit ?_
     change WpG _ _ _ _ _
     refine WpG.seq ?_
     refine WpG.reg ?_
     refine G.mv rfl ?_
     refine G.mv rfl ?_
     refine G.andK rfl rfl ?_
     obtain ⟨q, eq, hq⟩ := and_rng1 now 63 (by decide)
     rw [show andI .i64 now 63 = (q : Int) from eq]
     refine G.lend rfl rfl (pick_ok (tieP (1 + b) prio i) (q : Int) (by rw [tie_len]; omega)) ?_
     rintro _ _ ⟨rfl, rfl⟩
     refine ⟨rfl, trivial, rfl, ?_⟩
     change WpOpsG _ _ ((49, _) :: _) _ _
     rw [tie_pick (by omega) (by omega), if_neg (by omega)]
     refine G.bin rfl rfl rfl ?_
     refine G.mv rfl ?_
     refine WpOpsG.known 51 true rfl rfl ?_
     refine G.call0 rfl rfl (known16_ok) ?_
     rintro _ _ ⟨rfl, rfl⟩
     refine ⟨rfl, ?_⟩
     change WpOpsG _ _ ((52, _) :: _) _ _
     refine G.pickT rfl rfl ?_
     refine G.mv rfl ?_
     refine WpOpsG.nil ?_
     change WpG _ _ _ _ _
     refine WpG.ret ?_
     refine ⟨_, [], rfl, (hasP_le (by repeat (first | exact trivial | refine ⟨rfl, ?_⟩))), rfl, rfl, rfl, ?_⟩
     exact ⟨rfl, rfl⟩
   ·exact Nat.zero_le _
 ·exact Nat.zero_le _
end Go.AM.L16
