/- Contracts of the functions that the statement reaches. No condition. -/
import Derived.Test.YtbnhmpjcmgbabaaC17d
set_option linter.all false
set_option maxRecDepth 10000
namespace Go.AM.L17
open Go.AM.PL
theorem known17_ok  : WpCallG A 9 [] [] (fun v H => v = .v (.bool true) ∧ H = []) := by
  refine WpCallG.intro g9 rfl rfl ?_
  unfold af9
  change WpG _ _ _ _ _
  refine WpG.seq ?_
  refine WpG.reg ?_
  refine G.mv rfl ?_
  refine WpOpsG.nil ?_
  change WpG _ _ _ _ _
  refine WpG.seq ?_
  refine WpG.reg ?_
  refine G.build rfl ?_
  refine G.build rfl ?_
  refine G.bsliceF rfl rfl rfl ?_
  change WpOpsG _ _ ((17, .fsl 6 (kC.map encC)) :: _) _ _
  refine G.call0 rfl rfl ((new_ok kC (by decide)).ren [(0, 10), (1, 11)]) ?_
  rintro _ _ ⟨_, _, ⟨rfl, rfl⟩, rfl, rfl⟩
  change newOk _ _ [(10, .box [.fsl 6 (kC.map encC), .msl 11]), (11, .mat 1 _)] = true ∧ _
  refine ⟨rfl, ?_⟩
  change WpOpsG _ _ ((18, .bptr 10 0) :: _) ([(10, .box [.fsl 6 (kC.map encC), .msl 11]), (11, .mat 1 (encHas (List.replicate kC.length [])))] ++ _) _
  refine G.mv rfl ?_
  refine WpOpsG.nil ?_
  change WpG _ _ _ _ _
  refine WpG.seq ?_
  refine WpG.seq ?_
  refine WpG.reg ?_
  refine G.mv rfl ?_
  first | refine G.eqnilB rfl ?_ | refine G.eqnilP rfl ?_ | refine G.eqnilF rfl (fun hnil20 hnil20_e => ?_)
  refine WpOpsG.nil ?_
  change WpG _ _ _ _ _
  refine WpG.cond rfl (fun hq1 => absurd hq1 (by first | decide | simp)) (fun hq1 => ?_)
  refine WpG.skip ?_
  change WpG _ _ _ _ _
  refine WpG.seq ?_
  refine WpG.reg ?_
  refine G.mv rfl ?_
  refine G.call (P := [(10, .box [.fsl 6 (kC.map encC), .msl 11]), (11, .mat 1 (encHas (List.replicate kC.length [])))]) rfl (by repeat (first | exact trivial | refine ⟨rfl, ?_⟩)) rfl rfl ((send_ok kC (List.replicate kC.length []) 0 5 (by decide) (by decide) (by unfold smallS; decide)).ren [(1, 10), (2, 11)]) ?_
  rintro _ _ ⟨_, _, ⟨rfl, rfl⟩, rfl, rfl⟩
  rw [show sendC kC (List.replicate kC.length []) 0 5 = 0 by decide, show sendS kC (List.replicate kC.length []) 0 5 = [[5], []] by decide]
  change newOk _ _ [(10, .box [.fsl 6 (kC.map encC), .msl 11]), (11, .mat 1 (encHas [[5], []]))] = true ∧ _
  refine ⟨rfl, ?_⟩
  change WpOpsG _ _ ((22, _) :: _) ([(10, .box [.fsl 6 (kC.map encC), .msl 11]), (11, .mat 1 (encHas [[5], []]))] ++ _) _
  refine G.mv rfl ?_
  refine G.call (P := [(10, .box [.fsl 6 (kC.map encC), .msl 11]), (11, .mat 1 (encHas [[5], []]))]) rfl (by repeat (first | exact trivial | refine ⟨rfl, ?_⟩)) rfl rfl ((send_ok kC [[5], []] 0 6 (by decide) (by decide) (by unfold smallS; decide)).ren [(1, 10), (2, 11)]) ?_
  rintro _ _ ⟨_, _, ⟨rfl, rfl⟩, rfl, rfl⟩
  rw [show sendC kC [[5], []] 0 6 = 1 by decide, show sendS kC [[5], []] 0 6 = [[5], []] by decide]
  change newOk _ _ [(10, .box [.fsl 6 (kC.map encC), .msl 11]), (11, .mat 1 (encHas [[5], []]))] = true ∧ _
  refine ⟨rfl, ?_⟩
  change WpOpsG _ _ ((24, _) :: _) ([(10, .box [.fsl 6 (kC.map encC), .msl 11]), (11, .mat 1 (encHas [[5], []]))] ++ _) _
  refine G.mv rfl ?_
  refine G.call (P := [(10, .box [.fsl 6 (kC.map encC), .msl 11]), (11, .mat 1 (encHas [[5], []]))]) rfl (by repeat (first | exact trivial | refine ⟨rfl, ?_⟩)) rfl rfl ((send_ok kC [[5], []] 0 10 (by decide) (by decide) (by unfold smallS; decide)).ren [(1, 10), (2, 11)]) ?_
  rintro _ _ ⟨_, _, ⟨rfl, rfl⟩, rfl, rfl⟩
  rw [show sendC kC [[5], []] 0 10 = 3 by decide, show sendS kC [[5], []] 0 10 = [[5], []] by decide]
  change newOk _ _ [(10, .box [.fsl 6 (kC.map encC), .msl 11]), (11, .mat 1 (encHas [[5], []]))] = true ∧ _
  refine ⟨rfl, ?_⟩
  change WpOpsG _ _ ((26, _) :: _) ([(10, .box [.fsl 6 (kC.map encC), .msl 11]), (11, .mat 1 (encHas [[5], []]))] ++ _) _
  refine G.mv rfl ?_
  refine G.mv rfl ?_
  refine G.mv rfl ?_
  refine WpOpsG.nil ?_
  change WpG _ _ _ _ _
  refine WpG.seq ?_
  refine WpG.reg ?_
  refine G.mv rfl ?_
  refine G.call (P := [(10, .box [.fsl 6 (kC.map encC), .msl 11]), (11, .mat 1 (encHas [[5], []]))]) rfl (by repeat (first | exact trivial | refine ⟨rfl, ?_⟩)) rfl rfl ((send_ok kC [[5], []] 1 7 (by decide) (by decide) (by unfold smallS; decide)).ren [(1, 10), (2, 11)]) ?_
  rintro _ _ ⟨_, _, ⟨rfl, rfl⟩, rfl, rfl⟩
  rw [show sendC kC [[5], []] 1 7 = 0 by decide, show sendS kC [[5], []] 1 7 = [[5], [7]] by decide]
  change newOk _ _ [(10, .box [.fsl 6 (kC.map encC), .msl 11]), (11, .mat 1 (encHas [[5], [7]]))] = true ∧ _
  refine ⟨rfl, ?_⟩
  change WpOpsG _ _ ((28, _) :: _) ([(10, .box [.fsl 6 (kC.map encC), .msl 11]), (11, .mat 1 (encHas [[5], [7]]))] ++ _) _
  refine WpOpsG.nil ?_
  change WpG _ _ _ _ _
  refine WpG.seq ?_
  refine WpG.reg ?_
  refine G.mv rfl ?_
  refine G.call (P := [(10, .box [.fsl 6 (kC.map encC), .msl 11]), (11, .mat 1 (encHas [[5], [7]]))]) rfl (by repeat (first | exact trivial | refine ⟨rfl, ?_⟩)) rfl rfl ((send_ok kC [[5], [7]] 1 8 (by decide) (by decide) (by unfold smallS; decide)).ren [(1, 10), (2, 11)]) ?_
  rintro _ _ ⟨_, _, ⟨rfl, rfl⟩, rfl, rfl⟩
  rw [show sendC kC [[5], [7]] 1 8 = 0 by decide, show sendS kC [[5], [7]] 1 8 = [[5], [8]] by decide]
  change newOk _ _ [(10, .box [.fsl 6 (kC.map encC), .msl 11]), (11, .mat 1 (encHas [[5], [8]]))] = true ∧ _
  refine ⟨rfl, ?_⟩
  change WpOpsG _ _ ((30, _) :: _) ([(10, .box [.fsl 6 (kC.map encC), .msl 11]), (11, .mat 1 (encHas [[5], [8]]))] ++ _) _
  refine WpOpsG.nil ?_
  change WpG _ _ _ _ _
  refine WpG.seq ?_
  refine WpG.reg ?_
  refine G.mv rfl ?_
  refine G.call (P := [(10, .box [.fsl 6 (kC.map encC), .msl 11]), (11, .mat 1 (encHas [[5], [8]]))]) rfl (by repeat (first | exact trivial | refine ⟨rfl, ?_⟩)) rfl rfl ((recv_ok kC [[5], [8]] 0 (by decide) (by decide) (by unfold smallS; decide)).ren [(1, 10), (2, 11)]) ?_
  rintro _ _ ⟨_, _, ⟨rfl, rfl⟩, rfl, rfl⟩
  rw [show recvN kC [[5], [8]] 0 = 5 by decide, show recvC kC [[5], [8]] 0 = 0 by decide, show recvS kC [[5], [8]] 0 = [[], [8]] by decide]
  change newOk _ _ [(10, .box [.fsl 6 (kC.map encC), .msl 11]), (11, .mat 1 (encHas [[], [8]]))] = true ∧ _
  refine ⟨rfl, ?_⟩
  change WpOpsG _ _ ((33, _) :: _) ([(10, .box [.fsl 6 (kC.map encC), .msl 11]), (11, .mat 1 (encHas [[], [8]]))] ++ _) _
  refine G.mv rfl ?_
  refine G.ext rfl rfl ?_
  refine G.ext rfl rfl ?_
  refine G.mv rfl ?_
  refine G.mv rfl ?_
  refine WpOpsG.nil ?_
  change WpG _ _ _ _ _
  refine WpG.seq ?_
  refine WpG.reg ?_
  refine G.mv rfl ?_
  refine G.call (P := [(10, .box [.fsl 6 (kC.map encC), .msl 11]), (11, .mat 1 (encHas [[], [8]]))]) rfl (by repeat (first | exact trivial | refine ⟨rfl, ?_⟩)) rfl rfl ((recv_ok kC [[], [8]] 0 (by decide) (by decide) (by unfold smallS; decide)).ren [(1, 10), (2, 11)]) ?_
  rintro _ _ ⟨_, _, ⟨rfl, rfl⟩, rfl, rfl⟩
  rw [show recvN kC [[], [8]] 0 = 0 by decide, show recvC kC [[], [8]] 0 = 2 by decide, show recvS kC [[], [8]] 0 = [[], [8]] by decide]
  change newOk _ _ [(10, .box [.fsl 6 (kC.map encC), .msl 11]), (11, .mat 1 (encHas [[], [8]]))] = true ∧ _
  refine ⟨rfl, ?_⟩
  change WpOpsG _ _ ((38, _) :: _) ([(10, .box [.fsl 6 (kC.map encC), .msl 11]), (11, .mat 1 (encHas [[], [8]]))] ++ _) _
  refine G.mv rfl ?_
  refine G.ext rfl rfl ?_
  refine G.ext rfl rfl ?_
  refine G.mv rfl ?_
  refine G.mv rfl ?_
  refine WpOpsG.nil ?_
  change WpG _ _ _ _ _
  refine WpG.seq ?_
  refine WpG.reg ?_
  refine G.mv rfl ?_
  refine G.call (P := [(10, .box [.fsl 6 (kC.map encC), .msl 11]), (11, .mat 1 (encHas [[], [8]]))]) rfl (by repeat (first | exact trivial | refine ⟨rfl, ?_⟩)) rfl rfl ((recv_ok kC [[], [8]] 1 (by decide) (by decide) (by unfold smallS; decide)).ren [(1, 10), (2, 11)]) ?_
  rintro _ _ ⟨_, _, ⟨rfl, rfl⟩, rfl, rfl⟩
  rw [show recvN kC [[], [8]] 1 = 8 by decide, show recvC kC [[], [8]] 1 = 0 by decide, show recvS kC [[], [8]] 1 = [[], [8]] by decide]
  change newOk _ _ [(10, .box [.fsl 6 (kC.map encC), .msl 11]), (11, .mat 1 (encHas [[], [8]]))] = true ∧ _
  refine ⟨rfl, ?_⟩
  change WpOpsG _ _ ((43, _) :: _) ([(10, .box [.fsl 6 (kC.map encC), .msl 11]), (11, .mat 1 (encHas [[], [8]]))] ++ _) _
  refine G.mv rfl ?_
  refine G.ext rfl rfl ?_
  refine G.ext rfl rfl ?_
  refine G.mv rfl ?_
  refine G.mv rfl ?_
  refine WpOpsG.nil ?_
  change WpG _ _ _ _ _
  refine WpG.seq ?_
  refine WpG.reg ?_
  refine G.mv rfl ?_
  refine G.call (P := [(10, .box [.fsl 6 (kC.map encC), .msl 11]), (11, .mat 1 (encHas [[], [8]]))]) rfl (by repeat (first | exact trivial | refine ⟨rfl, ?_⟩)) rfl rfl ((recv_ok kC [[], [8]] 1 (by decide) (by decide) (by unfold smallS; decide)).ren [(1, 10), (2, 11)]) ?_
  rintro _ _ ⟨_, _, ⟨rfl, rfl⟩, rfl, rfl⟩
  rw [show recvN kC [[], [8]] 1 = 8 by decide, show recvC kC [[], [8]] 1 = 0 by decide, show recvS kC [[], [8]] 1 = [[], [8]] by decide]
  change newOk _ _ [(10, .box [.fsl 6 (kC.map encC), .msl 11]), (11, .mat 1 (encHas [[], [8]]))] = true ∧ _
  refine ⟨rfl, ?_⟩
  change WpOpsG _ _ ((48, _) :: _) ([(10, .box [.fsl 6 (kC.map encC), .msl 11]), (11, .mat 1 (encHas [[], [8]]))] ++ _) _
  refine G.mv rfl ?_
  refine G.ext rfl rfl ?_
  refine G.ext rfl rfl ?_
  refine G.mv rfl ?_
  refine G.mv rfl ?_
  refine WpOpsG.nil ?_
  change WpG _ _ _ _ _
  refine WpG.seq ?_
  refine WpG.reg ?_
  refine G.mv rfl ?_
  refine G.call (P := [(10, .box [.fsl 6 (kC.map encC), .msl 11]), (11, .mat 1 (encHas [[], [8]]))]) rfl (by repeat (first | exact trivial | refine ⟨rfl, ?_⟩)) rfl rfl ((recv_ok kC [[], [8]] 9 (by decide) (by decide) (by unfold smallS; decide)).ren [(1, 10), (2, 11)]) ?_
  rintro _ _ ⟨_, _, ⟨rfl, rfl⟩, rfl, rfl⟩
  rw [show recvN kC [[], [8]] 9 = 0 by decide, show recvC kC [[], [8]] 9 = 2 by decide, show recvS kC [[], [8]] 9 = [[], [8]] by decide]
  change newOk _ _ [(10, .box [.fsl 6 (kC.map encC), .msl 11]), (11, .mat 1 (encHas [[], [8]]))] = true ∧ _
  refine ⟨rfl, ?_⟩
  change WpOpsG _ _ ((53, _) :: _) ([(10, .box [.fsl 6 (kC.map encC), .msl 11]), (11, .mat 1 (encHas [[], [8]]))] ++ _) _
  refine G.mv rfl ?_
  refine G.ext rfl rfl ?_
  refine G.ext rfl rfl ?_
  refine G.mv rfl ?_
  refine G.mv rfl ?_
  refine WpOpsG.nil ?_
  change WpG _ _ _ _ _
  refine WpG.seq ?_
  refine WpG.reg ?_
  refine G.mv rfl ?_
  refine G.bin rfl rfl rfl ?_
  refine G.mv rfl ?_
  refine WpOpsG.known 58 true rfl rfl ?_
  refine G.mv rfl ?_
  refine G.bin rfl rfl rfl ?_
  first | refine G.pickT rfl rfl ?_ | refine G.pickF rfl rfl ?_ | refine G.pick rfl rfl rfl ?_
  refine G.mv rfl ?_
  refine WpOpsG.known 62 true rfl rfl ?_
  refine G.mv rfl ?_
  refine G.bin rfl rfl rfl ?_
  first | refine G.pickT rfl rfl ?_ | refine G.pickF rfl rfl ?_ | refine G.pick rfl rfl rfl ?_
  refine G.mv rfl ?_
  refine WpOpsG.known 66 true rfl rfl ?_
  refine G.mv rfl ?_
  refine G.bin rfl rfl rfl ?_
  first | refine G.pickT rfl rfl ?_ | refine G.pickF rfl rfl ?_ | refine G.pick rfl rfl rfl ?_
  refine G.mv rfl ?_
  refine WpOpsG.known 70 true rfl rfl ?_
  refine G.mv rfl ?_
  refine G.bin rfl rfl rfl ?_
  first | refine G.pickT rfl rfl ?_ | refine G.pickF rfl rfl ?_ | refine G.pick rfl rfl rfl ?_
  refine G.mv rfl ?_
  refine WpOpsG.known 74 true rfl rfl ?_
  refine G.mv rfl ?_
  refine G.bin rfl rfl rfl ?_
  first | refine G.pickT rfl rfl ?_ | refine G.pickF rfl rfl ?_ | refine G.pick rfl rfl rfl ?_
  refine G.mv rfl ?_
  refine WpOpsG.known 78 true rfl rfl ?_
  refine G.mv rfl ?_
  refine G.bin rfl rfl rfl ?_
  first | refine G.pickT rfl rfl ?_ | refine G.pickF rfl rfl ?_ | refine G.pick rfl rfl rfl ?_
  refine G.mv rfl ?_
  refine WpOpsG.known 82 true rfl rfl ?_
  refine G.mv rfl ?_
  refine G.bin rfl rfl rfl ?_
  first | refine G.pickT rfl rfl ?_ | refine G.pickF rfl rfl ?_ | refine G.pick rfl rfl rfl ?_
  refine G.mv rfl ?_
  refine WpOpsG.known 86 true rfl rfl ?_
  refine G.mv rfl ?_
  refine G.bin rfl rfl rfl ?_
  first | refine G.pickT rfl rfl ?_ | refine G.pickF rfl rfl ?_ | refine G.pick rfl rfl rfl ?_
  refine G.mv rfl ?_
  refine WpOpsG.known 90 true rfl rfl ?_
  refine G.mv rfl ?_
  refine G.bin rfl rfl rfl ?_
  first | refine G.pickT rfl rfl ?_ | refine G.pickF rfl rfl ?_ | refine G.pick rfl rfl rfl ?_
  refine G.mv rfl ?_
  refine WpOpsG.known 94 true rfl rfl ?_
  refine G.mv rfl ?_
  refine G.bin rfl rfl rfl ?_
  first | refine G.pickT rfl rfl ?_ | refine G.pickF rfl rfl ?_ | refine G.pick rfl rfl rfl ?_
  refine G.mv rfl ?_
  refine WpOpsG.known 98 true rfl rfl ?_
  refine G.mv rfl ?_
  refine G.call (P := [(10, .box [.fsl 6 (kC.map encC), .msl 11]), (11, .mat 1 (encHas [[], [8]]))]) rfl (by repeat (first | exact trivial | refine ⟨rfl, ?_⟩)) rfl rfl ((send_ok kC [[], [8]] (-1) 0 (by decide) (by decide) (by unfold smallS; decide)).ren [(1, 10), (2, 11)]) ?_
  rintro _ _ ⟨_, _, ⟨rfl, rfl⟩, rfl, rfl⟩
  rw [show sendC kC [[], [8]] (-1) 0 = 3 by decide, show sendS kC [[], [8]] (-1) 0 = [[], [8]] by decide]
  change newOk _ _ [(10, .box [.fsl 6 (kC.map encC), .msl 11]), (11, .mat 1 (encHas [[], [8]]))] = true ∧ _
  refine ⟨rfl, ?_⟩
  change WpOpsG _ _ ((100, _) :: _) ([(10, .box [.fsl 6 (kC.map encC), .msl 11]), (11, .mat 1 (encHas [[], [8]]))] ++ _) _
  refine G.bin rfl rfl rfl ?_
  first | refine G.pickT rfl rfl ?_ | refine G.pickF rfl rfl ?_ | refine G.pick rfl rfl rfl ?_
  refine G.mv rfl ?_
  refine WpOpsG.known 103 true rfl rfl ?_
  refine G.mv rfl ?_
  refine G.lend rfl rfl ((held_ok kC [[], [8]] 0 (by decide) (by decide) (by unfold smallS; decide)).ren [(0, 20)]) ?_
  rintro _ _ ⟨_, _, ⟨rfl, rfl⟩, rfl, rfl⟩
  change _ ∧ flatH [(20, _)] ∧ newOk _ _ [(20, _)] = true ∧ _
  rw [show heldV kC [[], [8]] 0 = [] by decide]
  refine ⟨rfl, ⟨fun c h => (by cases h), trivial⟩, rfl, ?_⟩
  change WpOpsG _ _ ((105, .osl 20) :: _) ([(20, .arr .yes 1 [])] ++ _) _
  first | refine G.lenM rfl ?_ | refine G.lenOM rfl rfl ?_ | refine G.lenF rfl ?_ | refine G.lenO rfl rfl ?_ | refine G.lenNil rfl ?_
  refine G.bin rfl rfl rfl ?_
  first | refine G.pickT rfl rfl ?_ | refine G.pickF rfl rfl ?_ | refine G.pick rfl rfl rfl ?_
  refine G.mv rfl ?_
  refine WpOpsG.known 109 true rfl rfl ?_
  refine G.mv rfl ?_
  refine G.mv rfl ?_
  refine G.call (P := [(10, .box [.fsl 6 (kC.map encC), .msl 11]), (11, .mat 1 (encHas [[], [8]]))]) rfl (by repeat (first | exact trivial | refine ⟨rfl, ?_⟩)) rfl rfl ((copy_ok kC [[], [8]] (by decide) (by decide) (by unfold smallS; decide)).ren [(1, 10), (2, 11), (0, 14), (3, 15)]) ?_
  rintro _ _ ⟨_, _, ⟨rfl, rfl⟩, rfl, rfl⟩
  change newOk _ _ [(14, _), (15, _), (10, _), (11, _)] = true ∧ _
  refine ⟨rfl, ?_⟩
  change WpOpsG _ _ ((112, .bptr 14 0) :: _) ([(14, .box [.fsl 6 (kC.map encC), .msl 15]), (15, .mat 1 (encHas [[], [8]])), (10, .box [.fsl 6 (kC.map encC), .msl 11]), (11, .mat 1 (encHas [[], [8]]))] ++ _) _
  refine G.lend rfl rfl (psame_ok kC kC [[], [8]] [[], [8]] (by decide) (by decide) (by unfold smallS; decide) (by unfold smallS; decide)) ?_
  rintro _ _ ⟨rfl, rfl⟩
  refine ⟨rfl, trivial, rfl, ?_⟩
  change WpOpsG _ _ ((113, _) :: _) _ _
  rw [decide_eq_true rfl]
  first | refine G.pickT rfl rfl ?_ | refine G.pickF rfl rfl ?_ | refine G.pick rfl rfl rfl ?_
  refine G.mv rfl ?_
  refine WpOpsG.known 115 true rfl rfl ?_
  refine G.mv rfl ?_
  refine G.lend rfl rfl (psameN_ok (.fptr [.fsl 6 (kC.map encC), .fsl 1 ((encHas [[], [8]]).map (fzRow 1))] 0)) ?_
  rintro _ _ ⟨rfl, rfl⟩
  refine ⟨rfl, trivial, rfl, ?_⟩
  change WpOpsG _ _ ((117, _) :: _) _ _
  refine G.un rfl rfl ?_
  first | refine G.pickT rfl rfl ?_ | refine G.pickF rfl rfl ?_ | refine G.pick rfl rfl rfl ?_
  refine G.mv rfl ?_
  refine WpOpsG.nil ?_
  change WpG _ _ _ _ _
  refine WpG.ret ?_
  refine ⟨_, [], rfl, (hasP_le (by repeat (first | exact trivial | refine ⟨rfl, ?_⟩))), rfl, rfl, rfl, ?_⟩
  exact ⟨rfl, rfl⟩
theorem portPlays_ok (C : List Ch) (l : List Askd) (hC : C.length ≤ 2 ^ 50) (hl : l.length * 24 ≤ 2 ^ 47) (hok : ∀ c ∈ C, okC c) (hal : ∀ a ∈ l, okA a) : WpCallG A 4 [.fsl 6 (C.map encC), .fsl 3 (l.map encA)] [] (fun v H => v = .v (.bool true) ∧ H = []) := by
  refine WpCallG.intro g4 rfl rfl ?_
  unfold af4
  change WpG _ _ _ _ _
  refine WpG.seq ?_
  refine WpG.reg ?_
  refine G.mv rfl ?_
  refine WpOpsG.nil ?_
  change WpG _ _ _ _ _
  refine WpG.seq ?_
  refine WpG.reg ?_
  refine G.mv rfl ?_
  refine G.call0 rfl rfl ((few_w C hC hok).ren [(0, 20)]) ?_
  rintro _ _ ⟨_, _, ⟨rfl, rfl⟩, rfl, rfl⟩
  change newOk _ _ [(20, _)] = true ∧ _
  refine ⟨rfl, ?_⟩
  change WpOpsG _ _ ((9, .osl 20) :: _) ([(20, .arr .yes 6 ((fewV C).map encC))] ++ _) _
  obtain ⟨D, hD⟩ : ∃ D, fewV C = D := ⟨_, rfl⟩
  have hDl := few_len C
  rw [hD] at hDl ⊢
  refine WpOpsG.freeze 20 rfl ?_
  refine G.mv rfl ?_
  refine WpOpsG.nil ?_
  change WpG _ _ _ _ _
  refine WpG.seq ?_
  refine WpG.reg ?_
  refine G.mv rfl ?_
  refine WpOpsG.nil ?_
  change WpG _ _ _ _ _
  refine WpG.seq ?_
  refine WpG.seq ?_
  refine WpG.reg ?_
  refine G.mv rfl ?_
  first | refine G.lenM rfl ?_ | refine G.lenOM rfl rfl ?_ | refine G.lenF rfl ?_ | refine G.lenO rfl rfl ?_ | refine G.lenNil rfl ?_
  refine G.mv rfl ?_
  refine WpOpsG.nil ?_
  change WpG _ _ _ _ _
  refine WpG.block ?_
  refine WpG.ownNil (g := 21) (k := 6) (w := 3) rfl rfl ?_
  refine WpG.loop (S := Nat) (fun i => [(1, .fsl 3 (l.map encA)), (5, .fsl 6 (D.map encC)), (6, .osl 21), (11, .v (.int .i64 (l.length : Int))), (12, .v (.int .i64 (i : Int)))]) (fun i => [(21, .arr .yes 3 (((l.take i).map (someA D.length)).map encA))]) (fun i => i ≤ l.length) (fun i => l.length - i) (fun s => ⟨rfl, rfl⟩) ?_ 0 ?_ (by repeat (first | exact trivial | refine ⟨rfl, ?_⟩)) (by repeat (first | exact trivial | refine ⟨rfl, ?_⟩)) rfl
  · intro i hI
    refine WpG.seq ?_
    refine WpG.reg ?_
    refine G.bin rfl rfl rfl ?_
    refine WpOpsG.nil ?_
    change WpG _ _ _ _ _
    refine WpG.seq ?_
    refine WpG.cond rfl (fun hq1 => ?_) (fun hq1 => ?_)
    · (try simp only [decide_eq_true_eq, decide_eq_false_iff_not, Bool.or_eq_true, Bool.and_eq_true, Bool.or_eq_false_iff, Bool.and_eq_false_iff, bne_iff_ne, beq_iff_eq, beq_eq_false_iff_ne, bne_eq_false_iff_eq, ne_eq, Bool.not_eq_true', Bool.not_eq_false', Int.not_lt, Int.not_le, Decidable.not_not, List.length_map, List.length_cons, List.length_nil] at hq1)
      refine WpG.skip ?_
      change WpG _ _ _ _ _
      refine WpG.seq ?_
      refine WpG.block ?_
      refine WpG.seq ?_
      refine WpG.reg ?_
      refine G.mv rfl ?_
      refine G.mv rfl ?_
      refine WpOpsG.nil ?_
      change WpG _ _ _ _ _
      refine WpG.reg ?_
      refine G.mv rfl ?_
      refine G.mv rfl ?_
      refine G.mv rfl ?_
      first | refine G.iaddrN rfl rfl (List.getElem?_eq_getElem (by first | omega | (simp only [List.length_map, List.length_append, List.length_cons, List.length_nil, List.length_replicate, List.length_take, List.length_drop, List.length_set]; omega))) ?_ | refine G.iaddrM rfl rfl (by omega) (List.getElem?_eq_getElem (by first | omega | (simp only [List.length_map, List.length_append, List.length_cons, List.length_nil, List.length_replicate, List.length_take, List.length_drop, List.length_set]; omega))) ?_ | refine G.iaddrF rfl rfl (by omega) rfl ?_ | refine G.iaddrO rfl rfl rfl (by omega) (by first | omega | (simp only [List.length_map, List.length_append, List.length_cons, List.length_nil, List.length_replicate, List.length_take, List.length_drop, List.length_set]; omega)) ?_ | refine G.iaddrF rfl rfl (by omega) (List.getElem?_eq_getElem (by first | omega | (simp only [List.length_map, List.length_append, List.length_cons, List.length_nil, List.length_replicate, List.length_take, List.length_drop, List.length_set]; omega))) ?_
      first | refine G.faddrB rfl ?_ | refine G.faddrF rfl ?_ | refine G.faddrE rfl ?_
      first | refine G.load1B rfl rfl rfl ?_ | refine G.load1F rfl rfl ?_ | refine G.load1E rfl rfl (List.getElem?_eq_getElem (by first | omega | (simp only [List.length_map, List.length_append, List.length_cons, List.length_nil, List.length_replicate, List.length_take, List.length_drop, List.length_set]; omega))) rfl ?_ | refine G.load1EM rfl rfl (List.getElem?_eq_getElem (by first | omega | (simp only [List.length_map, List.length_append, List.length_cons, List.length_nil, List.length_replicate, List.length_take, List.length_drop, List.length_set]; omega))) rfl ?_
      refine G.mv rfl ?_
      refine G.mv rfl ?_
      first | refine G.iaddrN rfl rfl (List.getElem?_eq_getElem (by first | omega | (simp only [List.length_map, List.length_append, List.length_cons, List.length_nil, List.length_replicate, List.length_take, List.length_drop, List.length_set]; omega))) ?_ | refine G.iaddrM rfl rfl (by omega) (List.getElem?_eq_getElem (by first | omega | (simp only [List.length_map, List.length_append, List.length_cons, List.length_nil, List.length_replicate, List.length_take, List.length_drop, List.length_set]; omega))) ?_ | refine G.iaddrF rfl rfl (by omega) rfl ?_ | refine G.iaddrO rfl rfl rfl (by omega) (by first | omega | (simp only [List.length_map, List.length_append, List.length_cons, List.length_nil, List.length_replicate, List.length_take, List.length_drop, List.length_set]; omega)) ?_ | refine G.iaddrF rfl rfl (by omega) (List.getElem?_eq_getElem (by first | omega | (simp only [List.length_map, List.length_append, List.length_cons, List.length_nil, List.length_replicate, List.length_take, List.length_drop, List.length_set]; omega))) ?_
      first | refine G.faddrB rfl ?_ | refine G.faddrF rfl ?_ | refine G.faddrE rfl ?_
      first | refine G.load1B rfl rfl rfl ?_ | refine G.load1F rfl rfl ?_ | refine G.load1E rfl rfl (List.getElem?_eq_getElem (by first | omega | (simp only [List.length_map, List.length_append, List.length_cons, List.length_nil, List.length_replicate, List.length_take, List.length_drop, List.length_set]; omega))) rfl ?_ | refine G.load1EM rfl rfl (List.getElem?_eq_getElem (by first | omega | (simp only [List.length_map, List.length_append, List.length_cons, List.length_nil, List.length_replicate, List.length_take, List.length_drop, List.length_set]; omega))) rfl ?_
      refine G.mv rfl ?_
      refine G.mv rfl ?_
      first | refine G.iaddrN rfl rfl (List.getElem?_eq_getElem (by first | omega | (simp only [List.length_map, List.length_append, List.length_cons, List.length_nil, List.length_replicate, List.length_take, List.length_drop, List.length_set]; omega))) ?_ | refine G.iaddrM rfl rfl (by omega) (List.getElem?_eq_getElem (by first | omega | (simp only [List.length_map, List.length_append, List.length_cons, List.length_nil, List.length_replicate, List.length_take, List.length_drop, List.length_set]; omega))) ?_ | refine G.iaddrF rfl rfl (by omega) rfl ?_ | refine G.iaddrO rfl rfl rfl (by omega) (by first | omega | (simp only [List.length_map, List.length_append, List.length_cons, List.length_nil, List.length_replicate, List.length_take, List.length_drop, List.length_set]; omega)) ?_ | refine G.iaddrF rfl rfl (by omega) (List.getElem?_eq_getElem (by first | omega | (simp only [List.length_map, List.length_append, List.length_cons, List.length_nil, List.length_replicate, List.length_take, List.length_drop, List.length_set]; omega))) ?_
      first | refine G.faddrB rfl ?_ | refine G.faddrF rfl ?_ | refine G.faddrE rfl ?_
      first | refine G.load1B rfl rfl rfl ?_ | refine G.load1F rfl rfl ?_ | refine G.load1E rfl rfl (List.getElem?_eq_getElem (by first | omega | (simp only [List.length_map, List.length_append, List.length_cons, List.length_nil, List.length_replicate, List.length_take, List.length_drop, List.length_set]; omega))) rfl ?_ | refine G.load1EM rfl rfl (List.getElem?_eq_getElem (by first | omega | (simp only [List.length_map, List.length_append, List.length_cons, List.length_nil, List.length_replicate, List.length_take, List.length_drop, List.length_set]; omega))) rfl ?_
      refine G.ckcall0 rfl rfl rfl (within_ok l[i].kind 0 4 (hal _ (List.getElem_mem (by omega))).1 (by decide) (by decide) (by decide)) ?_
      rintro _ _ ⟨rfl, rfl⟩
      refine ⟨rfl, ?_⟩
      change WpOpsG _ _ ((21, _) :: _) _ _
      refine G.mv rfl ?_
      first | refine G.lenM rfl ?_ | refine G.lenOM rfl rfl ?_ | refine G.lenF rfl ?_ | refine G.lenO rfl rfl ?_ | refine G.lenNil rfl ?_
      refine G.ckcall0 rfl rfl rfl (within_ok l[i].i (-1) (D.length : Int) (hal _ (List.getElem_mem (by omega))).2.1 (by decide) (by omega) (by omega)) ?_
      rintro _ _ ⟨rfl, rfl⟩
      refine ⟨rfl, ?_⟩
      change WpOpsG _ _ ((29, _) :: _) _ _
      refine G.andK rfl rfl ?_
      refine G.build rfl ?_
      refine G.bsliceF rfl rfl rfl ?_
      refine G.app rfl rfl rfl rfl trivial (by simp only [List.length_map, List.length_take, List.length_cons, List.length_nil]; omega) ?_
      refine G.mv rfl ?_
      refine WpOpsG.nil ?_
      change WpG _ _ _ _ _
      refine WpG.reg ?_
      first | refine G.addI rfl rfl (by omega) ?_ | refine G.bin rfl rfl rfl ?_
      refine G.mv rfl ?_
      refine WpOpsG.nil ?_
      refine ⟨i + 1, by omega, by omega, ⟨rfl, rfl, rfl, rfl, rfl, trivial⟩, ⟨?_, trivial⟩, rfl⟩
      rw [List.take_succ_eq_append_getElem (by omega), List.map_append, List.map_append]; rfl
    · (try simp only [decide_eq_true_eq, decide_eq_false_iff_not, Bool.or_eq_true, Bool.and_eq_true, Bool.or_eq_false_iff, Bool.and_eq_false_iff, bne_iff_ne, beq_iff_eq, beq_eq_false_iff_ne, bne_eq_false_iff_eq, ne_eq, Bool.not_eq_true', Bool.not_eq_false', Int.not_lt, Int.not_le, Decidable.not_not, List.length_map, List.length_cons, List.length_nil] at hq1)
      refine WpG.exit ?_
      change WpG _ _ _ _ _
      refine WpG.seq ?_
      rw [show l.take i = l from List.take_of_length_le (by omega)]
      refine WpG.freeze 21 rfl ?_
      refine WpG.reg ?_
      refine G.mv rfl ?_
      refine G.mv rfl ?_
      refine G.call0 rfl rfl (play_ok D l (by omega) (by omega)) ?_
      rintro _ _ ⟨rfl, rfl⟩
      refine ⟨rfl, ?_⟩
      change WpOpsG _ _ ((42, _) :: _) _ _
      refine G.mv rfl ?_
      refine WpOpsG.known 43 true rfl rfl ?_
      refine G.mv rfl ?_
      refine G.mv rfl ?_
      refine G.call0 rfl rfl (play_ok D (l.map (someA D.length)) (by omega) (by rw [List.length_map]; omega)) ?_
      rintro _ _ ⟨rfl, rfl⟩
      refine ⟨rfl, ?_⟩
      change WpOpsG _ _ ((46, _) :: _) _ _
      first | refine G.pickT rfl rfl ?_ | refine G.pickF rfl rfl ?_ | refine G.pick rfl rfl rfl ?_
      refine G.mv rfl ?_
      refine WpOpsG.known 48 true rfl rfl ?_
      refine G.call0 rfl rfl (known17_ok) ?_
      rintro _ _ ⟨rfl, rfl⟩
      refine ⟨rfl, ?_⟩
      change WpOpsG _ _ ((49, _) :: _) _ _
      first | refine G.pickT rfl rfl ?_ | refine G.pickF rfl rfl ?_ | refine G.pick rfl rfl rfl ?_
      refine G.mv rfl ?_
      refine WpOpsG.nil ?_
      change WpG _ _ _ _ _
      refine WpG.ret ?_
      refine ⟨_, [], rfl, (hasP_le (by repeat (first | exact trivial | refine ⟨rfl, ?_⟩))), rfl, rfl, rfl, ?_⟩
      exact ⟨rfl, rfl⟩
  · exact Nat.zero_le _
end Go.AM.L17
