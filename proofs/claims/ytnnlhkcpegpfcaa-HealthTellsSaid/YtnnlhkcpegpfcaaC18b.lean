/- Contracts of the functions that the statement reaches. No condition. -/
import Derived.Test.YtnnlhkcpegpfcaaC18a
set_option linter.all false
set_option maxRecDepth 10000
namespace Go.AM.L18
open Go.AM.PL
set_option maxHeartbeats 1000000 in
theorem play18_ok (h0 h1 h2 h3 h4 : Int) (ks ts pr : List Int) (hk : ∀ k ∈ ks, i64 k) (hkl : ks.length ≤ 2 ^ 50) (htl : ts.length ≤ 2 ^ 50) (hpl : pr.length ≤ 2 ^ 50) : WpCallG A 6 [.agg [vI h0, vI h1, vI h2, vI h3, vI h4], .fsl 1 (ks.map encK), .fsl 1 (ts.map encK), .fsl 1 (pr.map encK)] [] (fun v H => v = .v (.bool true) ∧ H = []) := by
 refine WpCallG.intro g6 rfl rfl ?_
 unfold af6
 change WpG _ _ _ _ _
 refine WpG.seq ?_
 refine WpG.reg ?_
 refine G.box (g := 30) rfl rfl rfl ?_
 refine G.mv rfl ?_
 refine WpOpsG.nil ?_
 change WpG _ _ _ _ _
 refine WpG.seq ?_
 refine WpG.reg ?_
 refine G.loadNB rfl rfl rfl ?_
 refine G.call0 rfl rfl ((new18_ok h0 h1 h2 h3 h4).ren [(0, 20), (1, 21)]) ?_
 rintro _ _ ⟨_, _, ⟨rfl, rfl⟩, rfl, rfl⟩
 change newOk _ _ [(20, _), (21, _)] = true ∧ _
 refine ⟨rfl, ?_⟩
 change WpOpsG _ _ ((19, .bptr 20 0) :: _) ([(20, .box [vI h0, vI h1, vI h2, vI h3, vI h4, .osl 21, .v (.bool false)]), (21, .arr .yes 3 (([]).map encF18))] ++ _) _
 refine G.mv rfl ?_
 refine WpOpsG.nil ?_
 change WpG _ _ _ _ _
 refine WpG.seq ?_
 refine WpG.reg ?_
 refine G.mv rfl ?_
 refine WpOpsG.nil ?_
 change WpG _ _ _ _ _
 refine WpG.seq ?_
 refine WpG.reg ?_
 refine G.mv rfl ?_
 refine WpOpsG.nil ?_
 change WpG _ _ _ _ _
 refine WpG.seq ?_
 refine WpG.reg ?_
 refine G.mkmap (g := 24) rfl ?_
 refine G.mv rfl ?_
 refine WpOpsG.nil ?_
 change WpG _ _ _ _ _
 refine WpG.seq ?_
 refine WpG.seq ?_
 refine WpG.reg ?_
 refine G.mv rfl ?_
 refine WpOpsG.nil ?_
 change WpG _ _ _ _ _
 refine WpG.block ?_
 refine WpG.ownNil (g := 22) (k := 10) (w := 3) rfl rfl ?_
 refine WpG.loop (S := Nat × List Flt × Bool × List (Int × Int)) (fun s => [(1, .fsl 1 (ks.map encK)), (2, .fsl 1 (ts.map encK)), (3, .fsl 1 (pr.map encK)), (4, .bptr 30 0), (9, .bptr 20 0), (10, .osl 22), (11, .v (.bool s.2.2.1)), (12, .ifc MAPT (.bptr 24 0)), (13, .v (.int .i64 (s.1 : Int)))]) (fun s => [(20, .box [vI h0, vI h1, vI h2, vI h3, vI h4, .osl 21, .v (.bool s.2.2.1)]), (21, .arr .yes 3 ((s.2.1).map encF18)), (22, .arr .yes 3 ((s.2.1).map encF18)), (24, .box (encM (s.2.2.2))), (30, .box [vI h0, vI h1, vI h2, vI h3, vI h4])]) (fun s => s.1 ≤ 40 ∧ s.2.1.length ≤ s.1 ∧ Cnts s.2.2.2 s.2.1) (fun s => 40 - s.1) (fun s => ⟨rfl, rfl⟩) ?_ (0, [], false, []) ?_ (by repeat (first | exact trivial | refine ⟨rfl, ?_⟩)) (by repeat (first | exact trivial | refine ⟨rfl, ?_⟩)) rfl
 ·rintro ⟨i, l, st, m⟩ ⟨hI, hl, hc⟩
  dsimp only at hI hl hc ⊢
  refine WpG.seq ?_
  refine WpG.seq ?_
  have hl40 : l.length ≤ 40 := by omega
  refine WpG.reg ?_
  refine G.mv rfl ?_
  refine G.mv rfl ?_
  refine G.lenM rfl ?_
  refine G.bin rfl rfl rfl ?_
  refine G.mv rfl ?_
  apply G.andS rfl rfl rfl rfl rfl rfl
  case hB =>
   intro hs1
   (try simp only [zN] at hs1)
   refine G.mv rfl ?_
   refine G.mv rfl ?_
   refine G.lenM rfl ?_
   refine G.bin rfl rfl rfl ?_
   refine WpOpsG.nil ?_
   exact ⟨rfl, (by repeat (first | exact LLe.refl _ | refine LLe.cons rfl ?_)), (by repeat (first | exact HLe.refl _ | refine HLe.cons rfl ?_)), rfl⟩
  refine G.mv rfl ?_
  apply G.andS rfl rfl rfl rfl rfl rfl
  case hB =>
   intro hs2
   (try simp only [zN] at hs2)
   refine G.mv rfl ?_
   refine G.mv rfl ?_
   refine G.lenM rfl ?_
   refine G.bin rfl rfl rfl ?_
   refine WpOpsG.nil ?_
   exact ⟨rfl, (by repeat (first | exact LLe.refl _ | refine LLe.cons rfl ?_)), (by repeat (first | exact HLe.refl _ | refine HLe.cons rfl ?_)), rfl⟩
  refine G.mv rfl ?_
  apply G.andS rfl rfl rfl rfl rfl rfl
  case hB =>
   intro hs3
   (try simp only [zN] at hs3)
   refine G.mv rfl ?_
   refine G.bin rfl rfl rfl ?_
   refine WpOpsG.nil ?_
   exact ⟨rfl, (by repeat (first | exact LLe.refl _ | refine LLe.cons rfl ?_)), (by repeat (first | exact HLe.refl _ | refine HLe.cons rfl ?_)), rfl⟩
  refine WpOpsG.nil ?_
  change WpG _ _ _ _ _
  refine WpG.cond rfl (fun hq4 => ?_) (fun hq4 => ?_)
  ·(try simp only [zN] at hq4)
   refine WpG.skip ?_
   change WpG _ _ _ _ _
   refine WpG.seq ?_
   refine WpG.block ?_
   refine WpG.seq ?_
   refine WpG.seq ?_
   refine WpG.reg ?_
   refine G.mv rfl ?_
   refine G.eqnilB rfl ?_
   refine WpOpsG.nil ?_
   change WpG _ _ _ _ _
   refine WpG.cond rfl (fun hq5 => absurd hq5 (by decide)) (fun hq5 => ?_)
   refine WpG.skip ?_
   change WpG _ _ _ _ _
   refine WpG.seq ?_
   refine WpG.reg ?_
   refine G.mv rfl ?_
   refine G.mv rfl ?_
   refine G.iaddrN rfl rfl (List.getElem?_eq_getElem (by omega)) ?_
   refine G.load1F rfl rfl ?_
   refine G.mv rfl ?_
   refine WpOpsG.nil ?_
   change WpG _ _ _ _ _
   refine WpG.seq ?_
   refine WpG.reg ?_
   refine G.mv rfl ?_
   refine WpOpsG.nil ?_
   change WpG _ _ _ _ _
   refine WpG.seqJ ([(1, .fsl 1 (ks.map encK)), (2, .fsl 1 (ts.map encK)), (3, .fsl 1 (pr.map encK)), (4, .bptr 30 0), (9, .bptr 20 0), (10, .osl 22), (11, .v (.bool st)), (12, .ifc MAPT (.bptr 24 0)), (13, .v (.int .i64 (i : Int))), (14, .v (.int .i64 ks[i])), (15, .v (.int .i64 (act h0 h1 h2 h3 h4 ks[i])))]) ([(20, .box [vI h0, vI h1, vI h2, vI h3, vI h4, .osl 21, .v (.bool st)]), (21, .arr .yes 3 ((l).map encF18)), (22, .arr .yes 3 ((l).map encF18)), (24, .box (encM (m))), (30, .box [vI h0, vI h1, vI h2, vI h3, vI h4])]) ⟨rfl, rfl⟩ ?_ ?_
   ·change WpG _ _ _ _ _
    refine WpG.seq ?_
    refine WpG.reg ?_
    refine G.mv rfl ?_
    refine G.bin rfl rfl rfl ?_
    refine G.mv rfl ?_
    apply G.andS rfl rfl rfl rfl rfl rfl
    case hB =>
     intro hs6
     (try simp only [zN] at hs6)
     refine G.mv rfl ?_
     refine G.bin rfl rfl rfl ?_
     refine WpOpsG.nil ?_
     exact ⟨rfl, (by repeat (first | exact LLe.refl _ | refine LLe.cons rfl ?_)), (by repeat (first | exact HLe.refl _ | refine HLe.cons rfl ?_)), rfl⟩
    refine G.mv rfl ?_
    apply G.andS rfl rfl rfl rfl rfl rfl
    case hB =>
     intro hs7
     (try simp only [zN] at hs7)
     refine G.mv rfl ?_
     refine G.subI rfl rfl (by omega) ?_
     refine G.aaddrB rfl rfl (by omega) (by omega) ?_
     refine G.load1B rfl rfl (hL_at2 h0 h1 h2 h3 h4 (ks[i] - 1) (by omega) (by omega)) ?_
     refine G.bin rfl rfl rfl ?_
     refine G.mv rfl ?_
     apply G.orS rfl rfl rfl rfl rfl rfl
     case hB =>
      intro hs8
      (try simp only [zN] at hs8)
      refine G.mv rfl ?_
      refine G.subI rfl rfl (by omega) ?_
      refine G.aaddrB rfl rfl (by omega) (by omega) ?_
      refine G.load1B rfl rfl (hL_at2 h0 h1 h2 h3 h4 (ks[i] - 1) (by omega) (by omega)) ?_
      refine G.bin rfl rfl rfl ?_
      refine WpOpsG.nil ?_
      exact ⟨rfl, (by repeat (first | exact LLe.refl _ | refine LLe.cons rfl ?_)), (by repeat (first | exact HLe.refl _ | refine HLe.cons rfl ?_)), rfl⟩
     refine WpOpsG.nil ?_
     exact ⟨rfl, (by repeat (first | exact LLe.refl _ | refine LLe.cons rfl ?_)), (by repeat (first | exact HLe.refl _ | refine HLe.cons rfl ?_)), rfl⟩
    refine WpOpsG.nil ?_
    change WpG _ _ _ _ _
    refine WpG.cond rfl (fun hq9 => ?_) (fun hq9 => ?_)
    ·(try simp only [zN] at hq9)
     have hact := act_in (h0 := h0) (h1 := h1) (h2 := h2) (h3 := h3) (h4 := h4) hq9.1 hq9.2
     refine WpG.reg ?_
     refine G.mv rfl ?_
     refine G.subI rfl rfl (by omega) ?_
     refine G.aaddrB rfl rfl (by omega) (by omega) ?_
     refine G.load1B rfl rfl (hL_at2 h0 h1 h2 h3 h4 (ks[i] - 1) (by omega) (by omega)) ?_
     refine G.mv rfl ?_
     refine WpOpsG.nil ?_
     rw [hact]; exact ⟨⟨rfl, rfl, rfl, rfl, rfl, rfl, rfl, rfl, rfl, rfl, rfl, trivial⟩, ⟨rfl, rfl, rfl, rfl, rfl, trivial⟩, rfl⟩
    ·(try simp only [zN] at hq9)
     have hact := act_no (h0 := h0) (h1 := h1) (h2 := h2) (h3 := h3) (h4 := h4) hq9
     refine WpG.skip ?_
     rw [hact]; exact ⟨⟨rfl, rfl, rfl, rfl, rfl, rfl, rfl, rfl, rfl, rfl, rfl, trivial⟩, ⟨rfl, rfl, rfl, rfl, rfl, trivial⟩, rfl⟩
   change WpG _ _ _ _ _
   refine WpG.seqJ ([(1, .fsl 1 (ks.map encK)), (2, .fsl 1 (ts.map encK)), (3, .fsl 1 (pr.map encK)), (4, .bptr 30 0), (9, .bptr 20 0), (10, .osl 22), (11, .v (.bool (bif st then true else (act h0 h1 h2 h3 h4 ks[i]) == 2))), (12, .ifc MAPT (.bptr 24 0)), (13, .v (.int .i64 (i : Int))), (14, .v (.int .i64 ks[i])), (15, .v (.int .i64 (bif st then -1 else (act h0 h1 h2 h3 h4 ks[i]))))]) ([(20, .box [vI h0, vI h1, vI h2, vI h3, vI h4, .osl 21, .v (.bool st)]), (21, .arr .yes 3 ((l).map encF18)), (22, .arr .yes 3 (((tellL st l (⟨ts[i], pr[i], ks[i]⟩ : Flt))).map encF18)), (24, .box (encM ((tellM st m ks[i])))), (30, .box [vI h0, vI h1, vI h2, vI h3, vI h4])]) ⟨rfl, rfl⟩ ?_ ?_
   ·change WpG _ _ _ _ _
    refine WpG.seq ?_
    refine WpG.reg ?_
    refine G.mv rfl ?_
    refine WpOpsG.nil ?_
    change WpG _ _ _ _ _
    refine WpG.cond rfl (fun hq10 => ?_) (fun hq10 => ?_)
    ·(try simp only [zN] at hq10)
     subst hq10
     refine WpG.reg ?_
     refine G.mv rfl ?_
     refine WpOpsG.nil ?_
     exact ⟨⟨rfl, rfl, rfl, rfl, rfl, rfl, rfl, rfl, rfl, rfl, rfl, trivial⟩, ⟨rfl, rfl, rfl, rfl, rfl, trivial⟩, rfl⟩
    ·(try simp only [zN] at hq10)
     subst hq10
     refine WpG.seq ?_
     refine WpG.reg ?_
     refine G.mv rfl ?_
     refine G.mv rfl ?_
     refine G.mv rfl ?_
     refine G.iaddrN rfl rfl (List.getElem?_eq_getElem (by omega)) ?_
     refine G.load1F rfl rfl ?_
     refine G.mv rfl ?_
     refine G.mv rfl ?_
     refine G.iaddrN rfl rfl (List.getElem?_eq_getElem (by omega)) ?_
     refine G.load1F rfl rfl ?_
     refine G.mv rfl ?_
     refine G.build rfl ?_
     refine G.bsliceF rfl rfl rfl ?_
     change WpOpsG _ _ ((85, .fsl 3 (([(⟨ts[i], pr[i], ks[i]⟩ : Flt)] : List Flt).map encF18)) :: _) _ _
     refine G.app rfl rfl rfl rfl trivial (by rw [List.length_map]; show (l.length + 1) * 24 ≤ 2 ^ 47; omega) ?_
     rw [← List.map_append]
     refine G.mv rfl ?_
     refine WpOpsG.nil ?_
     change WpG _ _ _ _ _
     refine WpG.seq ?_
     have hcl := cnt_le ks[i] l
     have hcg := hc ks[i]
     refine WpG.reg ?_
     refine G.mv rfl ?_
     refine G.mv rfl ?_
     refine G.mlook rfl rfl rfl ?_
     refine G.addI rfl rfl (by omega) ?_
     refine G.mup rfl rfl rfl rfl ?_
     refine WpOpsG.nil ?_
     change WpG _ _ _ _ _
     refine WpG.reg ?_
     refine G.mv rfl ?_
     refine G.bin rfl rfl rfl ?_
     refine G.mv rfl ?_
     refine WpOpsG.nil ?_
     exact ⟨⟨rfl, rfl, rfl, rfl, rfl, rfl, rfl, rfl, rfl, rfl, rfl, trivial⟩, ⟨rfl, rfl, rfl, rfl, rfl, trivial⟩, rfl⟩
   change WpG _ _ _ _ _
   refine WpG.seq ?_
   refine WpG.seq ?_
   have hc2 := cnts_tell hc st (⟨ts[i], pr[i], ks[i]⟩ : Flt)
   have hl2 := tellL_len st l (⟨ts[i], pr[i], ks[i]⟩ : Flt)
   refine WpG.reg ?_
   refine G.mv rfl ?_
   refine G.mv rfl ?_
   refine G.mv rfl ?_
   refine G.iaddrN rfl rfl (List.getElem?_eq_getElem (by omega)) ?_
   refine G.load1F rfl rfl ?_
   refine G.mv rfl ?_
   refine G.mv rfl ?_
   refine G.iaddrN rfl rfl (List.getElem?_eq_getElem (by omega)) ?_
   refine G.load1F rfl rfl ?_
   refine G.mv rfl ?_
   refine G.call (P := [(20, .box [vI h0, vI h1, vI h2, vI h3, vI h4, .osl 21, .v (.bool st)]), (21, .arr .yes 3 ((l).map encF18))]) rfl (by repeat (first | exact trivial | refine ⟨rfl, ?_⟩)) rfl rfl ((tell18_ok h0 h1 h2 h3 h4 l st ts[i] pr[i] ks[i] (hk _ (List.getElem_mem (by omega))) (by omega)).ren [(0, 20), (1, 21)]) ?_
   rintro _ _ ⟨_, _, ⟨rfl, rfl⟩, rfl, rfl⟩
   change newOk _ _ [(20, _), (21, _)] = true ∧ _
   refine ⟨rfl, ?_⟩
   change WpOpsG _ _ ((103, _) :: _) ([(20, .box [vI h0, vI h1, vI h2, vI h3, vI h4, .osl 21, .v (.bool (bif st then true else (act h0 h1 h2 h3 h4 ks[i]) == 2))]), (21, .arr .yes 3 (((tellL st l (⟨ts[i], pr[i], ks[i]⟩ : Flt))).map encF18))] ++ _) _
   refine G.mv rfl ?_
   refine G.bin rfl rfl rfl ?_
   rw [bne_self_eq_false]
   refine G.mv rfl ?_
   refine WpOpsG.known 106 false rfl rfl ?_
   refine G.mv rfl ?_
   refine G.lend rfl rfl (stopped18_ok h0 h1 h2 h3 h4 (tellL st l (⟨ts[i], pr[i], ks[i]⟩ : Flt)) (bif st then true else (act h0 h1 h2 h3 h4 ks[i]) == 2)) ?_
   rintro _ _ ⟨rfl, rfl⟩
   refine ⟨rfl, trivial, rfl, ?_⟩
   change WpOpsG _ _ ((108, _) :: _) _ _
   refine G.mv rfl ?_
   refine G.beq rfl rfl rfl ?_
   rw [beq_self_eq_true]
   refine G.pickF rfl rfl ?_
   refine G.mv rfl ?_
   refine WpOpsG.known 112 false rfl rfl ?_
   refine G.mv rfl ?_
   refine G.mv rfl ?_
   refine G.mv rfl ?_
   refine G.mv rfl ?_
   refine G.mlook rfl rfl rfl ?_
   rw [hc2]
   refine G.cklend rfl rfl rfl (count18_ok h0 h1 h2 h3 h4 (tellL st l (⟨ts[i], pr[i], ks[i]⟩ : Flt)) (bif st then true else (act h0 h1 h2 h3 h4 ks[i]) == 2) ks[i] (by omega)) ?_
   rintro _ _ ⟨rfl, rfl⟩
   refine ⟨rfl, trivial, rfl, ?_⟩
   change WpOpsG _ _ ((115, _) :: _) _ _
   refine G.bin rfl rfl rfl ?_
   rw [bne_self_eq_false]
   refine G.pickF rfl rfl ?_
   refine G.mv rfl ?_
   refine WpOpsG.known 121 false rfl rfl ?_
   refine G.mv rfl ?_
   refine G.mv rfl ?_
   refine G.bin rfl rfl rfl ?_
   change WpOpsG _ _ ((124, .v (.int .i64 (IntKind.i64.wrap (ks[i] + 1)))) :: _) _ _
   refine G.mv rfl ?_
   refine G.mv rfl ?_
   refine G.bin rfl rfl rfl ?_
   change WpOpsG _ _ ((128, .v (.int .i64 (IntKind.i64.wrap (ks[i] + 1)))) :: _) _ _
   refine G.mlook rfl rfl rfl ?_
   rw [hc2]
   refine G.cklend rfl rfl rfl (count18_ok h0 h1 h2 h3 h4 (tellL st l (⟨ts[i], pr[i], ks[i]⟩ : Flt)) (bif st then true else (act h0 h1 h2 h3 h4 ks[i]) == 2) (IntKind.i64.wrap (ks[i] + 1)) (by omega)) ?_
   rintro _ _ ⟨rfl, rfl⟩
   refine ⟨rfl, trivial, rfl, ?_⟩
   change WpOpsG _ _ ((125, _) :: _) _ _
   refine G.bin rfl rfl rfl ?_
   rw [bne_self_eq_false]
   refine G.pickF rfl rfl ?_
   refine WpOpsG.nil ?_
   change WpG _ _ _ _ _
   refine WpG.cond rfl (fun hq11 => absurd hq11 (by decide)) (fun hq11 => ?_)
   refine WpG.skip ?_
   change WpG _ _ _ _ _
   refine WpG.seq ?_
   refine WpG.reg ?_
   refine G.mv rfl ?_
   refine G.lend rfl rfl ((all18_ok h0 h1 h2 h3 h4 (tellL st l (⟨ts[i], pr[i], ks[i]⟩ : Flt)) (bif st then true else (act h0 h1 h2 h3 h4 ks[i]) == 2) (by omega)).ren [(0, 26)]) ?_
   rintro _ _ ⟨_, _, ⟨rfl, rfl⟩, rfl, rfl⟩
   change _ ∧ flatH [(26, _)] ∧ newOk _ _ [(26, _)] = true ∧ _
   refine ⟨rfl, ⟨fun c h => (by obtain ⟨x, _, rfl⟩ := List.mem_map.1 h; rfl), trivial⟩, rfl, ?_⟩
   change WpOpsG _ _ ((133, .osl 26) :: _) ([(26, .arr .yes 3 (((tellL st l (⟨ts[i], pr[i], ks[i]⟩ : Flt))).map encF18))] ++ _) _
   refine WpOpsG.freeze 26 rfl ?_
   refine G.mv rfl ?_
   refine WpOpsG.nil ?_
   change WpG _ _ _ _ _
   refine WpG.seq ?_
   refine WpG.seq ?_
   refine WpG.reg ?_
   refine G.mv rfl ?_
   refine G.lenM rfl ?_
   refine G.mv rfl ?_
   refine G.lenOM rfl rfl ?_
   refine G.bin rfl rfl rfl ?_
   rw [bne_self_eq_false]
   refine WpOpsG.nil ?_
   change WpG _ _ _ _ _
   refine WpG.cond rfl (fun hq12 => absurd hq12 (by decide)) (fun hq12 => ?_)
   refine WpG.skip ?_
   change WpG _ _ _ _ _
   refine WpG.seq ?_
   obtain ⟨l2, hl2e⟩ : ∃ z, (tellL st l (⟨ts[i], pr[i], ks[i]⟩ : Flt)) = z := ⟨_, rfl⟩
   obtain ⟨m2, hm2e⟩ : ∃ z, (tellM st m ks[i]) = z := ⟨_, rfl⟩
   obtain ⟨st2, hst2⟩ : ∃ z, (bif st then true else (act h0 h1 h2 h3 h4 ks[i]) == 2) = z := ⟨_, rfl⟩
   rw [hl2e, hm2e, hst2]
   rw [hl2e] at hl2
   have hc3 : Cnts m2 l2 := by rw [← hl2e, ← hm2e]; exact hc2
   refine WpG.reg ?_
   refine G.mv rfl ?_
   refine G.lenM rfl ?_
   refine G.mv rfl ?_
   refine WpOpsG.nil ?_
   change WpG _ _ _ _ _
   refine WpG.block ?_
   refine WpG.loop (S := Nat) (fun j => [(1, .fsl 1 (ks.map encK)), (2, .fsl 1 (ts.map encK)), (3, .fsl 1 (pr.map encK)), (4, .bptr 30 0), (9, .bptr 20 0), (10, .osl 22), (11, .v (.bool st2)), (12, .ifc MAPT (.bptr 24 0)), (13, .v (.int .i64 (i : Int))), (16, .fsl 3 (l2.map encF18)), (140, .v (.int .i64 (l2.length : Int))), (141, .v (.int .i64 (j : Int)))]) (fun _ => [(20, .box [vI h0, vI h1, vI h2, vI h3, vI h4, .osl 21, .v (.bool st2)]), (21, .arr .yes 3 ((l2).map encF18)), (22, .arr .yes 3 ((l2).map encF18)), (24, .box (encM (m2))), (30, .box [vI h0, vI h1, vI h2, vI h3, vI h4])]) (fun j => j ≤ l2.length) (fun j => l2.length - j) (fun s => ⟨rfl, rfl⟩) ?_ 0 ?_ (by repeat (first | exact trivial | refine ⟨rfl, ?_⟩)) (by repeat (first | exact trivial | refine ⟨rfl, ?_⟩)) rfl
   ·intro j hj
    refine WpG.seq ?_
    refine WpG.reg ?_
    refine G.bin rfl rfl rfl ?_
    refine WpOpsG.nil ?_
    change WpG _ _ _ _ _
    refine WpG.seq ?_
    refine WpG.cond rfl (fun hq13 => ?_) (fun hq13 => ?_)
    ·(try simp only [zN] at hq13)
     refine WpG.skip ?_
     change WpG _ _ _ _ _
     refine WpG.seq ?_
     refine WpG.block ?_
     refine WpG.seq ?_
     refine WpG.reg ?_
     refine G.mv rfl ?_
     refine G.mv rfl ?_
     refine WpOpsG.nil ?_
     change WpG _ _ _ _ _
     refine WpG.seq ?_
     refine WpG.reg ?_
     refine G.mv rfl ?_
     refine G.mv rfl ?_
     refine G.iaddrN rfl rfl (gd17 (⟨0, 0, 0⟩ : Flt) (by omega)) ?_
     refine G.loadNF rfl rfl ?_
     refine G.mv rfl ?_
     refine G.mv rfl ?_
     refine G.iaddrO rfl rfl rfl (by omega) (by rw [List.length_map]; omega) ?_
     refine G.loadNEM rfl rfl (gd17 (⟨0, 0, 0⟩ : Flt) (by omega)) rfl ?_
     refine G.beq rfl rfl rfl ?_
     simp only [beq_self_eq_true, Bool.and_true, Bool.and_self]
     refine WpOpsG.nil ?_
     change WpG _ _ _ _ _
     refine WpG.cond rfl (fun hq14 => absurd hq14 (by simp)) (fun hq14 => ?_)
     refine WpG.skip ?_
     change WpG _ _ _ _ _
     refine WpG.reg ?_
     refine G.addI rfl rfl (by omega) ?_
     refine G.mv rfl ?_
     refine WpOpsG.nil ?_
     exact ⟨j + 1, by omega, by omega, ⟨rfl, rfl, rfl, rfl, rfl, rfl, rfl, rfl, rfl, rfl, rfl, rfl, trivial⟩, ⟨rfl, rfl, rfl, rfl, rfl, trivial⟩, rfl⟩
    ·(try simp only [zN] at hq13)
     refine WpG.exit ?_
     change WpG _ _ _ _ _
     refine WpG.reg ?_
     refine G.mv rfl ?_
     refine G.addI rfl rfl (by omega) ?_
     refine G.mv rfl ?_
     refine WpOpsG.nil ?_
     exact ⟨(i + 1, l2, st2, m2), by show 40 - (i + 1) < 40 - i; omega, ⟨by dsimp only; omega, by dsimp only; omega, hc3⟩, ⟨rfl, rfl, rfl, rfl, rfl, rfl, rfl, rfl, rfl, trivial⟩, ⟨rfl, rfl, rfl, rfl, rfl, trivial⟩, rfl⟩
   ·exact Nat.zero_le _
  ·(try simp only [zN] at hq4)
   refine WpG.exit ?_
   change WpG _ _ _ _ _
   refine WpG.seq ?_
   refine WpG.reg ?_
   refine G.mv rfl ?_
   refine G.eqnilB rfl ?_
   refine G.mv rfl ?_
   refine WpOpsG.nil ?_
   change WpG _ _ _ _ _
   refine WpG.ret ?_
   refine ⟨_, [], rfl, (hasP_le (by repeat (first | exact trivial | refine ⟨rfl, ?_⟩))), rfl, rfl, rfl, ?_⟩
   exact ⟨rfl, rfl⟩
 ·exact ⟨by decide, by decide, cnts_nil⟩
end Go.AM.L18
