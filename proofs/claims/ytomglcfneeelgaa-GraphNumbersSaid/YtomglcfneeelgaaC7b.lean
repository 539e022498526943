/- Contracts of the functions that the statement reaches. No condition. -/
import Derived.Test.YtomglcfneeelgaaC7a
set_option linter.all false
set_option maxRecDepth 10000
namespace Go.AM.L7
open Go.AM.PL
theorem gclo_ok (m : List (List Bool)) (hm : m.length ≤ 2 ^ 30) (hm2 : ∀ r ∈ m, r.length ≤ 2 ^ 47) : WpCallG A 12 [.fsl 1 (m.map encBs)] [] (fun v H => v = .fsl 1 ((cloV m).map encBs) ∧ H = []) := by
  refine WpCallG.intro g12 rfl rfl ?_
  unfold af12
  change WpG _ _ _ _ _
  refine WpG.seq ?_
  refine WpG.reg ?_
  refine G.mv rfl ?_
  refine WpOpsG.nil ?_
  change WpG _ _ _ _ _
  refine WpG.seq ?_
  refine WpG.reg ?_
  refine G.mv rfl ?_
  refine WpOpsG.nil ?_
  change WpG _ _ _ _ _
  refine WpG.seq ?_
  refine WpG.seq ?_
  refine WpG.reg ?_
  refine G.mv rfl ?_
  refine G.lenM rfl ?_
  refine G.mv rfl ?_
  refine WpOpsG.nil ?_
  change WpG _ _ _ _ _
  refine WpG.block ?_
  refine WpG.ownNilM (g := 30) (k := 3) 1 rfl rfl ?_
  refine WpG.loop (S := Nat) (fun i => [(0, .fsl 1 (m.map encBs)), (3, .msl 30), (9, .fsl 1 (m.map encBs)), (10, .v (.int .i64 ((m.length : Nat) : Int))), (11, .v (.int .i64 ((i : Nat) : Int)))]) (fun i => [(30, .mat 1 ((m.take i).map fun r => some (r.map encO)))]) (fun i => i ≤ m.length ∧ ∀ k (h : k < m.length), k < i → m[k].length = m.length) (fun i => m.length - i) (fun s => ⟨rfl, rfl⟩) ?_ 0 ?_ (by repeat (first | exact trivial | refine ⟨rfl, ?_⟩)) (by repeat (first | exact trivial | refine ⟨rfl, ?_⟩)) rfl
  · rintro i ⟨hI, hS⟩
    refine WpG.seq ?_
    refine WpG.reg ?_
    refine G.bin rfl rfl rfl ?_
    refine WpOpsG.nil ?_
    change WpG _ _ _ _ _
    refine WpG.seq ?_
    refine WpG.cond rfl (fun hq1 => ?_) (fun hq1 => ?_)
    · (try simp only [zN] at hq1)
      refine WpG.skip ?_
      change WpG _ _ _ _ _
      refine WpG.seq ?_
      refine WpG.block ?_
      refine WpG.seq ?_
      refine WpG.reg ?_
      refine G.iaddrM rfl rfl (by omega) (gd17 [] (by omega)) ?_
      rw [Int.toNat_natCast, show m.getD i [] = m[i] by rw [List.getD_eq_getElem?_getD, List.getElem?_eq_getElem (by omega)]; rfl]
      refine G.load1F rfl rfl ?_
      refine G.mv rfl ?_
      refine WpOpsG.nil ?_
      change WpG _ _ _ _ _
      refine WpG.seq ?_
      refine WpG.seq ?_
      refine WpG.reg ?_
      refine G.mv rfl ?_
      refine G.lenM rfl ?_
      refine G.mv rfl ?_
      refine G.lenM rfl ?_
      refine G.bin rfl rfl rfl ?_
      refine WpOpsG.nil ?_
      change WpG _ _ _ _ _
      refine WpG.cond rfl (fun hq2 => ?_) (fun hq2 => ?_)
      · (try simp only [zN] at hq2)
        refine WpG.seq ?_
        have hno : ¬ sqB m = true := fun c => absurd (sqB_T.1 c m[i] (List.getElem_mem (by omega))) (by omega)
        refine WpG.reg ?_
        refine G.mv rfl ?_
        refine WpOpsG.nil ?_
        change WpG _ _ _ _ _
        refine WpG.ownNil (g := 31) (k := 2) (w := 1) rfl rfl ?_
        refine WpG.freeze 31 rfl ?_
        refine WpG.ret ?_
        refine ⟨_, [], rfl, (hasP_le (by repeat (first | exact trivial | refine ⟨rfl, ?_⟩))), rfl, rfl, rfl, ?_⟩
        have e : cloV m = [] := by unfold cloV; rw [if_neg hno]
        rw [e]; exact ⟨rfl, rfl⟩
      · (try simp only [zN] at hq2)
        refine WpG.skip ?_
        change WpG _ _ _ _ _
        refine WpG.reg ?_
        refine G.mv rfl ?_
        refine G.mv rfl ?_
        refine G.call0 rfl rfl ((cloneO_ok m[i] (by have := hm2 m[i] (List.getElem_mem (by omega)); omega)).ren [(0, 21)]) ?_
        rintro _ _ ⟨_, _, ⟨rfl, rfl⟩, rfl, rfl⟩
        change newOk _ _ [(21, _)] = true ∧ _
        refine ⟨rfl, ?_⟩
        change WpOpsG _ _ ((22, .osl 21) :: _) ([(21, .arr .yes 1 (m[i].map encO))] ++ _) _
        refine G.bsliceMt (gn := 22) rfl rfl rfl ?_
        refine G.appMt (g := 30) (g2 := 22) (w := 1) (rows := ((m.take i).map fun r => some (r.map encO))) (rows2 := [some (m[i].map encO)]) rfl rfl rfl rfl (Nat.succ_pos _) (by rw [List.length_map, List.length_take]; show (min i m.length + 1) * 24 ≤ 2 ^ 47; omega) ?_
        refine G.mv rfl ?_
        refine WpOpsG.nil ?_
        change WpG _ _ _ _ _
        refine WpG.reg ?_
        refine G.addI rfl rfl (by omega) ?_
        refine G.mv rfl ?_
        refine WpOpsG.nil ?_
        refine ⟨i + 1, by omega, ⟨by omega, fun k hk hki => ?_⟩, ⟨rfl, rfl, rfl, rfl, rfl, trivial⟩, ⟨?_, trivial⟩, rfl⟩
        · by_cases c : k = i
          · subst c; omega
          · exact hS k hk (by omega)
        · rw [show (m.take (i + 1)).map (fun r => some (r.map encO)) = ((m.take i).map fun r => some (r.map encO)) ++ [some (m[i].map encO)] by rw [List.take_succ_eq_append_getElem (by omega), List.map_append]; rfl]
          rfl
    · (try simp only [zN] at hq1)
      refine WpG.exit ?_
      change WpG _ _ _ _ _
      refine WpG.seq ?_
      refine WpG.seq ?_
      have hsq : sqB m = true := sqB_T.2 fun r hr => by
        obtain ⟨k, hk, rfl⟩ := List.mem_iff_getElem.1 hr
        exact hS k hk (by omega)
      rw [show ((m.take i).map fun r => some (r.map encO)) = bM m.length (clo (toF m) 0) by
        rw [List.take_of_length_le (by omega)]
        refine List.ext_getElem? fun k => ?_
        rw [List.getElem?_map, bM_at']
        split
        · rename_i hk; rw [List.getElem?_eq_getElem hk]; exact congrArg (some ∘ some) (row_toF hk (hS k hk (by omega)))
        · rename_i hk; rw [List.getElem?_eq_none (by omega)]; rfl]
      refine WpG.reg ?_
      refine G.mv rfl ?_
      refine G.lenBM rfl rfl ?_
      refine G.mv rfl ?_
      refine WpOpsG.nil ?_
      change WpG _ _ _ _ _
      refine WpG.block ?_
      refine WpG.loop (S := Nat) (fun b => [(3, .msl 30), (27, .v (.int .i64 ((m.length : Nat) : Int))), (28, .v (.int .i64 ((b : Nat) : Int)))]) (fun b => [(30, .mat 1 (bM m.length (clo (toF m) b)))]) (fun b => b ≤ m.length) (fun b => m.length - b) (fun s => ⟨rfl, rfl⟩) ?_ 0 ?_ (by repeat (first | exact trivial | refine ⟨rfl, ?_⟩)) (by repeat (first | exact trivial | refine ⟨rfl, ?_⟩)) rfl
      · intro b hb
        refine WpG.seq ?_
        refine WpG.reg ?_
        refine G.bin rfl rfl rfl ?_
        refine WpOpsG.nil ?_
        change WpG _ _ _ _ _
        refine WpG.seq ?_
        refine WpG.cond rfl (fun hq3 => ?_) (fun hq3 => ?_)
        · (try simp only [zN] at hq3)
          refine WpG.skip ?_
          change WpG _ _ _ _ _
          refine WpG.seq ?_
          refine WpG.block ?_
          refine WpG.seq ?_
          refine WpG.reg ?_
          refine G.mv rfl ?_
          refine G.mv rfl ?_
          refine WpOpsG.nil ?_
          change WpG _ _ _ _ _
          refine WpG.seq ?_
          refine WpG.reg ?_
          refine G.mv rfl ?_
          refine G.lenBM rfl rfl ?_
          refine G.mv rfl ?_
          refine WpOpsG.nil ?_
          change WpG _ _ _ _ _
          refine WpG.block ?_
          rw [lex_0 (f := wS b (clo (toF m) b))]
          refine WpG.loop (S := Nat) (fun a => [(3, .msl 30), (6, .v (.int .i64 ((b : Nat) : Int))), (27, .v (.int .i64 ((m.length : Nat) : Int))), (28, .v (.int .i64 ((b : Nat) : Int))), (32, .v (.int .i64 ((m.length : Nat) : Int))), (33, .v (.int .i64 ((a : Nat) : Int)))]) (fun a => [(30, .mat 1 (bM m.length (lexF a 0 (wS b (clo (toF m) b)) (clo (toF m) b))))]) (fun a => a ≤ m.length) (fun a => m.length - a) (fun s => ⟨rfl, rfl⟩) ?_ 0 ?_ (by repeat (first | exact trivial | refine ⟨rfl, ?_⟩)) (by repeat (first | exact trivial | refine ⟨rfl, ?_⟩)) rfl
          · intro a ha
            refine WpG.seq ?_
            refine WpG.reg ?_
            refine G.bin rfl rfl rfl ?_
            refine WpOpsG.nil ?_
            change WpG _ _ _ _ _
            refine WpG.seq ?_
            refine WpG.cond rfl (fun hq4 => ?_) (fun hq4 => ?_)
            · (try simp only [zN] at hq4)
              refine WpG.skip ?_
              change WpG _ _ _ _ _
              refine WpG.seq ?_
              refine WpG.block ?_
              refine WpG.seq ?_
              refine WpG.reg ?_
              refine G.mv rfl ?_
              refine G.mv rfl ?_
              refine WpOpsG.nil ?_
              change WpG _ _ _ _ _
              refine WpG.seq ?_
              refine WpG.reg ?_
              refine G.mv rfl ?_
              refine G.lenBM rfl rfl ?_
              refine G.mv rfl ?_
              refine WpOpsG.nil ?_
              change WpG _ _ _ _ _
              refine WpG.block ?_
              refine WpG.loop (S := Nat) (fun c => [(3, .msl 30), (6, .v (.int .i64 ((b : Nat) : Int))), (7, .v (.int .i64 ((a : Nat) : Int))), (27, .v (.int .i64 ((m.length : Nat) : Int))), (28, .v (.int .i64 ((b : Nat) : Int))), (32, .v (.int .i64 ((m.length : Nat) : Int))), (33, .v (.int .i64 ((a : Nat) : Int))), (37, .v (.int .i64 ((m.length : Nat) : Int))), (38, .v (.int .i64 ((c : Nat) : Int)))]) (fun c => [(30, .mat 1 (bM m.length (lexF a c (wS b (clo (toF m) b)) (clo (toF m) b))))]) (fun c => c ≤ m.length) (fun c => m.length - c) (fun s => ⟨rfl, rfl⟩) ?_ 0 ?_ (by repeat (first | exact trivial | refine ⟨rfl, ?_⟩)) (by repeat (first | exact trivial | refine ⟨rfl, ?_⟩)) rfl
              · intro c hc
                refine WpG.seq ?_
                refine WpG.reg ?_
                refine G.bin rfl rfl rfl ?_
                refine WpOpsG.nil ?_
                change WpG _ _ _ _ _
                refine WpG.seq ?_
                refine WpG.cond rfl (fun hq5 => ?_) (fun hq5 => ?_)
                · (try simp only [zN] at hq5)
                  refine WpG.skip ?_
                  change WpG _ _ _ _ _
                  refine WpG.seq ?_
                  refine WpG.block ?_
                  refine WpG.seq ?_
                  refine WpG.reg ?_
                  refine G.mv rfl ?_
                  refine G.mv rfl ?_
                  refine WpOpsG.nil ?_
                  change WpG _ _ _ _ _
                  refine WpG.reg ?_
                  refine G.mv rfl ?_
                  refine G.mv rfl ?_
                  refine G.iaddrBM rfl rfl rfl (by omega) ?_
                  refine G.load1BM rfl rfl (by omega) ?_
                  refine G.mv rfl ?_
                  refine G.mv rfl ?_
                  refine G.mv rfl ?_
                  refine G.iaddrBM rfl rfl rfl (by omega) ?_
                  refine G.load1BM rfl rfl (by omega) ?_
                  refine G.mv rfl ?_
                  refine G.iaddrBR rfl rfl rfl (by omega) (by omega) ?_
                  refine G.load1BR rfl rfl (by omega) (by omega) ?_
                  refine G.mv rfl ?_
                  apply G.orS rfl rfl rfl rfl rfl rfl
                  case hB =>
                    intro hs6
                    (try simp only [zN] at hs6)
                    refine G.mv rfl ?_
                    refine G.mv rfl ?_
                    refine G.iaddrBM rfl rfl rfl (by omega) ?_
                    refine G.load1BM rfl rfl (by omega) ?_
                    refine G.mv rfl ?_
                    refine G.iaddrBR rfl rfl rfl (by omega) (by omega) ?_
                    refine G.load1BR rfl rfl (by omega) (by omega) ?_
                    refine G.mv rfl ?_
                    apply G.andS rfl rfl rfl rfl rfl rfl
                    case hB =>
                      intro hs7
                      (try simp only [zN] at hs7)
                      refine G.mv rfl ?_
                      refine G.mv rfl ?_
                      refine G.iaddrBM rfl rfl rfl (by omega) ?_
                      refine G.load1BM rfl rfl (by omega) ?_
                      refine G.mv rfl ?_
                      refine G.iaddrBR rfl rfl rfl (by omega) (by omega) ?_
                      refine G.load1BR rfl rfl (by omega) (by omega) ?_
                      refine WpOpsG.nil ?_
                      exact ⟨rfl, (by repeat (first | exact LLe.refl _ | refine LLe.cons rfl ?_)), (by repeat (first | exact HLe.refl _ | refine HLe.cons rfl ?_)), rfl⟩
                    refine WpOpsG.nil ?_
                    exact ⟨rfl, (by repeat (first | exact LLe.refl _ | refine LLe.cons rfl ?_)), (by repeat (first | exact HLe.refl _ | refine HLe.cons rfl ?_)), rfl⟩
                  refine G.iaddrBR rfl rfl rfl (by omega) (by omega) ?_
                  refine G.storeBR rfl rfl rfl (by omega) (by omega) ?_
                  refine WpOpsG.nil ?_
                  change WpG _ _ _ _ _
                  refine WpG.reg ?_
                  refine G.addI rfl rfl (by omega) ?_
                  refine G.mv rfl ?_
                  refine WpOpsG.nil ?_
                  refine ⟨c + 1, by omega, by omega, ⟨rfl, rfl, rfl, rfl, rfl, rfl, rfl, rfl, rfl, trivial⟩, ⟨?_, trivial⟩, rfl⟩
                  rw [lex_step wS_lex]; rfl
                · (try simp only [zN] at hq5)
                  refine WpG.exit ?_
                  change WpG _ _ _ _ _
                  refine WpG.reg ?_
                  refine G.addI rfl rfl (by omega) ?_
                  refine G.mv rfl ?_
                  refine WpOpsG.nil ?_
                  refine ⟨a + 1, by omega, by omega, ⟨rfl, rfl, rfl, rfl, rfl, rfl, trivial⟩, ⟨?_, trivial⟩, rfl⟩
                  rw [show c = m.length by omega, lex_next]; rfl
              · exact Nat.zero_le _
            · (try simp only [zN] at hq4)
              refine WpG.exit ?_
              change WpG _ _ _ _ _
              refine WpG.reg ?_
              refine G.addI rfl rfl (by omega) ?_
              refine G.mv rfl ?_
              refine WpOpsG.nil ?_
              refine ⟨b + 1, by omega, by omega, ⟨rfl, rfl, rfl, trivial⟩, ⟨?_, trivial⟩, rfl⟩
              rw [show a = m.length by omega, lex_n]; rfl
          · exact Nat.zero_le _
        · (try simp only [zN] at hq3)
          refine WpG.exit ?_
          change WpG _ _ _ _ _
          refine WpG.seq ?_
          obtain rfl : b = m.length := by omega
          refine WpG.freezeMt 30 rfl matF_enc ?_
          change WpG _ _ _ _ _
          refine WpG.reg ?_
          refine G.mv rfl ?_
          refine G.mv rfl ?_
          refine WpOpsG.nil ?_
          change WpG _ _ _ _ _
          refine WpG.ret ?_
          refine ⟨_, [], rfl, (hasP_le (by repeat (first | exact trivial | refine ⟨rfl, ?_⟩))), rfl, rfl, rfl, ?_⟩
          have e : cloV m = matF m.length (clo (toF m) m.length) := by unfold cloV; rw [if_pos hsq]
          rw [e]; exact ⟨rfl, rfl⟩
      · exact Nat.zero_le _
  · exact ⟨Nat.zero_le _, fun k _ h => by omega⟩
theorem rclo_ok (m : List (List Bool)) (hm : m.length ≤ 2 ^ 30) (hm2 : ∀ r ∈ m, r.length ≤ 2 ^ 47) : WpCallG A 15 [.fsl 1 (m.map encBs)] [] (fun v H => v = .fsl 1 ((cloV m).map encBs) ∧ H = []) := by
  refine WpCallG.intro g15 rfl rfl ?_
  unfold af15
  change WpG _ _ _ _ _
  refine WpG.seq ?_
  refine WpG.reg ?_
  refine G.mv rfl ?_
  refine WpOpsG.nil ?_
  change WpG _ _ _ _ _
  refine WpG.seq ?_
  refine WpG.reg ?_
  refine G.mv rfl ?_
  refine WpOpsG.nil ?_
  change WpG _ _ _ _ _
  refine WpG.seq ?_
  refine WpG.seq ?_
  refine WpG.reg ?_
  refine G.mv rfl ?_
  refine G.lenM rfl ?_
  refine G.mv rfl ?_
  refine WpOpsG.nil ?_
  change WpG _ _ _ _ _
  refine WpG.block ?_
  refine WpG.ownNilM (g := 30) (k := 3) 1 rfl rfl ?_
  refine WpG.loop (S := Nat) (fun i => [(0, .fsl 1 (m.map encBs)), (3, .msl 30), (9, .fsl 1 (m.map encBs)), (10, .v (.int .i64 ((m.length : Nat) : Int))), (11, .v (.int .i64 ((i : Nat) : Int)))]) (fun i => [(30, .mat 1 ((m.take i).map fun r => some (r.map encO)))]) (fun i => i ≤ m.length ∧ ∀ k (h : k < m.length), k < i → m[k].length = m.length) (fun i => m.length - i) (fun s => ⟨rfl, rfl⟩) ?_ 0 ?_ (by repeat (first | exact trivial | refine ⟨rfl, ?_⟩)) (by repeat (first | exact trivial | refine ⟨rfl, ?_⟩)) rfl
  · rintro i ⟨hI, hS⟩
    refine WpG.seq ?_
    refine WpG.reg ?_
    refine G.bin rfl rfl rfl ?_
    refine WpOpsG.nil ?_
    change WpG _ _ _ _ _
    refine WpG.seq ?_
    refine WpG.cond rfl (fun hq1 => ?_) (fun hq1 => ?_)
    · (try simp only [zN] at hq1)
      refine WpG.skip ?_
      change WpG _ _ _ _ _
      refine WpG.seq ?_
      refine WpG.block ?_
      refine WpG.seq ?_
      refine WpG.reg ?_
      refine G.iaddrM rfl rfl (by omega) (gd17 [] (by omega)) ?_
      rw [Int.toNat_natCast, show m.getD i [] = m[i] by rw [List.getD_eq_getElem?_getD, List.getElem?_eq_getElem (by omega)]; rfl]
      refine G.load1F rfl rfl ?_
      refine G.mv rfl ?_
      refine WpOpsG.nil ?_
      change WpG _ _ _ _ _
      refine WpG.seq ?_
      refine WpG.seq ?_
      refine WpG.reg ?_
      refine G.mv rfl ?_
      refine G.lenM rfl ?_
      refine G.mv rfl ?_
      refine G.lenM rfl ?_
      refine G.bin rfl rfl rfl ?_
      refine WpOpsG.nil ?_
      change WpG _ _ _ _ _
      refine WpG.cond rfl (fun hq2 => ?_) (fun hq2 => ?_)
      · (try simp only [zN] at hq2)
        refine WpG.seq ?_
        have hno : ¬ sqB m = true := fun c => absurd (sqB_T.1 c m[i] (List.getElem_mem (by omega))) (by omega)
        refine WpG.reg ?_
        refine G.mv rfl ?_
        refine WpOpsG.nil ?_
        change WpG _ _ _ _ _
        refine WpG.ownNil (g := 31) (k := 2) (w := 1) rfl rfl ?_
        refine WpG.freeze 31 rfl ?_
        refine WpG.ret ?_
        refine ⟨_, [], rfl, (hasP_le (by repeat (first | exact trivial | refine ⟨rfl, ?_⟩))), rfl, rfl, rfl, ?_⟩
        have e : cloV m = [] := by unfold cloV; rw [if_neg hno]
        rw [e]; exact ⟨rfl, rfl⟩
      · (try simp only [zN] at hq2)
        refine WpG.skip ?_
        change WpG _ _ _ _ _
        refine WpG.reg ?_
        refine G.mv rfl ?_
        refine G.bslice (g := 21) rfl rfl rfl rfl ?_
        refine G.mv rfl ?_
        refine G.app (ds := m[i].map encO) rfl rfl rfl rfl trivial (by rw [List.length_map]; have := hm2 m[i] (List.getElem_mem (by omega)); show (0 + m[i].length) * 1 ≤ 2 ^ 47; omega) ?_
        refine G.bsliceMt (gn := 22) rfl rfl rfl ?_
        refine G.appMt (g := 30) (g2 := 22) (w := 1) (rows := ((m.take i).map fun r => some (r.map encO))) (rows2 := [some (m[i].map encO)]) rfl rfl rfl rfl (Nat.succ_pos _) (by rw [List.length_map, List.length_take]; show (min i m.length + 1) * 24 ≤ 2 ^ 47; omega) ?_
        refine G.mv rfl ?_
        refine WpOpsG.nil ?_
        change WpG _ _ _ _ _
        refine WpG.reg ?_
        refine G.addI rfl rfl (by omega) ?_
        refine G.mv rfl ?_
        refine WpOpsG.nil ?_
        refine ⟨i + 1, by omega, ⟨by omega, fun k hk hki => ?_⟩, ⟨rfl, rfl, rfl, rfl, rfl, trivial⟩, ⟨?_, trivial⟩, rfl⟩
        · by_cases c : k = i
          · subst c; omega
          · exact hS k hk (by omega)
        · rw [show (m.take (i + 1)).map (fun r => some (r.map encO)) = ((m.take i).map fun r => some (r.map encO)) ++ [some (m[i].map encO)] by rw [List.take_succ_eq_append_getElem (by omega), List.map_append]; rfl]
          rfl
    · (try simp only [zN] at hq1)
      refine WpG.exit ?_
      change WpG _ _ _ _ _
      refine WpG.seq ?_
      refine WpG.seq ?_
      have hsq : sqB m = true := sqB_T.2 fun r hr => by
        obtain ⟨k, hk, rfl⟩ := List.mem_iff_getElem.1 hr
        exact hS k hk (by omega)
      rw [show ((m.take i).map fun r => some (r.map encO)) = bM m.length (clo (toF m) 0) by
        rw [List.take_of_length_le (by omega)]
        refine List.ext_getElem? fun k => ?_
        rw [List.getElem?_map, bM_at']
        split
        · rename_i hk; rw [List.getElem?_eq_getElem hk]; exact congrArg (some ∘ some) (row_toF hk (hS k hk (by omega)))
        · rename_i hk; rw [List.getElem?_eq_none (by omega)]; rfl]
      refine WpG.reg ?_
      refine G.mv rfl ?_
      refine G.lenBM rfl rfl ?_
      refine G.mv rfl ?_
      refine WpOpsG.nil ?_
      change WpG _ _ _ _ _
      refine WpG.block ?_
      refine WpG.loop (S := Nat) (fun b => [(3, .msl 30), (28, .v (.int .i64 ((m.length : Nat) : Int))), (29, .v (.int .i64 ((b : Nat) : Int)))]) (fun b => [(30, .mat 1 (bM m.length (clo (toF m) b)))]) (fun b => b ≤ m.length) (fun b => m.length - b) (fun s => ⟨rfl, rfl⟩) ?_ 0 ?_ (by repeat (first | exact trivial | refine ⟨rfl, ?_⟩)) (by repeat (first | exact trivial | refine ⟨rfl, ?_⟩)) rfl
      · intro b hb
        refine WpG.seq ?_
        refine WpG.reg ?_
        refine G.bin rfl rfl rfl ?_
        refine WpOpsG.nil ?_
        change WpG _ _ _ _ _
        refine WpG.seq ?_
        refine WpG.cond rfl (fun hq3 => ?_) (fun hq3 => ?_)
        · (try simp only [zN] at hq3)
          refine WpG.skip ?_
          change WpG _ _ _ _ _
          refine WpG.seq ?_
          refine WpG.block ?_
          refine WpG.seq ?_
          refine WpG.reg ?_
          refine G.mv rfl ?_
          refine G.mv rfl ?_
          refine WpOpsG.nil ?_
          change WpG _ _ _ _ _
          refine WpG.seq ?_
          refine WpG.reg ?_
          refine G.mv rfl ?_
          refine G.lenBM rfl rfl ?_
          refine G.mv rfl ?_
          refine WpOpsG.nil ?_
          change WpG _ _ _ _ _
          refine WpG.block ?_
          rw [lex_0 (f := wS b (clo (toF m) b))]
          refine WpG.loop (S := Nat) (fun a => [(3, .msl 30), (6, .v (.int .i64 ((b : Nat) : Int))), (28, .v (.int .i64 ((m.length : Nat) : Int))), (29, .v (.int .i64 ((b : Nat) : Int))), (33, .v (.int .i64 ((m.length : Nat) : Int))), (34, .v (.int .i64 ((a : Nat) : Int)))]) (fun a => [(30, .mat 1 (bM m.length (lexF a 0 (wS b (clo (toF m) b)) (clo (toF m) b))))]) (fun a => a ≤ m.length) (fun a => m.length - a) (fun s => ⟨rfl, rfl⟩) ?_ 0 ?_ (by repeat (first | exact trivial | refine ⟨rfl, ?_⟩)) (by repeat (first | exact trivial | refine ⟨rfl, ?_⟩)) rfl
          · intro a ha
            refine WpG.seq ?_
            refine WpG.reg ?_
            refine G.bin rfl rfl rfl ?_
            refine WpOpsG.nil ?_
            change WpG _ _ _ _ _
            refine WpG.seq ?_
            refine WpG.cond rfl (fun hq4 => ?_) (fun hq4 => ?_)
            · (try simp only [zN] at hq4)
              refine WpG.skip ?_
              change WpG _ _ _ _ _
              refine WpG.seq ?_
              refine WpG.block ?_
              refine WpG.seq ?_
              refine WpG.reg ?_
              refine G.mv rfl ?_
              refine G.mv rfl ?_
              refine WpOpsG.nil ?_
              change WpG _ _ _ _ _
              refine WpG.seq ?_
              refine WpG.reg ?_
              refine G.mv rfl ?_
              refine G.lenBM rfl rfl ?_
              refine G.mv rfl ?_
              refine WpOpsG.nil ?_
              change WpG _ _ _ _ _
              refine WpG.block ?_
              refine WpG.loop (S := Nat) (fun c => [(3, .msl 30), (6, .v (.int .i64 ((b : Nat) : Int))), (7, .v (.int .i64 ((a : Nat) : Int))), (28, .v (.int .i64 ((m.length : Nat) : Int))), (29, .v (.int .i64 ((b : Nat) : Int))), (33, .v (.int .i64 ((m.length : Nat) : Int))), (34, .v (.int .i64 ((a : Nat) : Int))), (38, .v (.int .i64 ((m.length : Nat) : Int))), (39, .v (.int .i64 ((c : Nat) : Int)))]) (fun c => [(30, .mat 1 (bM m.length (lexF a c (wS b (clo (toF m) b)) (clo (toF m) b))))]) (fun c => c ≤ m.length) (fun c => m.length - c) (fun s => ⟨rfl, rfl⟩) ?_ 0 ?_ (by repeat (first | exact trivial | refine ⟨rfl, ?_⟩)) (by repeat (first | exact trivial | refine ⟨rfl, ?_⟩)) rfl
              · intro c hc
                refine WpG.seq ?_
                refine WpG.reg ?_
                refine G.bin rfl rfl rfl ?_
                refine WpOpsG.nil ?_
                change WpG _ _ _ _ _
                refine WpG.seq ?_
                refine WpG.cond rfl (fun hq5 => ?_) (fun hq5 => ?_)
                · (try simp only [zN] at hq5)
                  refine WpG.skip ?_
                  change WpG _ _ _ _ _
                  refine WpG.seq ?_
                  refine WpG.block ?_
                  refine WpG.seq ?_
                  refine WpG.reg ?_
                  refine G.mv rfl ?_
                  refine G.mv rfl ?_
                  refine WpOpsG.nil ?_
                  change WpG _ _ _ _ _
                  refine WpG.reg ?_
                  refine G.mv rfl ?_
                  refine G.mv rfl ?_
                  refine G.iaddrBM rfl rfl rfl (by omega) ?_
                  refine G.load1BM rfl rfl (by omega) ?_
                  refine G.mv rfl ?_
                  refine G.mv rfl ?_
                  refine G.mv rfl ?_
                  refine G.iaddrBM rfl rfl rfl (by omega) ?_
                  refine G.load1BM rfl rfl (by omega) ?_
                  refine G.mv rfl ?_
                  refine G.iaddrBR rfl rfl rfl (by omega) (by omega) ?_
                  refine G.load1BR rfl rfl (by omega) (by omega) ?_
                  refine G.mv rfl ?_
                  apply G.orS rfl rfl rfl rfl rfl rfl
                  case hB =>
                    intro hs6
                    (try simp only [zN] at hs6)
                    refine G.mv rfl ?_
                    refine G.mv rfl ?_
                    refine G.iaddrBM rfl rfl rfl (by omega) ?_
                    refine G.load1BM rfl rfl (by omega) ?_
                    refine G.mv rfl ?_
                    refine G.iaddrBR rfl rfl rfl (by omega) (by omega) ?_
                    refine G.load1BR rfl rfl (by omega) (by omega) ?_
                    refine G.mv rfl ?_
                    apply G.andS rfl rfl rfl rfl rfl rfl
                    case hB =>
                      intro hs7
                      (try simp only [zN] at hs7)
                      refine G.mv rfl ?_
                      refine G.mv rfl ?_
                      refine G.iaddrBM rfl rfl rfl (by omega) ?_
                      refine G.load1BM rfl rfl (by omega) ?_
                      refine G.mv rfl ?_
                      refine G.iaddrBR rfl rfl rfl (by omega) (by omega) ?_
                      refine G.load1BR rfl rfl (by omega) (by omega) ?_
                      refine WpOpsG.nil ?_
                      exact ⟨rfl, (by repeat (first | exact LLe.refl _ | refine LLe.cons rfl ?_)), (by repeat (first | exact HLe.refl _ | refine HLe.cons rfl ?_)), rfl⟩
                    refine WpOpsG.nil ?_
                    exact ⟨rfl, (by repeat (first | exact LLe.refl _ | refine LLe.cons rfl ?_)), (by repeat (first | exact HLe.refl _ | refine HLe.cons rfl ?_)), rfl⟩
                  refine G.iaddrBR rfl rfl rfl (by omega) (by omega) ?_
                  refine G.storeBR rfl rfl rfl (by omega) (by omega) ?_
                  refine WpOpsG.nil ?_
                  change WpG _ _ _ _ _
                  refine WpG.reg ?_
                  refine G.addI rfl rfl (by omega) ?_
                  refine G.mv rfl ?_
                  refine WpOpsG.nil ?_
                  refine ⟨c + 1, by omega, by omega, ⟨rfl, rfl, rfl, rfl, rfl, rfl, rfl, rfl, rfl, trivial⟩, ⟨?_, trivial⟩, rfl⟩
                  rw [lex_step wS_lex]; rfl
                · (try simp only [zN] at hq5)
                  refine WpG.exit ?_
                  change WpG _ _ _ _ _
                  refine WpG.reg ?_
                  refine G.addI rfl rfl (by omega) ?_
                  refine G.mv rfl ?_
                  refine WpOpsG.nil ?_
                  refine ⟨a + 1, by omega, by omega, ⟨rfl, rfl, rfl, rfl, rfl, rfl, trivial⟩, ⟨?_, trivial⟩, rfl⟩
                  rw [show c = m.length by omega, lex_next]; rfl
              · exact Nat.zero_le _
            · (try simp only [zN] at hq4)
              refine WpG.exit ?_
              change WpG _ _ _ _ _
              refine WpG.reg ?_
              refine G.addI rfl rfl (by omega) ?_
              refine G.mv rfl ?_
              refine WpOpsG.nil ?_
              refine ⟨b + 1, by omega, by omega, ⟨rfl, rfl, rfl, trivial⟩, ⟨?_, trivial⟩, rfl⟩
              rw [show a = m.length by omega, lex_n]; rfl
          · exact Nat.zero_le _
        · (try simp only [zN] at hq3)
          refine WpG.exit ?_
          change WpG _ _ _ _ _
          refine WpG.seq ?_
          obtain rfl : b = m.length := by omega
          refine WpG.freezeMt 30 rfl matF_enc ?_
          change WpG _ _ _ _ _
          refine WpG.reg ?_
          refine G.mv rfl ?_
          refine G.mv rfl ?_
          refine WpOpsG.nil ?_
          change WpG _ _ _ _ _
          refine WpG.ret ?_
          refine ⟨_, [], rfl, (hasP_le (by repeat (first | exact trivial | refine ⟨rfl, ?_⟩))), rfl, rfl, rfl, ?_⟩
          have e : cloV m = matF m.length (clo (toF m) m.length) := by unfold cloV; rw [if_pos hsq]
          rw [e]; exact ⟨rfl, rfl⟩
      · exact Nat.zero_le _
  · exact ⟨Nat.zero_le _, fun k _ h => by omega⟩
end Go.AM.L7
