/- Contracts of the functions that the statement reaches. No condition. -/
import Derived.Test.YtffhonjjccndpaaC6a
set_option linter.all false
set_option maxRecDepth 10000
namespace Go.AM.L6
open Go.AM.PL
theorem again6_ok (a l b : List Rn) (n : Int) (ha : a.length ≤ 100) (hl : l.length ≤ 100) (hb : b.length ≤ 100) (hn : 0 ≤ n ∧ n ≤ 1000) : WpCallG A 8 [.fsl 2 (a.map encN), .fsl 2 (l.map encN), .fsl 2 (b.map encN), .v (.int .i64 n)] [] (fun v H => ∃ m : Nat, againOk a l n m ∧ v = .osl 0 ∧ H = [(0, .arr .yes 2 ((a ++ repR m l ++ b).map encN))]) := by
 refine WpCallG.intro g8 rfl rfl ?_
 unfold af8
 change WpG _ _ _ _ _
 refine WpG.seq ?_
 refine WpG.reg ?_
 refine G.mv rfl ?_
 refine WpOpsG.nil ?_
 change WpG _ _ _ _ _
 refine WpG.seq ?_
 refine WpG.reg ?_
 refine G.bslice (g := 0) rfl rfl rfl rfl ?_
 refine G.mv rfl ?_
 refine G.app (ds := a.map encN) rfl rfl rfl rfl trivial (by rw [List.length_map]; show (0 + a.length) * 16 ≤ 2 ^ 47; omega) ?_
 change WpOpsG _ _ _ ((0, .arr .yes 2 (a.map encN)) :: _) _
 refine G.mv rfl ?_
 refine WpOpsG.nil ?_
 change WpG _ _ _ _ _
 refine WpG.seq ?_
 refine WpG.seq ?_
 refine WpG.reg ?_
 refine G.mv rfl ?_
 refine WpOpsG.nil ?_
 change WpG _ _ _ _ _
 refine WpG.block ?_
 refine WpG.loop (S := Nat) (fun m => [(1, .fsl 2 (l.map encN)), (2, .fsl 2 (b.map encN)), (3, .v (.int .i64 n)), (9, .osl 0), (10, .v (.int .i64 (m : Int)))]) (fun m => [(0, .arr .yes 2 ((a ++ repR m l).map encN))]) (fun m => (m : Int) ≤ n ∧ (m = 0 ∨ a.length + m * l.length < 90)) (fun m => n.toNat - m) (fun s => ⟨rfl, rfl⟩) ?_ 0 ?_ (by repeat (first | exact trivial | refine ⟨rfl, ?_⟩)) ⟨by rw [show repR 0 l = [] from rfl, List.append_nil]; rfl, trivial⟩ rfl
 ·rintro m ⟨hm, hm9⟩
  have hm8 : a.length + m * l.length ≤ 100 := by
   rcases hm9 with rfl | h
   ·rw [Nat.zero_mul]; omega
   ·omega
  refine WpG.seq ?_
  refine WpG.seq ?_
  refine WpG.reg ?_
  refine G.mv rfl ?_
  refine G.mv rfl ?_
  refine G.bin rfl rfl rfl ?_
  refine G.mv rfl ?_
  apply G.andS rfl rfl rfl rfl rfl rfl
  case hB =>
   intro hs1
   (try simp only [zN] at hs1)
   refine G.mv rfl ?_
   refine G.lenOM rfl rfl ?_
   rw [List.length_append, repR_len]
   refine G.mv rfl ?_
   refine G.lenM rfl ?_
   refine G.addI rfl rfl (by omega) ?_
   refine G.bin rfl rfl rfl ?_
   refine WpOpsG.nil ?_
   exact ⟨rfl, (by repeat (first | exact LLe.refl _ | refine LLe.cons rfl ?_)), (by repeat (first | exact HLe.refl _ | refine HLe.cons rfl ?_)), rfl⟩
  refine WpOpsG.nil ?_
  change WpG _ _ _ _ _
  refine WpG.cond rfl (fun hq2 => ?_) (fun hq2 => ?_)
  ·(try simp only [zN] at hq2)
   have hgo := hq2
   refine WpG.skip ?_
   change WpG _ _ _ _ _
   refine WpG.seq ?_
   refine WpG.block ?_
   have hml := hgo.2
   refine WpG.reg ?_
   refine G.mv rfl ?_
   refine G.mv rfl ?_
   refine G.app rfl rfl rfl rfl trivial (by rw [List.length_map, List.length_map, List.length_append, repR_len]; show (a.length + m * l.length + l.length) * 16 ≤ 2 ^ 47; omega) ?_
   rw [← List.map_append]
   refine G.mv rfl ?_
   refine WpOpsG.nil ?_
   change WpG _ _ _ _ _
   refine WpG.reg ?_
   refine G.mv rfl ?_
   refine G.addI rfl rfl (by omega) ?_
   refine G.mv rfl ?_
   refine WpOpsG.nil ?_
   refine ⟨m + 1, by omega, ⟨by omega, .inr ?_⟩, ⟨rfl, rfl, rfl, rfl, rfl, trivial⟩, ⟨?_, trivial⟩, rfl⟩
   ·rw [Nat.add_mul, Nat.one_mul]; omega
   ·rw [List.append_assoc]; rfl
  ·(try simp only [zN] at hq2)
   have hstop := hq2
   refine WpG.exit ?_
   change WpG _ _ _ _ _
   refine WpG.seq ?_
   refine WpG.reg ?_
   refine G.mv rfl ?_
   refine G.mv rfl ?_
   refine G.app rfl rfl rfl rfl trivial (by rw [List.length_map, List.length_map, List.length_append, repR_len]; show (a.length + m * l.length + b.length) * 16 ≤ 2 ^ 47; omega) ?_
   rw [← List.map_append]
   refine G.mv rfl ?_
   refine WpOpsG.nil ?_
   change WpG _ _ _ _ _
   refine WpG.ret ?_
   refine ⟨_, [(0, .arr .yes 2 (((a ++ repR m l) ++ b).map encN))], rfl, (hasP_le (by repeat (first | exact trivial | refine ⟨rfl, ?_⟩))), rfl, rfl, rfl, ?_⟩
   refine ⟨m, ⟨hm, hm9, fun h1 h2 => ?_⟩, rfl, rfl⟩
   rcases Nat.eq_zero_or_pos m with rfl | h
   ·exfalso
    rw [Nat.zero_mul] at hstop
    omega
   ·exact h
 ·exact ⟨hn.1, .inl rfl⟩
theorem leaf6_ok (r : Rn) : WpCallG A 32 [.agg (encN r)] [] (fun v H => v = .agg (encD (leafV r)) ∧ H = []) := by
 refine WpCallG.intro g32 rfl rfl ?_
 unfold af32
 change WpG _ _ _ _ _
 refine WpG.seq ?_
 refine WpG.reg ?_
 refine G.box (g := 10) rfl rfl rfl ?_
 refine G.box (g := 11) rfl rfl rfl ?_
 refine WpOpsG.nil ?_
 change WpG _ _ _ _ _
 refine WpG.seq ?_
 refine WpG.seq ?_
 refine WpG.reg ?_
 refine G.faddrB rfl ?_
 refine G.load1B rfl rfl rfl ?_
 refine G.bin rfl rfl rfl ?_
 refine WpOpsG.nil ?_
 change WpG _ _ _ _ _
 refine WpG.cond rfl (fun hq1 => ?_) (fun hq1 => ?_)
 ·(try simp only [zN] at hq1)
  have hid : leafV r = ⟨2, 0, r.n⟩ := if_pos hq1
  refine WpG.seq ?_
  refine WpG.reg ?_
  refine G.faddrB rfl ?_
  refine G.load1B rfl rfl rfl ?_
  refine G.build rfl ?_
  refine G.storeB rfl rfl rfl rfl rfl rfl ?_
  refine WpOpsG.nil ?_
  change WpG _ _ _ _ _
  refine WpG.ret ?_
  refine ⟨_, [], rfl, (hasP_le (by repeat (first | exact trivial | refine ⟨rfl, ?_⟩))), rfl, rfl, rfl, ?_⟩
  rw [hid]; exact ⟨rfl, rfl⟩
 ·(try simp only [zN] at hq1)
  have hid : leafV r = ⟨1, r.p, r.n⟩ := if_neg hq1
  refine WpG.skip ?_
  change WpG _ _ _ _ _
  refine WpG.seq ?_
  refine WpG.reg ?_
  refine G.faddrB rfl ?_
  refine G.load1B rfl rfl rfl ?_
  refine G.faddrB rfl ?_
  refine G.load1B rfl rfl rfl ?_
  refine G.build rfl ?_
  refine G.storeB rfl rfl rfl rfl rfl rfl ?_
  refine WpOpsG.nil ?_
  change WpG _ _ _ _ _
  refine WpG.ret ?_
  refine ⟨_, [], rfl, (hasP_le (by repeat (first | exact trivial | refine ⟨rfl, ?_⟩))), rfl, rfl, rfl, ?_⟩
  rw [hid]; exact ⟨rfl, rfl⟩
theorem leaves6_ok (l : List Rn) (hn : l.length ≤ 2 ^ 40) : WpCallG A 20 [.fsl 2 (l.map encN)] [] (fun v H => v = .osl 0 ∧ H = [(0, .arr .yes 1 ((leavesV l).map encTb))]) := by
 refine WpCallG.intro g20 rfl rfl ?_
 unfold af20
 change WpG _ _ _ _ _
 refine WpG.seq ?_
 refine WpG.reg ?_
 refine G.mv rfl ?_
 refine WpOpsG.nil ?_
 change WpG _ _ _ _ _
 refine WpG.seq ?_
 refine WpG.reg ?_
 refine G.mv rfl ?_
 refine WpOpsG.nil ?_
 change WpG _ _ _ _ _
 refine WpG.seq ?_
 refine WpG.seq ?_
 refine WpG.reg ?_
 refine G.mv rfl ?_
 refine G.lenM rfl ?_
 refine G.mv rfl ?_
 refine WpOpsG.nil ?_
 change WpG _ _ _ _ _
 refine WpG.block ?_
 refine WpG.ownNil (g := 0) (k := 3) (w := 1) rfl rfl ?_
 refine WpG.loop (S := Nat) (fun i => [(3, .osl 0), (6, .fsl 2 (l.map encN)), (7, .v (.int .i64 (l.length : Int))), (8, .v (.int .i64 ((i : Nat) : Int)))]) (fun i => [(0, .arr .yes 1 ((leavesV (l.take i)).map encTb))]) (fun i => i ≤ l.length) (fun i => l.length - i) (fun s => ⟨rfl, rfl⟩) ?_ 0 ?_ (by repeat (first | exact trivial | refine ⟨rfl, ?_⟩)) (by repeat (first | exact trivial | refine ⟨rfl, ?_⟩)) rfl
 ·intro i hI
  refine WpG.seq ?_
  refine WpG.reg ?_
  refine G.bin rfl rfl rfl ?_
  refine WpOpsG.nil ?_
  change WpG _ _ _ _ _
  refine WpG.seq ?_
  refine WpG.cond rfl (fun hq1 => ?_) (fun hq1 => ?_)
  ·(try simp only [zN] at hq1)
   refine WpG.skip ?_
   change WpG _ _ _ _ _
   refine WpG.seq ?_
   refine WpG.block ?_
   refine WpG.seq ?_
   refine WpG.reg ?_
   refine G.iaddrN rfl rfl (List.getElem?_eq_getElem (by omega)) ?_
   refine G.loadNF rfl rfl ?_
   refine G.box (g := 10) rfl rfl rfl ?_
   refine G.storeB rfl rfl rfl rfl rfl rfl ?_
   refine WpOpsG.nil ?_
   change WpG _ _ _ _ _
   refine WpG.reg ?_
   refine G.mv rfl ?_
   refine G.loadNB rfl rfl rfl ?_
   refine G.call0 rfl rfl (leaf6_ok l[i]) ?_
   rintro _ _ ⟨rfl, rfl⟩
   refine ⟨rfl, ?_⟩
   change WpOpsG _ _ ((14, _) :: _) _ _
   refine G.bsliceF rfl rfl rfl ?_
   change WpOpsG _ _ ((15, .fsl 3 (([leafV l[i]] : List Nd).map encD)) :: _) _ _
   refine G.bsliceF rfl rfl rfl ?_
   change WpOpsG _ _ ((16, .fsl 1 (([[leafV l[i]]] : List (List Nd)).map encTb)) :: _) _ _
   refine G.app rfl rfl rfl rfl trivial (by rw [List.length_map]; unfold leavesV; rw [List.length_map, List.length_take]; show (_ + 1) * 24 ≤ 2 ^ 47; omega) ?_
   rw [← List.map_append]
   refine G.mv rfl ?_
   refine WpOpsG.nil ?_
   change WpG _ _ _ _ _
   refine WpG.reg ?_
   refine G.addI rfl rfl (by omega) ?_
   refine G.mv rfl ?_
   refine WpOpsG.nil ?_
   refine ⟨i + 1, by omega, by omega, ⟨rfl, rfl, rfl, rfl, trivial⟩, ⟨?_, trivial⟩, rfl⟩
   rw [leaves_snoc (by omega)]; rfl
  ·(try simp only [zN] at hq1)
   refine WpG.exit ?_
   change WpG _ _ _ _ _
   refine WpG.seq ?_
   refine WpG.reg ?_
   refine G.mv rfl ?_
   refine G.mv rfl ?_
   refine WpOpsG.nil ?_
   change WpG _ _ _ _ _
   rw [show l.take i = l from List.take_of_length_le (by omega)]
   refine WpG.ret ?_
   refine ⟨_, [(0, .arr .yes 1 ((leavesV l).map encTb))], rfl, (hasP_le (by repeat (first | exact trivial | refine ⟨rfl, ?_⟩))), rfl, rfl, rfl, ?_⟩
   exact ⟨rfl, rfl⟩
 ·exact Nat.zero_le _
theorem joined6_ok (xs : List (List Nd)) (hx : xs.length ≤ 2 ^ 30) (hs : sumL xs ≤ 2 ^ 30) : WpCallG A 23 [.fsl 1 (xs.map encTb)] [] (fun v H => v = .osl 0 ∧ H = [(0, .arr .yes 3 ((joinedV xs).map encD))]) := by
 refine WpCallG.intro g23 rfl rfl ?_
 unfold af23
 change WpG _ _ _ _ _
 refine WpG.seq ?_
 refine WpG.reg ?_
 refine G.mv rfl ?_
 refine WpOpsG.nil ?_
 change WpG _ _ _ _ _
 refine WpG.seq ?_
 refine WpG.reg ?_
 refine G.mv rfl ?_
 refine G.call0 rfl rfl (catD_ok xs (by omega) (by show xs.flatten.length * 24 ≤ 2 ^ 47; rw [PL.flat_len]; omega)) ?_
 rintro _ _ ⟨rfl, rfl⟩
 refine ⟨rfl, ?_⟩
 change WpOpsG _ _ ((5, .osl 0) :: _) ([(0, .arr .yes 3 ((xs.flatten).map encD))] ++ _) _
 refine G.mv rfl ?_
 refine WpOpsG.nil ?_
 change WpG _ _ _ _ _
 refine WpG.seq ?_
 refine WpG.seq ?_
 refine WpG.reg ?_
 refine G.mv rfl ?_
 refine G.lenM rfl ?_
 refine G.bin rfl rfl rfl ?_
 refine WpOpsG.nil ?_
 change WpG _ _ _ _ _
 refine WpG.cond rfl (fun hq1 => ?_) (fun hq1 => ?_)
 ·(try simp only [zN] at hq1)
  have h1 := hq1
  refine WpG.seq ?_
  refine WpG.reg ?_
  refine G.mv rfl ?_
  refine G.mv rfl ?_
  refine WpOpsG.nil ?_
  change WpG _ _ _ _ _
  refine WpG.ret ?_
  refine ⟨_, [(0, .arr .yes 3 (xs.flatten.map encD))], rfl, (hasP_le (by repeat (first | exact trivial | refine ⟨rfl, ?_⟩))), rfl, rfl, rfl, ?_⟩
  have e : joinedV xs = xs.flatten := if_pos (by omega)
  rw [e]; exact ⟨rfl, rfl⟩
 ·(try simp only [zN] at hq1)
  have h1 := hq1
  refine WpG.skip ?_
  change WpG _ _ _ _ _
  refine WpG.seq ?_
  refine WpG.freeze 0 rfl ?_
  refine WpG.reg ?_
  refine G.mv rfl ?_
  refine G.lenM rfl ?_
  refine G.build rfl ?_
  refine G.bsliceF rfl rfl rfl ?_
  change WpOpsG _ _ ((13, .fsl 3 (([⟨3, 0, (xs.length : Int)⟩] : List Nd).map encD)) :: _) _ _
  refine G.mv rfl ?_
  refine G.bsliceF rfl rfl rfl ?_
  change WpOpsG _ _ ((15, .fsl 1 (([[⟨3, 0, (xs.length : Int)⟩], xs.flatten] : List (List Nd)).map encTb)) :: _) _ _
  refine G.call0 rfl rfl (catD_ok [[⟨3, 0, (xs.length : Int)⟩], xs.flatten] (by show 2 ≤ 2 ^ 40; decide) (by show ([[⟨3, 0, (xs.length : Int)⟩], xs.flatten] : List (List Nd)).flatten.length * 24 ≤ 2 ^ 47; simp only [List.flatten_cons, List.flatten_nil, List.length_append, List.length_nil, List.length_singleton, PL.flat_len]; omega)) ?_
  rintro _ _ ⟨rfl, rfl⟩
  refine ⟨rfl, ?_⟩
  change WpOpsG _ _ ((16, .osl 0) :: _) ([(0, .arr .yes 3 (([[⟨3, 0, (xs.length : Int)⟩], xs.flatten].flatten).map encD))] ++ _) _
  refine G.mv rfl ?_
  refine WpOpsG.nil ?_
  change WpG _ _ _ _ _
  refine WpG.ret ?_
  refine ⟨_, [(0, .arr .yes 3 ([[⟨3, 0, (xs.length : Int)⟩], xs.flatten].flatten.map encD))], rfl, (hasP_le (by repeat (first | exact trivial | refine ⟨rfl, ?_⟩))), rfl, rfl, rfl, ?_⟩
  have e : joinedV xs = ⟨3, 0, (xs.length : Int)⟩ :: xs.flatten := if_neg (by omega)
  rw [e]
  refine ⟨rfl, ?_⟩
  simp
theorem part6_ok (p : Int) : WpCallG A 31 [.v (.int .i64 p)] [] (fun v H => v = .v (.bool (partV p)) ∧ H = []) := by
 refine WpCallG.intro g31 rfl rfl ?_
 unfold af31
 change WpG _ _ _ _ _
 refine WpG.seq ?_
 refine WpG.reg ?_
 refine G.mv rfl ?_
 refine WpOpsG.nil ?_
 change WpG _ _ _ _ _
 refine WpG.seq ?_
 refine WpG.reg ?_
 refine G.mv rfl ?_
 refine G.bin rfl rfl rfl ?_
 refine G.mv rfl ?_
 apply G.andS rfl rfl rfl rfl rfl rfl
 case hB =>
  intro hs1
  (try simp only [zN] at hs1)
  refine G.mv rfl ?_
  refine G.bin rfl rfl rfl ?_
  refine WpOpsG.nil ?_
  exact ⟨rfl, (by repeat (first | exact LLe.refl _ | refine LLe.cons rfl ?_)), (by repeat (first | exact HLe.refl _ | refine HLe.cons rfl ?_)), rfl⟩
 refine G.mv rfl ?_
 refine WpOpsG.nil ?_
 change WpG _ _ _ _ _
 refine WpG.ret ?_
 refine ⟨_, [], rfl, (hasP_le (by repeat (first | exact trivial | refine ⟨rfl, ?_⟩))), rfl, rfl, rfl, ?_⟩
 exact ⟨rfl, rfl⟩
theorem uright6_ok (l : List Rn) (hn : l.length ≤ 2 ^ 40) : WpCallG A 19 [.fsl 2 (l.map encN)] [] (fun v H => v = .v (.bool (rightR l)) ∧ H = []) := by
 refine WpCallG.intro g19 rfl rfl ?_
 unfold af19
 change WpG _ _ _ _ _
 refine WpG.seq ?_
 refine WpG.reg ?_
 refine G.mv rfl ?_
 refine WpOpsG.nil ?_
 change WpG _ _ _ _ _
 refine WpG.seq ?_
 refine WpG.reg ?_
 refine G.mv rfl ?_
 refine WpOpsG.nil ?_
 change WpG _ _ _ _ _
 refine WpG.seq ?_
 refine WpG.seq ?_
 refine WpG.reg ?_
 refine G.mv rfl ?_
 refine G.lenM rfl ?_
 refine G.mv rfl ?_
 refine WpOpsG.nil ?_
 change WpG _ _ _ _ _
 refine WpG.block ?_
 refine WpG.loop (S := Nat) (fun i => [(0, .fsl 2 (l.map encN)), (3, .v (.int .i64 (tot (l.take i)))), (6, .fsl 2 (l.map encN)), (7, .v (.int .i64 (l.length : Int))), (8, .v (.int .i64 ((i : Nat) : Int)))]) (fun _ => []) (fun i => i ≤ l.length ∧ ∀ r ∈ l.take i, okR r = true) (fun i => l.length - i) (fun s => ⟨rfl, rfl⟩) ?_ 0 ?_ (by repeat (first | exact trivial | refine ⟨rfl, ?_⟩)) (by repeat (first | exact trivial | refine ⟨rfl, ?_⟩)) rfl
 ·rintro i ⟨hI, hT⟩
  have htb := tot_bnd _ hT
  have htl : (l.take i).length ≤ l.length := by rw [List.length_take]; omega
  refine WpG.seq ?_
  refine WpG.reg ?_
  refine G.bin rfl rfl rfl ?_
  refine WpOpsG.nil ?_
  change WpG _ _ _ _ _
  refine WpG.seq ?_
  refine WpG.cond rfl (fun hq1 => ?_) (fun hq1 => ?_)
  ·(try simp only [zN] at hq1)
   refine WpG.skip ?_
   change WpG _ _ _ _ _
   refine WpG.seq ?_
   refine WpG.block ?_
   refine WpG.seq ?_
   refine WpG.reg ?_
   refine G.iaddrN rfl rfl (List.getElem?_eq_getElem (by omega)) ?_
   refine G.loadNF rfl rfl ?_
   refine G.box (g := 10) rfl rfl rfl ?_
   refine G.storeB rfl rfl rfl rfl rfl rfl ?_
   refine WpOpsG.nil ?_
   change WpG _ _ _ _ _
   refine WpG.seq ?_
   refine WpG.seq ?_
   refine WpG.reg ?_
   refine G.faddrB rfl ?_
   refine G.load1B rfl rfl rfl ?_
   refine G.bin rfl rfl rfl ?_
   refine G.mv rfl ?_
   apply G.orS rfl rfl rfl rfl rfl rfl
   case hB =>
    intro hs2
    (try simp only [zN] at hs2)
    refine G.faddrB rfl ?_
    refine G.load1B rfl rfl rfl ?_
    refine G.bin rfl rfl rfl ?_
    refine WpOpsG.nil ?_
    exact ⟨rfl, (by repeat (first | exact LLe.refl _ | refine LLe.cons rfl ?_)), (by repeat (first | exact HLe.refl _ | refine HLe.cons rfl ?_)), rfl⟩
   refine G.mv rfl ?_
   apply G.orS rfl rfl rfl rfl rfl rfl
   case hB =>
    intro hs3
    (try simp only [zN] at hs3)
    refine G.faddrB rfl ?_
    refine G.load1B rfl rfl rfl ?_
    refine G.call0 rfl rfl (part6_ok l[i].p) ?_
    rintro _ _ ⟨rfl, rfl⟩
    refine ⟨rfl, ?_⟩
    change WpOpsG _ _ ((23, _) :: _) _ _
    refine G.un rfl rfl ?_
    refine WpOpsG.nil ?_
    exact ⟨rfl, (by repeat (first | exact LLe.refl _ | refine LLe.cons rfl ?_)), (by repeat (first | exact HLe.refl _ | refine HLe.cons rfl ?_)), rfl⟩
   refine WpOpsG.nil ?_
   change WpG _ _ _ _ _
   refine WpG.cond rfl (fun hq4 => ?_) (fun hq4 => ?_)
   ·(try simp only [zN] at hq4)
    have hbad := hq4
    refine WpG.seq ?_
    have hno : ¬ okR l[i] = true := fun h => by
     have h1 := okR_n h
     unfold okR at h
     rw [Bool.and_eq_true] at h
     rw [h.2] at hbad
     rcases hbad with (h2 | h2) | h2
     ·omega
     ·omega
     ·cases h2
    refine WpG.reg ?_
    refine G.mv rfl ?_
    refine WpOpsG.nil ?_
    change WpG _ _ _ _ _
    refine WpG.ret ?_
    refine ⟨_, [], rfl, (hasP_le (by repeat (first | exact trivial | refine ⟨rfl, ?_⟩))), rfl, rfl, rfl, ?_⟩
    have ha : l.all okR = false := by rw [List.all_eq_false]; exact ⟨l[i], List.getElem_mem (by omega), hno⟩
    unfold rightR
    rw [ha]
    exact ⟨rfl, rfl⟩
   ·(try simp only [zN] at hq4)
    have hgood := hq4
    refine WpG.skip ?_
    change WpG _ _ _ _ _
    have hok : okR l[i] = true := by
     unfold okR
     rw [Bool.and_eq_true, Bool.and_eq_true, decide_eq_true_eq, decide_eq_true_eq]
     exact ⟨⟨by omega, by omega⟩, hgood.2⟩
    have hok1 := okR_n hok
    have hts := List.take_succ_eq_append_getElem (show i < l.length by omega)
    refine WpG.reg ?_
    refine G.mv rfl ?_
    refine G.faddrB rfl ?_
    refine G.load1B rfl rfl rfl ?_
    refine G.addI rfl rfl (by omega) ?_
    refine G.mv rfl ?_
    refine WpOpsG.nil ?_
    change WpG _ _ _ _ _
    refine WpG.reg ?_
    refine G.addI rfl rfl (by omega) ?_
    refine G.mv rfl ?_
    refine WpOpsG.nil ?_
    refine ⟨i + 1, by omega, ⟨by omega, fun r hr => ?_⟩, ⟨rfl, ?_, rfl, rfl, rfl, trivial⟩, trivial, rfl⟩
    ·rw [hts] at hr
     rcases List.mem_append.1 hr with h | h
     ·exact hT r h
     ·rw [List.mem_singleton.1 h]; exact hok
    ·rw [hts, tot_snoc]; rfl
  ·(try simp only [zN] at hq1)
   refine WpG.exit ?_
   change WpG _ _ _ _ _
   refine WpG.seq ?_
   refine WpG.reg ?_
   refine G.mv rfl ?_
   refine G.lenM rfl ?_
   refine G.bin rfl rfl rfl ?_
   refine G.mv rfl ?_
   apply G.andS rfl rfl rfl rfl rfl rfl
   case hB =>
    intro hs5
    (try simp only [zN] at hs5)
    refine G.mv rfl ?_
    refine G.lenM rfl ?_
    refine G.bin rfl rfl rfl ?_
    refine WpOpsG.nil ?_
    exact ⟨rfl, (by repeat (first | exact LLe.refl _ | refine LLe.cons rfl ?_)), (by repeat (first | exact HLe.refl _ | refine HLe.cons rfl ?_)), rfl⟩
   refine G.mv rfl ?_
   apply G.andS rfl rfl rfl rfl rfl rfl
   case hB =>
    intro hs6
    (try simp only [zN] at hs6)
    refine G.mv rfl ?_
    refine G.bin rfl rfl rfl ?_
    refine WpOpsG.nil ?_
    exact ⟨rfl, (by repeat (first | exact LLe.refl _ | refine LLe.cons rfl ?_)), (by repeat (first | exact HLe.refl _ | refine HLe.cons rfl ?_)), rfl⟩
   refine G.mv rfl ?_
   refine WpOpsG.nil ?_
   change WpG _ _ _ _ _
   refine WpG.ret ?_
   refine ⟨_, [], rfl, (hasP_le (by repeat (first | exact trivial | refine ⟨rfl, ?_⟩))), rfl, rfl, rfl, ?_⟩
   have e : l.take i = l := List.take_of_length_le (by omega)
   have ha : l.all okR = true := List.all_eq_true.2 (by rw [e] at hT; exact hT)
   have e1 : decide ((l.length : Int) > 0) = decide (0 < l.length) := decide_eq_decide.2 (by omega)
   have e2 : decide ((l.length : Int) ≤ 96) = decide (l.length ≤ 96) := decide_eq_decide.2 (by omega)
   unfold rightR
   rw [ha, Bool.true_and]
   refine ⟨?_, rfl⟩
   show GV.v (.bool _) = GV.v (.bool _)
   rw [e, e1, e2]
 ·exact ⟨Nat.zero_le _, fun r hr => by simp at hr⟩
theorem plain6_ok (l : List Rn) (hn : l.length ≤ 2 ^ 20) : WpCallG A 12 [.fsl 2 (l.map encN)] [] (fun v H => v = .fsl 3 ((plainV l).map encD) ∧ H = []) := by
 refine WpCallG.intro g12 rfl rfl ?_
 unfold af12
 change WpG _ _ _ _ _
 refine WpG.seq ?_
 refine WpG.reg ?_
 refine G.mv rfl ?_
 refine WpOpsG.nil ?_
 change WpG _ _ _ _ _
 refine WpG.seq ?_
 refine WpG.seq ?_
 refine WpG.reg ?_
 refine G.mv rfl ?_
 refine G.call0 rfl rfl (uright6_ok l (by omega)) ?_
 rintro _ _ ⟨rfl, rfl⟩
 refine ⟨rfl, ?_⟩
 change WpOpsG _ _ ((4, _) :: _) _ _
 refine G.un rfl rfl ?_
 refine WpOpsG.nil ?_
 change WpG _ _ _ _ _
 refine WpG.cond rfl (fun hq1 => ?_) (fun hq1 => ?_)
 ·(try simp only [zN] at hq1)
  have hno := hq1
  refine WpG.seq ?_
  refine WpG.reg ?_
  refine G.mv rfl ?_
  refine WpOpsG.nil ?_
  change WpG _ _ _ _ _
  refine WpG.ownNil (g := 31) (k := 2) (w := 3) rfl rfl ?_
  refine WpG.freeze 31 rfl ?_
  refine WpG.ret ?_
  refine ⟨_, [], rfl, (hasP_le (by repeat (first | exact trivial | refine ⟨rfl, ?_⟩))), rfl, rfl, rfl, ?_⟩
  have e : plainV l = [] := if_neg (by rw [hno]; decide)
  rw [e]; exact ⟨rfl, rfl⟩
 ·(try simp only [zN] at hq1)
  have hyes := hq1
  refine WpG.skip ?_
  change WpG _ _ _ _ _
  refine WpG.seq ?_
  refine WpG.reg ?_
  refine G.mv rfl ?_
  refine G.call0 rfl rfl ((leaves6_ok l (by omega)).ren [(0, 20)]) ?_
  rintro _ _ ⟨_, _, ⟨rfl, rfl⟩, rfl, rfl⟩
  change newOk _ _ [(20, _)] = true ∧ _
  refine ⟨rfl, ?_⟩
  change WpOpsG _ _ ((7, .osl 20) :: _) ([(20, .arr .yes 1 ((leavesV l).map encTb))] ++ _) _
  refine WpOpsG.freeze 20 rfl ?_
  refine G.call0 rfl rfl ((joined6_ok (leavesV l) (by unfold leavesV; rw [List.length_map]; omega) (by rw [leaves_sum]; omega)).ren [(0, 21)]) ?_
  rintro _ _ ⟨_, _, ⟨rfl, rfl⟩, rfl, rfl⟩
  change newOk _ _ [(21, _)] = true ∧ _
  refine ⟨rfl, ?_⟩
  change WpOpsG _ _ ((8, .osl 21) :: _) ([(21, .arr .yes 3 ((joinedV (leavesV l)).map encD))] ++ _) _
  refine WpOpsG.freeze 21 rfl ?_
  refine G.mv rfl ?_
  refine WpOpsG.nil ?_
  change WpG _ _ _ _ _
  refine WpG.ret ?_
  refine ⟨_, [], rfl, (hasP_le (by repeat (first | exact trivial | refine ⟨rfl, ?_⟩))), rfl, rfl, rfl, ?_⟩
  have e : plainV l = joinedV (leavesV l) := if_pos hyes
  rw [e]; exact ⟨rfl, rfl⟩
theorem period6_ok (l : List Rn) (hn : l.length ≤ 2 ^ 40) : WpCallG A 15 [.fsl 2 (l.map encN)] [] (fun v H => v = .v (.int .i64 (perV l : Int)) ∧ H = []) := by
 refine WpCallG.intro g15 rfl rfl ?_
 unfold af15
 change WpG _ _ _ _ _
 refine WpG.seq ?_
 refine WpG.reg ?_
 refine G.mv rfl ?_
 refine WpOpsG.nil ?_
 change WpG _ _ _ _ _
 refine WpG.seq ?_
 refine WpG.seq ?_
 refine WpG.reg ?_
 refine G.mv rfl ?_
 refine WpOpsG.nil ?_
 change WpG _ _ _ _ _
 refine WpG.block ?_
 refine WpG.loop (S := Nat) (fun p => [(0, .fsl 2 (l.map encN)), (3, .v (.int .i64 (p : Int)))]) (fun _ => []) (fun p => 1 ≤ p ∧ p ≤ l.length + 1 ∧ perF l (l.length + 1 - p) p = perV l) (fun p => l.length + 1 - p) (fun s => ⟨rfl, rfl⟩) ?_ 1 ?_ (by repeat (first | exact trivial | refine ⟨rfl, ?_⟩)) (by repeat (first | exact trivial | refine ⟨rfl, ?_⟩)) rfl
 ·rintro p ⟨hp1, hpl, hpv⟩
  refine WpG.seq ?_
  refine WpG.seq ?_
  refine WpG.reg ?_
  refine G.mv rfl ?_
  refine G.mv rfl ?_
  refine G.lenM rfl ?_
  refine G.bin rfl rfl rfl ?_
  refine WpOpsG.nil ?_
  change WpG _ _ _ _ _
  refine WpG.cond rfl (fun hq1 => ?_) (fun hq1 => ?_)
  ·(try simp only [zN] at hq1)
   refine WpG.skip ?_
   change WpG _ _ _ _ _
   refine WpG.seq ?_
   refine WpG.block ?_
   refine WpG.seq ?_
   refine WpG.reg ?_
   refine G.mv rfl ?_
   refine G.lenM rfl ?_
   refine G.mv rfl ?_
   refine G.remN rfl rfl (by omega) (by omega) ?_
   refine G.bin rfl rfl rfl ?_
   refine G.mv rfl ?_
   apply G.andS rfl rfl rfl rfl rfl rfl
   case hB =>
    intro hs2
    (try simp only [zN] at hs2)
    refine G.mv rfl ?_
    refine G.mv rfl ?_
    refine G.slDrop (n := p) rfl rfl (by omega) ?_
    refine G.mv rfl ?_
    refine G.mv rfl ?_
    refine G.lenM rfl ?_
    refine G.mv rfl ?_
    refine G.subI rfl rfl (by omega) ?_
    rw [show (l.length : Int) - (p : Int) = ((l.length - p : Nat) : Int) by omega]
    refine G.slTake (n := l.length - p) rfl rfl (by omega) ?_
    refine G.call0 rfl rfl (equalN_ok (l.drop p) (l.take (l.length - p)) (by rw [List.length_drop]; omega) (by rw [List.length_take]; omega)) ?_
    rintro _ _ ⟨rfl, rfl⟩
    refine ⟨rfl, ?_⟩
    change WpOpsG _ _ ((25, _) :: _) _ _
    refine WpOpsG.nil ?_
    exact ⟨rfl, (by repeat (first | exact LLe.refl _ | refine LLe.cons rfl ?_)), (by repeat (first | exact HLe.refl _ | refine HLe.cons rfl ?_)), rfl⟩
   refine WpOpsG.nil ?_
   change WpG _ _ _ _ _
   refine WpG.cond rfl (fun hq3 => ?_) (fun hq3 => ?_)
   ·(try simp only [zN] at hq3)
    have hyes : perOk l p = true := by
     unfold perOk
     rw [Bool.and_eq_true, decide_eq_true_eq, decide_eq_true_eq]
     exact ⟨by have := hq3.1; omega, hq3.2⟩
    refine WpG.seq ?_
    refine WpG.reg ?_
    refine G.mv rfl ?_
    refine G.mv rfl ?_
    refine WpOpsG.nil ?_
    change WpG _ _ _ _ _
    refine WpG.ret ?_
    refine ⟨_, [], rfl, (hasP_le (by repeat (first | exact trivial | refine ⟨rfl, ?_⟩))), rfl, rfl, rfl, ?_⟩
    rw [show l.length + 1 - p = (l.length - p) + 1 by omega, perF_T (by omega) hyes] at hpv
    rw [← hpv]; exact ⟨rfl, rfl⟩
   ·(try simp only [zN] at hq3)
    have hno : ¬ perOk l p = true := fun h => by
     unfold perOk at h
     rw [Bool.and_eq_true, decide_eq_true_eq, decide_eq_true_eq] at h
     have h3 := hq3
     rcases h3 with h3 | h3
     ·have := h.1; omega
     ·exact h3 h.2
    refine WpG.skip ?_
    change WpG _ _ _ _ _
    refine WpG.reg ?_
    refine G.mv rfl ?_
    refine G.addI rfl rfl (by omega) ?_
    refine G.mv rfl ?_
    refine WpOpsG.nil ?_
    refine ⟨p + 1, by omega, ⟨by omega, by omega, ?_⟩, ⟨rfl, rfl, trivial⟩, trivial, rfl⟩
    rw [← hpv, show l.length + 1 - p = (l.length + 1 - (p + 1)) + 1 by omega, perF_F (by omega) hno]
  ·(try simp only [zN] at hq1)
   refine WpG.exit ?_
   change WpG _ _ _ _ _
   refine WpG.seq ?_
   refine WpG.reg ?_
   refine G.mv rfl ?_
   refine G.lenM rfl ?_
   refine G.mv rfl ?_
   refine WpOpsG.nil ?_
   change WpG _ _ _ _ _
   refine WpG.ret ?_
   refine ⟨_, [], rfl, (hasP_le (by repeat (first | exact trivial | refine ⟨rfl, ?_⟩))), rfl, rfl, rfl, ?_⟩
   rw [perF_no (by omega)] at hpv
   rw [← hpv]; exact ⟨rfl, rfl⟩
 ·exact ⟨Nat.le_refl _, by omega, by rw [Nat.add_sub_cancel]; rfl⟩
end Go.AM.L6
