/- Contracts of the functions that the statement reaches. No condition. -/
import Derived.Test.YthmcocmhalhbfaaK9b
import Derived.Test.YthmcocmhalhbfaaPLo
set_option linter.all false
set_option maxRecDepth 10000
namespace Go.AM.L9
open Go.AM.PL
theorem add_ok (a b : Int) (ha : i64 a) (hb : i64 b) : WpCallG A 36 [.v (.int .i64 a), .v (.int .i64 b)] [] (fun v H => v = .v (.int .i64 (sadd a b)) ∧ H = []) := by
 unfold i64 at ha hb
 refine WpCallG.intro g36 rfl rfl ?_
 unfold af36
 change WpG _ _ _ _ _
 refine WpG.seq ?_
 refine WpG.reg ?_
 refine G.mv rfl ?_
 refine WpOpsG.nil ?_
 change WpG _ _ _ _ _
 refine WpG.seq ?_
 refine WpG.reg ?_
 refine G.mv rfl ?_
 refine G.mx rfl rfl ?_
 refine G.mv rfl ?_
 refine G.mx rfl rfl ?_
 refine G.mv rfl ?_
 refine G.mv rfl ?_
 refine WpOpsG.nil ?_
 change WpG _ _ _ _ _
 refine WpG.seq ?_
 refine WpG.seq ?_
 refine WpG.reg ?_
 refine G.mv rfl ?_
 refine G.mv rfl ?_
 refine G.subI rfl rfl (by omega) ?_
 refine G.bin rfl rfl rfl ?_
 refine WpOpsG.nil ?_
 change WpG _ _ _ _ _
 refine WpG.cond rfl (fun hq1 => ?_) (fun hq1 => ?_)
 ·(try simp only [zN] at hq1)
  refine WpG.seq ?_
  refine WpG.reg ?_
  refine G.mv rfl ?_
  refine WpOpsG.nil ?_
  change WpG _ _ _ _ _
  refine WpG.ret ?_
  refine ⟨_, [], rfl, (hasP_le (by repeat (first | exact trivial | refine ⟨rfl, ?_⟩))), rfl, rfl, rfl, ?_⟩
  have e : sadd a b = 9223372036854775807 := by unfold sadd; rw [if_pos (by omega)]
  rw [e]; exact ⟨rfl, rfl⟩
 ·(try simp only [zN] at hq1)
  refine WpG.skip ?_
  change WpG _ _ _ _ _
  refine WpG.seq ?_
  refine WpG.reg ?_
  refine G.mv rfl ?_
  refine G.mv rfl ?_
  refine G.addI rfl rfl (by omega) ?_
  refine G.mv rfl ?_
  refine WpOpsG.nil ?_
  change WpG _ _ _ _ _
  refine WpG.ret ?_
  refine ⟨_, [], rfl, (hasP_le (by repeat (first | exact trivial | refine ⟨rfl, ?_⟩))), rfl, rfl, rfl, ?_⟩
  have e : sadd a b = max a 0 + max b 0 := by unfold sadd; rw [if_neg (by omega)]
  rw [e]; first | exact ⟨rfl, rfl⟩ | (refine ⟨?_, rfl⟩; show GV.v (.int .i64 _) = GV.v (.int .i64 _); congr 2; omega)
theorem ulen_ok (l : List Rn) (hn : l.length ≤ 2 ^ 50) (hl : ∀ r ∈ l, okN r) : WpCallG A 27 [.fsl 2 (l.map encN)] [] (fun v H => v = .v (.int .i64 (total l)) ∧ H = []) := by
 refine WpCallG.intro g27 rfl rfl ?_
 unfold af27
 change WpG _ _ _ _ _
 refine WpG.seq ?_
 refine WpG.reg ?_
 refine G.mv rfl ?_
 refine WpOpsG.nil ?_
 change WpG _ _ _ _ _
 refine WpG.seq ?_
 refine WpG.reg ?_
 refine G.mv rfl ?_
 refine WpOpsG.nil ?_
 change WpG _ _ _ _ _
 refine WpG.seq ?_
 refine WpG.seq ?_
 refine WpG.reg ?_
 refine G.mv rfl ?_
 refine G.lenM rfl ?_
 refine G.mv rfl ?_
 refine WpOpsG.nil ?_
 change WpG _ _ _ _ _
 refine WpG.block ?_
 refine WpG.loop (S := Nat) (fun i => [(3, .v (.int .i64 (total (l.take i)))), (6, .fsl 2 (l.map encN)), (7, .v (.int .i64 (l.length))), (8, .v (.int .i64 i))]) (fun _ => []) (fun i => i ≤ l.length) (fun i => l.length - i) (fun s => ⟨rfl, rfl⟩) ?_ 0 ?_ (by repeat (first | exact trivial | refine ⟨rfl, ?_⟩)) (by repeat (first | exact trivial | refine ⟨rfl, ?_⟩)) rfl
 ·rintro i hI
  have ht := total_rng (l.take i) (fun r hr => hl r (List.mem_of_mem_take hr))
  refine WpG.seq ?_
  refine WpG.reg ?_
  refine G.bin rfl rfl rfl ?_
  refine WpOpsG.nil ?_
  change WpG _ _ _ _ _
  refine WpG.seq ?_
  refine WpG.cond rfl (fun hq1 => ?_) (fun hq1 => ?_)
  ·(try simp only [zN] at hq1)
   refine WpG.skip ?_
   change WpG _ _ _ _ _
   refine WpG.seq ?_
   refine WpG.block ?_
   refine WpG.seq ?_
   refine WpG.reg ?_
   refine G.iaddrN rfl rfl (List.getElem?_eq_getElem (by omega)) ?_
   refine G.loadNF rfl rfl ?_
   refine G.box (g := 10) rfl rfl rfl ?_
   refine G.storeB rfl rfl rfl rfl rfl rfl ?_
   refine WpOpsG.nil ?_
   change WpG _ _ _ _ _
   refine WpG.reg ?_
   refine G.mv rfl ?_
   refine G.faddrB rfl ?_
   refine G.load1B rfl rfl rfl ?_
   refine G.call0 rfl rfl (add_ok _ _ (by unfold i64; omega) (hl l[i] (List.getElem_mem (by omega))).2) ?_
   rintro _ _ ⟨rfl, rfl⟩
   refine ⟨rfl, ?_⟩
   change WpOpsG _ _ ((15, _) :: _) _ _
   refine G.mv rfl ?_
   refine WpOpsG.nil ?_
   change WpG _ _ _ _ _
   refine WpG.reg ?_
   refine G.addI rfl rfl (by omega) ?_
   refine G.mv rfl ?_
   refine WpOpsG.nil ?_
   refine ⟨i + 1, by omega, by omega, ⟨?_, rfl, rfl, rfl, trivial⟩, (by repeat (first | exact trivial | refine ⟨rfl, ?_⟩)), rfl⟩
   ·unfold total; rw [foldl_take _ _ (by omega : i < l.length)]; rfl
  ·(try simp only [zN] at hq1)
   refine WpG.exit ?_
   change WpG _ _ _ _ _
   refine WpG.seq ?_
   refine WpG.reg ?_
   refine G.mv rfl ?_
   refine G.mv rfl ?_
   refine WpOpsG.nil ?_
   change WpG _ _ _ _ _
   refine WpG.ret ?_
   refine ⟨_, [], rfl, (hasP_le (by repeat (first | exact trivial | refine ⟨rfl, ?_⟩))), rfl, rfl, rfl, ?_⟩
   rw [take_all (by omega)]; exact ⟨rfl, rfl⟩
 ·exact Nat.zero_le _
theorem spans_ok (l : List Rn) (p : Int) (hn : l.length ≤ 2 ^ 40) (hN : ∀ r ∈ l, okN r) (h1 : ∀ r ∈ l, 1 ≤ r.n) (hw : wlen l ≤ 2 ^ 40) : WpCallG A 28 [.fsl 2 (l.map encN), .v (.int .i64 p)] [] (fun v H => v = .osl 0 ∧ H = [(0, .arr .yes 2 ((spV p 0 l).map encSp))]) := by
 refine WpCallG.intro g28 rfl rfl ?_
 unfold af28
 change WpG _ _ _ _ _
 refine WpG.seq ?_
 refine WpG.reg ?_
 refine G.mv rfl ?_
 refine WpOpsG.nil ?_
 change WpG _ _ _ _ _
 refine WpG.seq ?_
 refine WpG.reg ?_
 refine G.mv rfl ?_
 refine WpOpsG.nil ?_
 change WpG _ _ _ _ _
 refine WpG.seq ?_
 refine WpG.reg ?_
 refine G.mv rfl ?_
 refine WpOpsG.nil ?_
 change WpG _ _ _ _ _
 refine WpG.seq ?_
 refine WpG.seq ?_
 refine WpG.reg ?_
 refine G.mv rfl ?_
 refine G.lenM rfl ?_
 refine G.mv rfl ?_
 refine WpOpsG.nil ?_
 change WpG _ _ _ _ _
 refine WpG.block ?_
 refine WpG.ownNil (g := 0) (k := 5) (w := 2) rfl rfl ?_
 refine WpG.loop (S := Nat) (fun i => [(1, .v (.int .i64 p)), (5, .osl 0), (6, .v (.int .i64 (wlen (l.take i)))), (10, .fsl 2 (l.map encN)), (11, .v (.int .i64 (l.length : Int))), (12, .v (.int .i64 (i : Int)))]) (fun i => [(0, .arr .yes 2 ((spV p 0 (l.take i)).map encSp))]) (fun i => i ≤ l.length) (fun i => l.length - i) (fun s => ⟨rfl, rfl⟩) ?_ 0 ?_ (by repeat (first | exact trivial | refine ⟨rfl, ?_⟩)) (by repeat (first | exact trivial | refine ⟨rfl, ?_⟩)) rfl
 ·intro i hI
  refine WpG.seq ?_
  refine WpG.reg ?_
  refine G.bin rfl rfl rfl ?_
  refine WpOpsG.nil ?_
  change WpG _ _ _ _ _
  refine WpG.seq ?_
  refine WpG.cond rfl (fun hq1 => ?_) (fun hq1 => ?_)
  ·(try simp only [zN] at hq1)
   refine WpG.skip ?_
   change WpG _ _ _ _ _
   refine WpG.seq ?_
   refine WpG.block ?_
   refine WpG.seq ?_
   have hlt : i < l.length := by omega
   have hrN := hN l[i] (List.getElem_mem hlt)
   have hr1 := h1 l[i] (List.getElem_mem hlt)
   have hwi := wlen_le (l := l) (i := i)
   have hwi2 := wlen_le (l := l) (i := i + 1)
   have hws := wlen_take (l := l) hlt (by omega)
   refine WpG.reg ?_
   refine G.iaddrN rfl rfl (List.getElem?_eq_getElem (by omega)) ?_
   refine G.loadNF rfl rfl ?_
   refine G.box (g := 10) rfl rfl rfl ?_
   refine G.storeB rfl rfl rfl rfl rfl rfl ?_
   refine WpOpsG.nil ?_
   change WpG _ _ _ _ _
   refine WpG.seq ?_
   refine WpG.reg ?_
   refine G.mv rfl ?_
   refine G.faddrB rfl ?_
   refine G.load1B rfl rfl rfl ?_
   refine G.call0 rfl rfl (add_ok (wlen (l.take i)) l[i].n (by unfold i64; omega) hrN.2) ?_
   rintro _ _ ⟨rfl, rfl⟩
   refine ⟨rfl, ?_⟩
   change WpOpsG _ _ ((19, _) :: _) _ _
   rw [show sadd (wlen (l.take i)) l[i].n = wlen (l.take i) + l[i].n by unfold sadd; rw [if_neg (by omega)]; omega]
   refine G.mv rfl ?_
   refine WpOpsG.nil ?_
   change WpG _ _ _ _ _
   refine WpG.seq ?_
   refine WpG.seq ?_
   refine WpG.reg ?_
   refine G.faddrB rfl ?_
   refine G.load1B rfl rfl rfl ?_
   refine G.mv rfl ?_
   refine G.bin rfl rfl rfl ?_
   refine G.mv rfl ?_
   apply G.andS rfl rfl rfl rfl rfl rfl
   case hB =>
    intro hs2
    (try simp only [zN] at hs2)
    refine G.mv rfl ?_
    refine G.mv rfl ?_
    refine G.bin rfl rfl rfl ?_
    refine WpOpsG.nil ?_
    exact ⟨rfl, (by repeat (first | exact LLe.refl _ | refine LLe.cons rfl ?_)), (by repeat (first | exact HLe.refl _ | refine HLe.cons rfl ?_)), rfl⟩
   refine WpOpsG.nil ?_
   change WpG _ _ _ _ _
   refine WpG.cond rfl (fun hq3 => ?_) (fun hq3 => ?_)
   ·(try simp only [zN] at hq3)
    refine WpG.reg ?_
    refine G.mv rfl ?_
    refine G.mv rfl ?_
    refine G.mv rfl ?_
    refine G.build rfl ?_
    refine G.bsliceF rfl rfl rfl ?_
    refine G.app rfl rfl rfl rfl trivial (by rw [List.length_map]; have := sp_len p (l.take i) 0; rw [List.length_take] at this; show (_ + 1) * 16 ≤ 2 ^ 47; omega) ?_
    refine G.mv rfl ?_
    refine WpOpsG.nil ?_
    change WpG _ _ _ _ _
    refine WpG.reg ?_
    refine G.mv rfl ?_
    refine G.mv rfl ?_
    refine WpOpsG.nil ?_
    change WpG _ _ _ _ _
    refine WpG.reg ?_
    refine G.addI rfl rfl (by omega) ?_
    refine G.mv rfl ?_
    refine WpOpsG.nil ?_
    refine ⟨i + 1, by omega, by omega, ⟨rfl, rfl, ?_, rfl, rfl, rfl, trivial⟩, ⟨?_, trivial⟩, rfl⟩
    ·rw [hws]; rfl
    ·rw [sp_take hlt h1]
     first
      | (rw [if_pos (by omega), List.map_append]; rfl)
      | (rw [if_neg (by omega), List.append_nil]; rfl)
   ·(try simp only [zN] at hq3)
    refine WpG.skip ?_
    change WpG _ _ _ _ _
    refine WpG.reg ?_
    refine G.mv rfl ?_
    refine G.mv rfl ?_
    refine WpOpsG.nil ?_
    change WpG _ _ _ _ _
    refine WpG.reg ?_
    refine G.addI rfl rfl (by omega) ?_
    refine G.mv rfl ?_
    refine WpOpsG.nil ?_
    refine ⟨i + 1, by omega, by omega, ⟨rfl, rfl, ?_, rfl, rfl, rfl, trivial⟩, ⟨?_, trivial⟩, rfl⟩
    ·rw [hws]; rfl
    ·rw [sp_take hlt h1]
     first
      | (rw [if_pos (by omega), List.map_append]; rfl)
      | (rw [if_neg (by omega), List.append_nil]; rfl)
  ·(try simp only [zN] at hq1)
   refine WpG.exit ?_
   change WpG _ _ _ _ _
   refine WpG.seq ?_
   rw [show l.take i = l from take_all (by omega)]
   refine WpG.reg ?_
   refine G.mv rfl ?_
   refine G.mv rfl ?_
   refine WpOpsG.nil ?_
   change WpG _ _ _ _ _
   refine WpG.ret ?_
   refine ⟨_, [(0, .arr .yes 2 ((spV p 0 l).map encSp))], rfl, (hasP_le (by repeat (first | exact trivial | refine ⟨rfl, ?_⟩))), rfl, rfl, rfl, ?_⟩
   exact ⟨rfl, rfl⟩
 ·exact Nat.zero_le _
theorem bnext_ok (b : List Sp) (t len : Int) (hb : b.length ≤ 2 ^ 41) (h0 : 0 < b.length) (hs : ∀ s ∈ b, 0 ≤ s.1 ∧ s.1 < s.2 ∧ s.2 ≤ 2 ^ 40) (ht : -1 ≤ t ∧ t ≤ 2 ^ 40) (hl : 0 ≤ len ∧ len ≤ 2 ^ 40) : WpCallG A 35 [.fsl 2 (b.map encSp), .v (.int .i64 t), .v (.int .i64 len)] [] (fun v H => v = .v (.int .i64 (nextV t len b b)) ∧ H = []) := by
 refine WpCallG.intro g35 rfl rfl ?_
 unfold af35
 change WpG _ _ _ _ _
 refine WpG.seq ?_
 refine WpG.reg ?_
 refine G.mv rfl ?_
 refine WpOpsG.nil ?_
 change WpG _ _ _ _ _
 refine WpG.seq ?_
 refine WpG.seq ?_
 refine WpG.reg ?_
 refine G.mv rfl ?_
 refine G.lenM rfl ?_
 refine G.mv rfl ?_
 refine WpOpsG.nil ?_
 change WpG _ _ _ _ _
 refine WpG.block ?_
 refine WpG.loop (S := Nat) (fun i => [(0, .fsl 2 (b.map encSp)), (1, .v (.int .i64 t)), (2, .v (.int .i64 len)), (9, .fsl 2 (b.map encSp)), (10, .v (.int .i64 (b.length : Int))), (11, .v (.int .i64 (i : Int)))]) (fun _ => []) (fun i => i ≤ b.length ∧ nextV t len b (b.drop i) = nextV t len b b) (fun i => b.length - i) (fun s => ⟨rfl, rfl⟩) ?_ 0 ?_ (by repeat (first | exact trivial | refine ⟨rfl, ?_⟩)) (by repeat (first | exact trivial | refine ⟨rfl, ?_⟩)) rfl
 ·rintro i ⟨hI, hT⟩
  refine WpG.seq ?_
  refine WpG.reg ?_
  refine G.bin rfl rfl rfl ?_
  refine WpOpsG.nil ?_
  change WpG _ _ _ _ _
  refine WpG.seq ?_
  refine WpG.cond rfl (fun hq1 => ?_) (fun hq1 => ?_)
  ·(try simp only [zN] at hq1)
   refine WpG.skip ?_
   change WpG _ _ _ _ _
   refine WpG.seq ?_
   refine WpG.block ?_
   refine WpG.seq ?_
   have hlt : i < b.length := by omega
   have hsi := hs b[i] (List.getElem_mem hlt)
   have hd := List.drop_eq_getElem_cons hlt
   refine WpG.reg ?_
   refine G.iaddrN rfl rfl (List.getElem?_eq_getElem (by omega)) ?_
   refine G.loadNF rfl rfl ?_
   refine G.box (g := 10) rfl rfl rfl ?_
   refine G.storeB rfl rfl rfl rfl rfl rfl ?_
   refine WpOpsG.nil ?_
   change WpG _ _ _ _ _
   refine WpG.seq ?_
   refine WpG.reg ?_
   refine G.mv rfl ?_
   refine G.addI rfl rfl (by omega) ?_
   refine G.faddrB rfl ?_
   refine G.load1B rfl rfl rfl ?_
   refine G.bin rfl rfl rfl ?_
   refine WpOpsG.nil ?_
   change WpG _ _ _ _ _
   refine WpG.cond rfl (fun hq2 => ?_) (fun hq2 => ?_)
   ·(try simp only [zN] at hq2)
    refine WpG.seq ?_
    refine WpG.reg ?_
    refine G.mv rfl ?_
    refine G.addI rfl rfl (by omega) ?_
    refine G.faddrB rfl ?_
    refine G.load1B rfl rfl rfl ?_
    refine G.mx rfl rfl ?_
    refine G.mv rfl ?_
    refine WpOpsG.nil ?_
    change WpG _ _ _ _ _
    refine WpG.ret ?_
    refine ⟨_, [], rfl, (hasP_le (by repeat (first | exact trivial | refine ⟨rfl, ?_⟩))), rfl, rfl, rfl, ?_⟩
    rw [← hT, hd, nextV, if_pos (by omega)]; exact ⟨rfl, rfl⟩
   ·(try simp only [zN] at hq2)
    refine WpG.skip ?_
    change WpG _ _ _ _ _
    refine WpG.reg ?_
    refine G.addI rfl rfl (by omega) ?_
    refine G.mv rfl ?_
    refine WpOpsG.nil ?_
    refine ⟨i + 1, by omega, ⟨by omega, ?_⟩, ⟨rfl, rfl, rfl, rfl, rfl, rfl, trivial⟩, trivial, rfl⟩
    rw [← hT, hd, nextV, if_neg (by omega)]
  ·(try simp only [zN] at hq1)
   refine WpG.exit ?_
   change WpG _ _ _ _ _
   refine WpG.seq ?_
   have hs0 := hs (spD b 0) (spD_mem h0)
   unfold spD at hs0
   refine WpG.reg ?_
   refine G.mv rfl ?_
   refine G.mv rfl ?_
   refine G.iaddrM (m := 0) rfl rfl (by decide) (gd17 ((0, 0) : Sp) (by show 0 < _; omega)) ?_
   rw [show (0 : Int).toNat = 0 from rfl]
   refine G.faddrF rfl ?_
   refine G.load1F rfl rfl ?_
   refine G.addI rfl rfl (by omega) ?_
   refine G.mv rfl ?_
   refine WpOpsG.nil ?_
   change WpG _ _ _ _ _
   refine WpG.ret ?_
   refine ⟨_, [], rfl, (hasP_le (by repeat (first | exact trivial | refine ⟨rfl, ?_⟩))), rfl, rfl, rfl, ?_⟩
   have e : nextV t len b b = len + (b.getD 0 (0, 0)).1 := by
    rw [← hT, List.drop_of_length_le (by omega)]
    cases b with
    | nil => simp at h0
    | cons s b => rfl
   rw [e]; exact ⟨rfl, rfl⟩
 ·exact ⟨Nat.zero_le _, rfl⟩
end Go.AM.L9
