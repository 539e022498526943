/- Contracts of the functions that the statement reaches. No condition. -/
import Derived.Test.YtffhonjjccndpaaK6a
set_option linter.all false
set_option maxRecDepth 10000
namespace Go.AM.L6
open Go.AM.PL
theorem sadd_ok (a b : Int) (ha : i64 a) (hb : i64 b) : WpCallG A 18 [.v (.int .i64 a), .v (.int .i64 b)] [] (fun v H => v = .v (.int .i64 (sadd a b)) ∧ H = []) := by
 unfold i64 at ha hb
 refine WpCallG.intro g18 rfl rfl ?_
 unfold af18
 change WpG _ _ _ _ _
 refine WpG.seq ?_
 refine WpG.reg ?_
 refine G.mv rfl ?_
 refine WpOpsG.nil ?_
 change WpG _ _ _ _ _
 refine WpG.seq ?_
 refine WpG.reg ?_
 refine G.mv rfl ?_
 refine G.mx rfl rfl ?_
 refine G.mv rfl ?_
 refine G.mx rfl rfl ?_
 refine G.mv rfl ?_
 refine G.mv rfl ?_
 refine WpOpsG.nil ?_
 change WpG _ _ _ _ _
 refine WpG.seq ?_
 refine WpG.seq ?_
 refine WpG.reg ?_
 refine G.mv rfl ?_
 refine G.mv rfl ?_
 refine G.subI rfl rfl (by omega) ?_
 refine G.bin rfl rfl rfl ?_
 refine WpOpsG.nil ?_
 change WpG _ _ _ _ _
 refine WpG.cond rfl (fun hq1 => ?_) (fun hq1 => ?_)
 ·(try simp only [zN] at hq1)
  refine WpG.seq ?_
  refine WpG.reg ?_
  refine G.mv rfl ?_
  refine WpOpsG.nil ?_
  change WpG _ _ _ _ _
  refine WpG.ret ?_
  refine ⟨_, [], rfl, (hasP_le (by repeat (first | exact trivial | refine ⟨rfl, ?_⟩))), rfl, rfl, rfl, ?_⟩
  have e : sadd a b = 9223372036854775807 := by unfold sadd; rw [if_pos (by omega)]
  rw [e]; exact ⟨rfl, rfl⟩
 ·(try simp only [zN] at hq1)
  refine WpG.skip ?_
  change WpG _ _ _ _ _
  refine WpG.seq ?_
  refine WpG.reg ?_
  refine G.mv rfl ?_
  refine G.mv rfl ?_
  refine G.addI rfl rfl (by omega) ?_
  refine G.mv rfl ?_
  refine WpOpsG.nil ?_
  change WpG _ _ _ _ _
  refine WpG.ret ?_
  refine ⟨_, [], rfl, (hasP_le (by repeat (first | exact trivial | refine ⟨rfl, ?_⟩))), rfl, rfl, rfl, ?_⟩
  have e : sadd a b = max a 0 + max b 0 := by unfold sadd; rw [if_neg (by omega)]
  rw [e]; first | exact ⟨rfl, rfl⟩ | (refine ⟨?_, rfl⟩; show GV.v (.int .i64 _) = GV.v (.int .i64 _); congr 2; omega)
theorem rtidy_ok (l : List Rn) (hn : l.length ≤ 2 ^ 40) (hl : ∀ r ∈ l, okN r) : WpCallG A 7 [.fsl 2 (l.map encN)] [] (fun v H => v = .osl 0 ∧ H = [(0, .arr .yes 2 ((tidyV l).map encN))]) := by
 refine WpCallG.intro g7 rfl rfl ?_
 unfold af7
 change WpG _ _ _ _ _
 refine WpG.seq ?_
 refine WpG.reg ?_
 refine G.mv rfl ?_
 refine WpOpsG.nil ?_
 change WpG _ _ _ _ _
 refine WpG.seq ?_
 refine WpG.reg ?_
 refine G.mv rfl ?_
 refine WpOpsG.nil ?_
 change WpG _ _ _ _ _
 refine WpG.seq ?_
 refine WpG.seq ?_
 refine WpG.reg ?_
 refine G.mv rfl ?_
 refine G.lenM rfl ?_
 refine G.mv rfl ?_
 refine WpOpsG.nil ?_
 change WpG _ _ _ _ _
 refine WpG.block ?_
 refine WpG.ownNil (g := 0) (k := 3) (w := 2) rfl rfl ?_
 refine WpG.loop (S := Nat) (fun i => [(3, .osl 0), (7, .fsl 2 (l.map encN)), (8, .v (.int .i64 (l.length : Int))), (9, .v (.int .i64 (i : Int)))]) (fun i => [(0, .arr .yes 2 ((tidyV (l.take i)).map encN))]) (fun i => i ≤ l.length) (fun i => l.length - i) (fun s => ⟨rfl, rfl⟩) ?_ 0 ?_ (by repeat (first | exact trivial | refine ⟨rfl, ?_⟩)) (by repeat (first | exact trivial | refine ⟨rfl, ?_⟩)) rfl
 ·intro i hI
  refine WpG.seq ?_
  refine WpG.reg ?_
  refine G.bin rfl rfl rfl ?_
  refine WpOpsG.nil ?_
  change WpG _ _ _ _ _
  refine WpG.seq ?_
  refine WpG.cond rfl (fun hq1 => ?_) (fun hq1 => ?_)
  ·(try simp only [zN] at hq1)
   refine WpG.skip ?_
   change WpG _ _ _ _ _
   refine WpG.seq ?_
   refine WpG.block ?_
   refine WpG.seq ?_
   have hlt : i < l.length := by omega
   have hr := hl l[i] (List.getElem_mem hlt)
   obtain ⟨R, hR⟩ : ∃ R, tidyR (l.take i) = R := ⟨_, rfl⟩
   have hRo := tidyR_ok (l.take i) (fun r hr => hl r (List.mem_of_mem_take hr))
   rw [show tidyV (l.take i) = R.reverse by unfold tidyV; rw [hR]]
   rw [hR] at hRo
   have hRl : R.length ≤ i := by have := tidyR_len (l.take i); rw [hR, List.length_take] at this; omega
   have hrv := List.length_reverse (as := R)
   refine WpG.reg ?_
   refine G.iaddrN rfl rfl (List.getElem?_eq_getElem (by omega)) ?_
   refine G.loadNF rfl rfl ?_
   refine G.box (g := 10) rfl rfl rfl ?_
   refine G.storeB rfl rfl rfl rfl rfl rfl ?_
   refine WpOpsG.nil ?_
   change WpG _ _ _ _ _
   refine WpG.seq ?_
   refine WpG.reg ?_
   refine G.mv rfl ?_
   refine G.lenOM rfl rfl ?_
   rw [hrv]
   refine G.mv rfl ?_
   refine WpOpsG.nil ?_
   change WpG _ _ _ _ _
   refine WpG.seq ?_
   refine WpG.seq ?_
   refine WpG.reg ?_
   refine G.faddrB rfl ?_
   refine G.load1B rfl rfl rfl ?_
   refine G.bin rfl rfl rfl ?_
   refine WpOpsG.nil ?_
   change WpG _ _ _ _ _
   refine WpG.cond rfl (fun hq2 => ?_) (fun hq2 => ?_)
   ·(try simp only [zN] at hq2)
    refine WpG.exit ?_
    change WpG _ _ _ _ _
    refine WpG.reg ?_
    refine G.addI rfl rfl (by omega) ?_
    refine G.mv rfl ?_
    refine WpOpsG.nil ?_
    refine ⟨i + 1, by omega, by omega, ⟨rfl, rfl, rfl, rfl, trivial⟩, ⟨?_, trivial⟩, rfl⟩
    rw [show tidyV (l.take (i + 1)) = (tstep R l[i]).reverse by unfold tidyV; rw [tidyR_snoc hlt, hR]]
    first
     | (rw [tstep_0 (by omega)]; rfl)
     | (rw [tstep_T (by omega) (by omega) (by omega), ← rset (by omega)]; rfl)
     | (rw [tstep_F (by omega) (by omega), List.reverse_cons, List.map_append]; rfl)
   ·(try simp only [zN] at hq2)
    refine WpG.skip ?_
    change WpG _ _ _ _ _
    refine WpG.seq ?_
    refine WpG.reg ?_
    refine G.mv rfl ?_
    refine G.bin rfl rfl rfl ?_
    refine G.mv rfl ?_
    apply G.andS rfl rfl rfl rfl rfl rfl
    case hB =>
     intro hs3
     (try simp only [zN] at hs3)
     refine G.mv rfl ?_
     refine G.mv rfl ?_
     refine G.subI rfl rfl (by omega) ?_
     rw [show (R.length : Int) - 1 = ((R.length - 1 : Nat) : Int) by omega]
     refine G.iaddrO rfl rfl rfl (by omega) (by rw [List.length_map]; omega) ?_
     refine G.faddrE rfl ?_
     refine G.load1EM rfl rfl (rtop (by omega)) rfl ?_
     refine G.faddrB rfl ?_
     refine G.load1B rfl rfl rfl ?_
     refine G.bin rfl rfl rfl ?_
     refine WpOpsG.nil ?_
     exact ⟨rfl, (by repeat (first | exact LLe.refl _ | refine LLe.cons rfl ?_)), (by repeat (first | exact HLe.refl _ | refine HLe.cons rfl ?_)), rfl⟩
    refine WpOpsG.nil ?_
    change WpG _ _ _ _ _
    refine WpG.cond rfl (fun hq4 => ?_) (fun hq4 => ?_)
    ·(try simp only [zN] at hq4)
     refine WpG.reg ?_
     refine G.mv rfl ?_
     refine G.mv rfl ?_
     refine G.subI rfl rfl (by omega) ?_
     rw [show (R.length : Int) - 1 = ((R.length - 1 : Nat) : Int) by omega]
     refine G.mv rfl ?_
     refine G.mv rfl ?_
     refine G.subI rfl rfl (by omega) ?_
     rw [show (R.length : Int) - 1 = ((R.length - 1 : Nat) : Int) by omega]
     refine G.iaddrO rfl rfl rfl (by omega) (by rw [List.length_map]; omega) ?_
     refine G.faddrE rfl ?_
     refine G.load1EM rfl rfl (rtop (by omega)) rfl ?_
     refine G.faddrB rfl ?_
     refine G.load1B rfl rfl rfl ?_
     refine G.call0 rfl rfl (sadd_ok (hdR R).n l[i].n (hRo _ (hdR_mem (by omega))).1.2 hr.2) ?_
     rintro _ _ ⟨rfl, rfl⟩
     refine ⟨rfl, ?_⟩
     change WpOpsG _ _ ((42, _) :: _) _ _
     refine G.iaddrO rfl rfl rfl (by omega) (by rw [List.length_map]; omega) ?_
     refine G.faddrE rfl ?_
     refine G.storeEM ⟨(hdR R).p, sadd (hdR R).n l[i].n⟩ rfl rfl rfl (rtop (by omega)) rfl rfl rfl rfl ?_
     refine WpOpsG.nil ?_
     change WpG _ _ _ _ _
     refine WpG.reg ?_
     refine G.addI rfl rfl (by omega) ?_
     refine G.mv rfl ?_
     refine WpOpsG.nil ?_
     refine ⟨i + 1, by omega, by omega, ⟨rfl, rfl, rfl, rfl, trivial⟩, ⟨?_, trivial⟩, rfl⟩
     rw [show tidyV (l.take (i + 1)) = (tstep R l[i]).reverse by unfold tidyV; rw [tidyR_snoc hlt, hR]]
     first
      | (rw [tstep_0 (by omega)]; rfl)
      | (rw [tstep_T (by omega) (by omega) (by omega), ← rset (by omega)]; rfl)
      | (rw [tstep_F (by omega) (by omega), List.reverse_cons, List.map_append]; rfl)
    ·(try simp only [zN] at hq4)
     refine WpG.reg ?_
     refine G.mv rfl ?_
     refine G.loadNB rfl rfl rfl ?_
     refine G.bsliceF rfl rfl rfl ?_
     refine G.app rfl rfl rfl rfl trivial (by rw [List.length_map, List.length_reverse]; show (R.length + 1) * 16 ≤ 2 ^ 47; omega) ?_
     refine G.mv rfl ?_
     refine WpOpsG.nil ?_
     change WpG _ _ _ _ _
     refine WpG.reg ?_
     refine G.addI rfl rfl (by omega) ?_
     refine G.mv rfl ?_
     refine WpOpsG.nil ?_
     refine ⟨i + 1, by omega, by omega, ⟨rfl, rfl, rfl, rfl, trivial⟩, ⟨?_, trivial⟩, rfl⟩
     rw [show tidyV (l.take (i + 1)) = (tstep R l[i]).reverse by unfold tidyV; rw [tidyR_snoc hlt, hR]]
     first
      | (rw [tstep_0 (by omega)]; rfl)
      | (rw [tstep_T (by omega) (by omega) (by omega), ← rset (by omega)]; rfl)
      | (rw [tstep_F (by omega) (by omega), List.reverse_cons, List.map_append]; rfl)
  ·(try simp only [zN] at hq1)
   refine WpG.exit ?_
   change WpG _ _ _ _ _
   refine WpG.seq ?_
   rw [show l.take i = l from take_all (by omega)]
   refine WpG.reg ?_
   refine G.mv rfl ?_
   refine G.mv rfl ?_
   refine WpOpsG.nil ?_
   change WpG _ _ _ _ _
   refine WpG.ret ?_
   refine ⟨_, [(0, .arr .yes 2 ((tidyV l).map encN))], rfl, (hasP_le (by repeat (first | exact trivial | refine ⟨rfl, ?_⟩))), rfl, rfl, rfl, ?_⟩
   exact ⟨rfl, rfl⟩
 ·exact Nat.zero_le _
set_option maxHeartbeats 1000000 in
theorem leaves_ok (pre post : List Nd) (x : Nd) (ks : Fo) (hx : (Fo.one x ks).ok) (hl : (pre ++ (Fo.enc (Fo.one x ks) ++ post)).length ≤ 2 ^ 40) (hlw : Fo.lwX x ks.lw ≤ 4096) (acc : List Rn) (hacc : (acc.length : Int) + Fo.lwX x ks.lw ≤ 2 ^ 30) : WpCallG A 41 [.fsl 3 ((pre ++ (Fo.enc (Fo.one x ks) ++ post)).map encD), .v (.int .i64 (pre.length : Int)), .osl 1] [(1, .arr .yes 2 (acc.map encN))] (fun v H => v = .osl 1 ∧ H = [(1, .arr .yes 2 ((acc ++ (Fo.lvX x ks.lv)).map encN))]) := by
 have hlA : (pre ++ (Fo.enc (Fo.one x ks) ++ post)).length = pre.length + ((Fo.enc (Fo.one x ks)).length + post.length) := by rw [List.length_append, List.length_append]
 have hkl := Fo.kpos_len ks (pre.length + 1)
 have hck := Fo.cnt_le ks
 have hel : (Fo.enc (Fo.one x ks)).length = 1 + (Fo.enc ks).length := by simp [Fo.enc, Fo.one]; omega
 have hk0 : 0 ≤ kidV x := by rw [hx.1]; omega
 have hxn := kidV_pos hk0
 have hkc := Fo.kind_cases hk0
 have hlp := Fo.lw_pos hx.2.1
 refine WpCallG.intro g41 rfl rfl ?_
 unfold af41
 change WpG _ _ _ _ _
 refine WpG.seq ?_
 refine WpG.reg ?_
 refine G.mv rfl ?_
 refine WpOpsG.nil ?_
 change WpG _ _ _ _ _
 refine WpG.seq ?_
 refine WpG.seq ?_
 refine WpG.reg ?_
 refine G.mv rfl ?_
 refine G.mv rfl ?_
 refine G.iaddrN rfl rfl (Fo.at_one x _ pre post) ?_
 refine G.faddrF rfl ?_
 refine G.load1F rfl rfl ?_
 refine WpOpsG.nil ?_
 change WpG _ _ _ _ _
 refine WpG.block ?_
 refine WpG.seq ?_
 refine WpG.reg ?_
 refine G.bin rfl rfl rfl ?_
 refine G.mv rfl ?_
 refine WpOpsG.nil ?_
 change WpG _ _ _ _ _
 refine WpG.cond rfl (fun hq1 => ?_) (fun hq1 => ?_)
 ·(try simp only [zN] at hq1)
  refine WpG.seq ?_
  have hkk : kidV x = 0 := by omega
  have hkr := kid_rng hkk
  have hlx : Fo.lwX x ks.lw = x.n := by unfold Fo.lwX; rw [if_neg (by omega), if_pos hkk]
  rw [hlx] at hlw hacc
  refine WpG.reg ?_
  refine G.mv rfl ?_
  refine G.mv rfl ?_
  refine G.mv rfl ?_
  refine G.iaddrN rfl rfl (Fo.at_one x _ pre post) ?_
  refine G.faddrF rfl ?_
  refine G.load1F rfl rfl ?_
  refine G.mv rfl ?_
  refine G.mv rfl ?_
  refine G.iaddrN rfl rfl (Fo.at_one x _ pre post) ?_
  refine G.faddrF rfl ?_
  refine G.load1F rfl rfl ?_
  refine G.build rfl ?_
  refine G.bsliceF rfl rfl rfl ?_
  change WpOpsG _ _ ((29, .fsl 2 (([⟨x.p, x.n⟩] : List Rn).map encN)) :: _) _ _
  refine G.app rfl rfl rfl rfl trivial (by rw [List.length_map]; show (acc.length + 1) * 16 ≤ 2 ^ 47; omega) ?_
  rw [← List.map_append]
  refine G.mv rfl ?_
  refine WpOpsG.nil ?_
  change WpG _ _ _ _ _
  refine WpG.ret ?_
  refine ⟨_, [(1, .arr .yes 2 ((acc ++ ([⟨x.p, x.n⟩] : List Rn)).map encN))], rfl, (hasP_le (by repeat (first | exact trivial | refine ⟨rfl, ?_⟩))), rfl, rfl, rfl, ?_⟩
  have hlf : (Fo.lvX x ks.lv) = ([⟨x.p, x.n⟩] : List Rn) := by unfold Fo.lvX; rw [if_neg (by omega), if_pos hkk, if_pos (by omega)]
  rw [hlf]; exact ⟨rfl, rfl⟩
 ·(try simp only [zN] at hq1)
  refine WpG.seq ?_
  refine WpG.reg ?_
  refine G.bin rfl rfl rfl ?_
  refine G.mv rfl ?_
  refine WpOpsG.nil ?_
  change WpG _ _ _ _ _
  refine WpG.cond rfl (fun hq2 => ?_) (fun hq2 => ?_)
  ·(try simp only [zN] at hq2)
   refine WpG.seq ?_
   have hkk : kidV x = 0 := by omega
   have hlx : Fo.lwX x ks.lw = x.n := by unfold Fo.lwX; rw [if_neg (by omega), if_pos hkk]
   rw [hlx] at hlw hacc
   refine WpG.reg ?_
   refine G.mv rfl ?_
   refine G.mv rfl ?_
   refine G.mv rfl ?_
   refine G.iaddrN rfl rfl (Fo.at_one x _ pre post) ?_
   refine G.faddrF rfl ?_
   refine G.load1F rfl rfl ?_
   refine G.build rfl ?_
   refine G.bsliceF rfl rfl rfl ?_
   change WpOpsG _ _ ((40, .fsl 2 (([⟨-1, x.n⟩] : List Rn).map encN)) :: _) _ _
   refine G.app rfl rfl rfl rfl trivial (by rw [List.length_map]; show (acc.length + 1) * 16 ≤ 2 ^ 47; omega) ?_
   rw [← List.map_append]
   refine G.mv rfl ?_
   refine WpOpsG.nil ?_
   change WpG _ _ _ _ _
   refine WpG.ret ?_
   refine ⟨_, [(1, .arr .yes 2 ((acc ++ ([⟨-1, x.n⟩] : List Rn)).map encN))], rfl, (hasP_le (by repeat (first | exact trivial | refine ⟨rfl, ?_⟩))), rfl, rfl, rfl, ?_⟩
   have hlf : (Fo.lvX x ks.lv) = ([⟨-1, x.n⟩] : List Rn) := by unfold Fo.lvX; rw [if_neg (by omega), if_pos hkk, if_neg (by omega)]
   rw [hlf]; exact ⟨rfl, rfl⟩
  ·(try simp only [zN] at hq2)
   refine WpG.seq ?_
   refine WpG.reg ?_
   refine G.bin rfl rfl rfl ?_
   refine G.mv rfl ?_
   refine WpOpsG.nil ?_
   change WpG _ _ _ _ _
   refine WpG.cond rfl (fun hq3 => ?_) (fun hq3 => ?_)
   ·(try simp only [zN] at hq3)
    refine WpG.seq ?_
    refine WpG.seq ?_
    obtain ⟨y, js, hky⟩ := Fo.one_kid (ks := ks) (by have := hx.1; omega)
    have hyok : (Fo.one y js).ok := hky ▸ hx.2.1
    have hlx : Fo.lwX x ks.lw = x.n * Fo.lwX y js.lw := by rw [hky, Fo.lw_one]; show (if x.k = 4 then _ else _) = _; rw [if_pos (by omega)]
    have hlv : Fo.lvX x ks.lv = Fo.repL x.n.toNat (Fo.lvX y js.lv) := by rw [hky, Fo.lv_one]; show (if x.k = 4 then _ else _) = _; rw [if_pos (by omega)]
    rw [hlx] at hlw hacc
    have hyp : 1 ≤ Fo.lwX y js.lw := by have := (Fo.lw_pos hyok).2 (by intro e; cases e); rwa [Fo.lw_one] at this
    have hyle : Fo.lwX y js.lw ≤ x.n * Fo.lwX y js.lw := by have := Int.mul_le_mul (show (1 : Int) ≤ x.n from hxn) (Int.le_refl (Fo.lwX y js.lw)) (by omega) (by omega); omega
    have hxle : x.n ≤ x.n * Fo.lwX y js.lw := by have := Int.mul_le_mul (Int.le_refl x.n) hyp (by omega) (by omega); omega
    have hyl := Fo.lv1_ok hyok (by omega)
    refine WpG.reg ?_
    refine G.mv rfl ?_
    refine WpOpsG.nil ?_
    change WpG _ _ _ _ _
    refine WpG.block ?_
    refine WpG.loop (S := Nat × List Rn) (fun s => [(0, .fsl 3 ((pre ++ (Fo.enc (Fo.one x ks) ++ post)).map encD)), (1, .v (.int .i64 (pre.length : Int))), (2, .osl 1), (7, .v (.int .i64 (s.1 : Int)))]) (fun s => [(1, .arr .yes 2 ((acc ++ s.2).map encN))]) (fun s => (s.1 : Int) ≤ x.n ∧ okG s.2 ∧ wlen s.2 = s.1 * Fo.lwX y js.lw ∧ s.2 = Fo.repL s.1 (Fo.lvX y js.lv)) (fun s => x.n.toNat - s.1) (fun s => ⟨rfl, rfl⟩) ?_ (0, []) ?_ (by repeat (first | exact trivial | refine ⟨rfl, ?_⟩)) ⟨by rw [List.append_nil]; rfl, trivial⟩ rfl
    ·rintro ⟨i, s⟩ ⟨hi, hs1, hs2, hs3⟩
     dsimp only at hi hs1 hs2 hs3 ⊢
     refine WpG.seq ?_
     refine WpG.seq ?_
     refine WpG.reg ?_
     refine G.mv rfl ?_
     refine G.mv rfl ?_
     refine G.mv rfl ?_
     refine G.iaddrN rfl rfl (Fo.at_one x _ pre post) ?_
     refine G.faddrF rfl ?_
     refine G.load1F rfl rfl ?_
     refine G.bin rfl rfl rfl ?_
     refine WpOpsG.nil ?_
     change WpG _ _ _ _ _
     refine WpG.cond rfl (fun hq4 => ?_) (fun hq4 => ?_)
     ·(try simp only [zN] at hq4)
      refine WpG.skip ?_
      change WpG _ _ _ _ _
      refine WpG.seq ?_
      refine WpG.block ?_
      have hin : (i : Int) + 1 ≤ x.n := by omega
      have hmul : (i : Int) * Fo.lwX y js.lw + Fo.lwX y js.lw ≤ x.n * Fo.lwX y js.lw := by have := Int.mul_le_mul hin (Int.le_refl (Fo.lwX y js.lw)) (by omega) (by omega); rw [Int.add_mul, Int.one_mul] at this; exact this
      have hml0 : 0 ≤ (i : Int) * Fo.lwX y js.lw := Int.mul_nonneg (by omega) (by omega)
      have hslen := len_wlen fun r hr => (hs1 r hr).2
      have hdec : (Fo.enc (Fo.one y js)).length < (Fo.enc (Fo.one x ks)).length := by rw [hel, hky]; omega
      have hLE : pre ++ (Fo.enc (Fo.one x ks) ++ post) = (pre ++ [x]) ++ (Fo.enc (Fo.one y js) ++ post) := by rw [hky]; simp [Fo.enc, Fo.one]
      refine WpG.reg ?_
      refine G.mv rfl ?_
      refine G.mv rfl ?_
      refine G.addI rfl rfl (by omega) ?_
      rw [show (pre.length : Int) + 1 = ((pre.length + 1 : Nat) : Int) by omega]
      refine G.mv rfl ?_
      refine G.call (P := [(1, .arr .yes 2 ((acc ++ s).map encN))]) rfl (by repeat (first | exact trivial | refine ⟨rfl, ?_⟩)) rfl rfl (by
       have h := leaves_ok (pre ++ [x]) post y js hyok (by rw [← hLE]; exact hl) (by omega) (acc ++ s) (by rw [List.length_append]; omega)
       rw [← hLE, List.length_append] at h
       exact h) ?_
      rintro _ _ ⟨rfl, rfl⟩
      change newOk _ _ [(1, _)] = true ∧ _
      refine ⟨rfl, ?_⟩
      change WpOpsG _ _ ((57, .osl 1) :: _) ([(1, .arr .yes 2 ((acc ++ s ++ (Fo.lvX y js.lv)).map encN))] ++ _) _
      have hg2 := hyl.1
      have hw2 := hyl.2
      refine G.mv rfl ?_
      refine WpOpsG.nil ?_
      change WpG _ _ _ _ _
      refine WpG.reg ?_
      refine G.mv rfl ?_
      refine G.addI rfl rfl (by omega) ?_
      refine G.mv rfl ?_
      refine WpOpsG.nil ?_
      refine ⟨(i + 1, s ++ Fo.lvX y js.lv), by show x.n.toNat - (i + 1) < x.n.toNat - i; omega, ⟨by dsimp only; omega, okG_app hs1 hg2, by dsimp only; rw [wlen_app, hs2, hw2, show ((i + 1 : Nat) : Int) = (i : Int) + 1 by omega, Int.add_mul, Int.one_mul], by dsimp only; rw [hs3]; rfl⟩, ⟨rfl, rfl, rfl, rfl, trivial⟩, ⟨?_, trivial⟩, rfl⟩
      rw [List.append_assoc]; rfl
     ·(try simp only [zN] at hq4)
      refine WpG.exit ?_
      change WpG _ _ _ _ _
      refine WpG.seq ?_
      refine WpG.reg ?_
      refine G.mv rfl ?_
      refine G.mv rfl ?_
      refine WpOpsG.nil ?_
      change WpG _ _ _ _ _
      refine WpG.ret ?_
      refine ⟨_, [(1, .arr .yes 2 ((acc ++ s).map encN))], rfl, (hasP_le (by repeat (first | exact trivial | refine ⟨rfl, ?_⟩))), rfl, rfl, rfl, ?_⟩
      rw [hlv, show x.n.toNat = i by omega, ← hs3]; exact ⟨rfl, rfl⟩
    ·exact ⟨by dsimp only; omega, fun r hr => (by cases hr), by show wlen [] = (0 : Int) * _; rw [Int.zero_mul]; rfl, rfl⟩
   ·(try simp only [zN] at hq3)
    refine WpG.skip ?_
    change WpG _ _ _ _ _
    refine WpG.seq ?_
    refine WpG.seq ?_
    have hk3 : x.k = 3 := by omega
    have hlv : Fo.lvX x ks.lv = ks.lv := by unfold Fo.lvX; rw [if_neg (by omega), if_neg (by omega)]
    have hlx : Fo.lwX x ks.lw = ks.lw := by unfold Fo.lwX; rw [if_neg (by omega), if_neg (by omega)]
    rw [hlx] at hlw hacc
    refine WpG.reg ?_
    refine G.mv rfl ?_
    refine G.mv rfl ?_
    refine G.call0 rfl rfl ((rkids_ok (pre ++ (Fo.enc (Fo.one x ks) ++ post)) pre.length (Fo.kpos (pre.length + 1) ks) (by omega) (by omega) (Fo.kids_at hx pre post)).ren [(0, 23)]) ?_
    rintro _ _ ⟨_, _, ⟨rfl, rfl⟩, rfl, rfl⟩
    change newOk _ _ [(23, _)] = true ∧ _
    refine ⟨rfl, ?_⟩
    change WpOpsG _ _ ((61, .osl 23) :: _) ([(23, .arr .yes 1 ((Fo.kpos (pre.length + 1) ks).map encI))] ++ _) _
    refine WpOpsG.freeze 23 rfl ?_
    change WpOpsG _ _ ((61, .fsl 1 ((Fo.kpos (pre.length + 1) ks).map encI)) :: _) _ _
    refine G.lenM rfl ?_
    refine G.mv rfl ?_
    refine WpOpsG.nil ?_
    change WpG _ _ _ _ _
    refine WpG.block ?_
    refine WpG.loop (S := Fo × Fo × List Rn) (fun s => [(0, .fsl 3 ((pre ++ (Fo.enc (Fo.one x ks) ++ post)).map encD)), (2, .osl 1), (61, .fsl 1 ((Fo.kpos (pre.length + 1) ks).map encI)), (62, .v (.int .i64 ((Fo.kpos (pre.length + 1) ks).length : Int))), (63, .v (.int .i64 (s.1.cnt : Int)))]) (fun s => [(1, .arr .yes 2 ((acc ++ s.2.2).map encN))]) (fun s => ks = Fo.app s.1 s.2.1 ∧ okG s.2.2 ∧ wlen s.2.2 = s.1.lw ∧ s.2.2 = s.1.lv) (fun s => ks.cnt - s.1.cnt) (fun s => ⟨rfl, rfl⟩) ?_ (.nil, ks, []) ?_ (by repeat (first | exact trivial | refine ⟨rfl, ?_⟩)) ⟨by rw [List.append_nil]; rfl, trivial⟩ rfl
    ·rintro ⟨f, g, s⟩ ⟨hks, hs1, hs2, hs3⟩
     dsimp only at hks hs1 hs2 hs3 ⊢
     have hcf := Fo.cnt_app f g
     rw [← hks] at hcf
     refine WpG.seq ?_
     refine WpG.reg ?_
     refine G.bin rfl rfl rfl ?_
     refine WpOpsG.nil ?_
     change WpG _ _ _ _ _
     refine WpG.seq ?_
     refine WpG.cond rfl (fun hq5 => ?_) (fun hq5 => ?_)
     ·(try simp only [zN] at hq5)
      refine WpG.skip ?_
      change WpG _ _ _ _ _
      refine WpG.seq ?_
      refine WpG.block ?_
      refine WpG.seq ?_
      obtain ⟨y, js, r, rfl⟩ : ∃ y js r, g = Fo.cons y js r := by
       cases g with
       | nil =>
         exfalso
         have := Fo.cnt_app f .nil
         rw [← hks] at this
         have h0 : Fo.nil.cnt = 0 := rfl
         omega
       | cons y js r => exact ⟨y, js, r, rfl⟩
      have hok2 := hx.2.1
      rw [hks] at hok2
      have hpt := Fo.ok_parts hok2
      have hyo : (Fo.one y js).ok := ⟨hpt.2.1, hpt.2.2.1, trivial⟩
      have hee : (pre ++ (Fo.enc (Fo.one x ks) ++ post)) = (pre ++ x :: Fo.enc f) ++ (Fo.enc (Fo.one y js) ++ (Fo.enc r ++ post)) := by
       have h1 : Fo.enc ks = Fo.enc f ++ Fo.enc (Fo.cons y js r) := by rw [hks, Fo.enc_app]
       have h2 : Fo.enc (Fo.cons y js r) = Fo.enc (Fo.one y js) ++ Fo.enc r := by simp [Fo.enc, Fo.one]
       rw [h2] at h1
       simp only [Fo.enc, Fo.one, List.append_nil] at h1 ⊢
       rw [h1]; simp
      have hpl : (pre ++ x :: Fo.enc f).length = pre.length + 1 + (Fo.enc f).length := by rw [List.length_append, List.length_cons]; omega
      have hdec : (Fo.enc (Fo.one y js)).length < (Fo.enc (Fo.one x ks)).length := by
       have h1 : Fo.enc ks = Fo.enc f ++ Fo.enc (Fo.cons y js r) := by rw [hks, Fo.enc_app]
       have h2 : Fo.enc (Fo.cons y js r) = Fo.enc (Fo.one y js) ++ Fo.enc r := by simp [Fo.enc, Fo.one]
       have h3 : (Fo.enc (Fo.one x ks)).length = 1 + (Fo.enc ks).length := by simp [Fo.enc, Fo.one]; omega
       rw [h3, h1, h2, List.length_append, List.length_append]; omega
      have hsum : f.lw + (Fo.lwX y js.lw + r.lw) = ks.lw := by rw [hks, Fo.lw_app]; rfl
      have hfp := (Fo.lw_pos hpt.1).1
      have hrp := (Fo.lw_pos hpt.2.2.2).1
      have hyp := (Fo.lw_pos hyo).1
      rw [Fo.lw_one] at hyp
      have hslen := len_wlen fun r hr => (hs1 r hr).2
      have hyl := Fo.lv1_ok hyo (by omega)
      refine WpG.reg ?_
      refine G.iaddrN rfl rfl (show (Fo.kpos (pre.length + 1) ks)[f.cnt]? = some (pre.length + 1 + (Fo.enc f).length) by rw [hks]; exact Fo.kpos_at (pre.length + 1)) ?_
      refine G.load1F rfl rfl ?_
      refine G.mv rfl ?_
      refine WpOpsG.nil ?_
      change WpG _ _ _ _ _
      refine WpG.reg ?_
      refine G.mv rfl ?_
      refine G.mv rfl ?_
      refine G.mv rfl ?_
      refine G.call (P := [(1, .arr .yes 2 ((acc ++ s).map encN))]) rfl (by repeat (first | exact trivial | refine ⟨rfl, ?_⟩)) rfl rfl (by
       have h := leaves_ok (pre ++ x :: Fo.enc f) (Fo.enc r ++ post) y js hyo (by rw [← hee]; exact hl) (by omega) (acc ++ s) (by rw [List.length_append]; omega)
       rw [← hee, hpl] at h
       exact h) ?_
      rintro _ _ ⟨rfl, rfl⟩
      change newOk _ _ [(1, _)] = true ∧ _
      refine ⟨rfl, ?_⟩
      change WpOpsG _ _ ((70, .osl 1) :: _) ([(1, .arr .yes 2 ((acc ++ s ++ (Fo.lvX y js.lv)).map encN))] ++ _) _
      have hg2 := hyl.1
      have hw2 := hyl.2
      refine G.mv rfl ?_
      refine WpOpsG.nil ?_
      change WpG _ _ _ _ _
      refine WpG.reg ?_
      refine G.addI rfl rfl (by omega) ?_
      refine G.mv rfl ?_
      refine WpOpsG.nil ?_
      refine ⟨(f.app (Fo.one y js), r, s ++ Fo.lvX y js.lv), by show ks.cnt - (f.app (Fo.one y js)).cnt < ks.cnt - f.cnt; rw [Fo.cnt_app]; have : (Fo.one y js).cnt = 1 := rfl; omega, ⟨?_, okG_app hs1 hg2, ?_, by dsimp only; rw [hs3, Fo.lv_app, Fo.lv_one]⟩, ⟨rfl, rfl, rfl, rfl, ?_, trivial⟩, ⟨?_, trivial⟩, rfl⟩
      ·show ks = Fo.app (Fo.app f (Fo.one y js)) r
       rw [hks, Fo.app_assoc]; rfl
      ·show wlen (s ++ Fo.lvX y js.lv) = (f.app (Fo.one y js)).lw
       rw [wlen_app, hs2, hw2, Fo.lw_app, Fo.lw_one]
      ·show some _ = some (GV.v (.int .i64 ((Fo.app f (Fo.one y js)).cnt : Int)))
       rw [Fo.cnt_app]; rfl
      ·rw [List.append_assoc]; rfl
     ·(try simp only [zN] at hq5)
      refine WpG.exit ?_
      change WpG _ _ _ _ _
      refine WpG.seq ?_
      have hfk : f = ks := by
       cases g with
       | nil => rw [hks]; exact (Fo.app_nil f).symm
       | cons y js r =>
         exfalso
         have := Fo.cnt_app f (.cons y js r)
         rw [← hks] at this
         have h0 : (Fo.cons y js r).cnt = 1 + r.cnt := rfl
         omega
      clear hks
      subst hfk
      refine WpG.reg ?_
      refine G.mv rfl ?_
      refine G.mv rfl ?_
      refine WpOpsG.nil ?_
      change WpG _ _ _ _ _
      refine WpG.ret ?_
      refine ⟨_, [(1, .arr .yes 2 ((acc ++ s).map encN))], rfl, (hasP_le (by repeat (first | exact trivial | refine ⟨rfl, ?_⟩))), rfl, rfl, rfl, ?_⟩
      rw [hlv, ← hs3]; exact ⟨rfl, rfl⟩
    ·exact ⟨rfl, fun r hr => (by cases hr), rfl, rfl⟩
termination_by (Fo.enc (Fo.one x ks)).length
decreasing_by all_goals exact hdec
theorem Leaves_ok (x : Nd) (ks : Fo) (hx : (Fo.one x ks).ok) (hl : (Fo.enc (Fo.one x ks)).length ≤ 2 ^ 40) (hlw : Fo.lwX x ks.lw ≤ 4096) : WpCallG A 27 [.fsl 3 ((Fo.enc (Fo.one x ks)).map encD)] [] (fun v H => v = .fsl 2 ((Fo.lvX x ks.lv).map encN) ∧ H = []) := by
 refine WpCallG.intro g27 rfl rfl ?_
 unfold af27
 change WpG _ _ _ _ _
 refine WpG.seq ?_
 refine WpG.reg ?_
 refine G.mv rfl ?_
 refine WpOpsG.nil ?_
 change WpG _ _ _ _ _
 refine WpG.seq ?_
 refine WpG.reg ?_
 refine G.mv rfl ?_
 refine G.call0 rfl rfl (by
  have h := leaves_ok [] [] x ks hx (by simp only [List.nil_append, List.append_nil]; omega) hlw [] (by simp only [List.length_nil]; omega)
  rw [List.nil_append, List.append_nil] at h
  exact nilO3 1 rfl h) ?_
 rintro _ _ ⟨rfl, rfl⟩
 change newOk _ _ [(1, _)] = true ∧ _
 refine ⟨rfl, ?_⟩
 change WpOpsG _ _ ((4, .osl 1) :: _) ([(1, .arr .yes 2 (([] ++ (Fo.lvX x ks.lv)).map encN))] ++ _) _
 rw [List.nil_append]
 refine WpOpsG.freeze 1 rfl ?_
 refine G.mv rfl ?_
 refine WpOpsG.nil ?_
 change WpG _ _ _ _ _
 refine WpG.ret ?_
 refine ⟨_, [], rfl, (hasP_le (by repeat (first | exact trivial | refine ⟨rfl, ?_⟩))), rfl, rfl, rfl, ?_⟩
 exact ⟨rfl, rfl⟩
theorem ofX_ok (l : List Nd) (hl : l.length ≤ 2 ^ 40) : WpCallG A 13 [.fsl 3 (l.map encD)] [] (fun v H => v = .tup [.fsl 2 ((ofV l).map encN), .v (.int .i64 (ofE l))] ∧ H = []) := by
 refine WpCallG.intro g13 rfl rfl ?_
 unfold af13
 change WpG _ _ _ _ _
 refine WpG.seq ?_
 refine WpG.reg ?_
 refine G.mv rfl ?_
 refine G.mv rfl ?_
 refine WpOpsG.nil ?_
 change WpG _ _ _ _ _
 refine WpG.seq ?_
 refine WpG.seq ?_
 refine WpG.reg ?_
 refine G.mv rfl ?_
 refine G.call0 rfl rfl (rRight_ok l hl) ?_
 rintro _ _ ⟨rfl, rfl⟩
 refine ⟨rfl, ?_⟩
 change WpOpsG _ _ ((7, _) :: _) _ _
 refine G.mv rfl ?_
 refine WpOpsG.nil ?_
 change WpG _ _ _ _ _
 refine WpG.seq ?_
 refine WpG.reg ?_
 refine G.mv rfl ?_
 refine G.bin rfl rfl rfl ?_
 refine WpOpsG.nil ?_
 change WpG _ _ _ _ _
 refine WpG.cond rfl (fun hq1 => ?_) (fun hq1 => ?_)
 ·(try simp only [zN] at hq1)
  have hr0 : ¬ rightN l = 0 := hq1
  refine WpG.seq ?_
  refine WpG.reg ?_
  refine G.mv rfl ?_
  refine G.mv rfl ?_
  refine G.mv rfl ?_
  refine WpOpsG.nil ?_
  change WpG _ _ _ _ _
  refine WpG.ownNil (g := 31) (k := 2) (w := 2) rfl rfl ?_
  refine WpG.freeze 31 rfl ?_
  refine WpG.ret ?_
  refine ⟨_, [], rfl, (hasP_le (by repeat (first | exact trivial | refine ⟨rfl, ?_⟩))), rfl, rfl, rfl, ?_⟩
  have e1 : ofV l = [] := by unfold ofV; rw [if_neg hr0]
  have e2 : ofE l = rightN l := by unfold ofE; rw [if_neg hr0]
  rw [e1, e2]; exact ⟨rfl, rfl⟩
 ·(try simp only [zN] at hq1)
  have hr0 : rightN l = 0 := by omega
  obtain ⟨hl2, x, ks, rfl, hx, hlw⟩ := rightN_ok hl hr0
  refine WpG.skip ?_
  change WpG _ _ _ _ _
  refine WpG.seq ?_
  refine WpG.reg ?_
  refine G.mv rfl ?_
  refine G.call0 rfl rfl (Leaves_ok x ks hx (by omega) hlw) ?_
  rintro _ _ ⟨rfl, rfl⟩
  refine ⟨rfl, ?_⟩
  change WpOpsG _ _ ((12, _) :: _) _ _
  have hlv := Fo.lv1_ok hx hlw
  obtain ⟨ls, hls⟩ : ∃ ls, Fo.lvX x ks.lv = ls := ⟨_, rfl⟩
  rw [hls] at hlv ⊢
  have hg := hlv.1
  have hw := hlv.2
  have hln := len_wlen fun r hr => (hg r hr).2
  have hlvv : lvV (Fo.enc (Fo.one x ks)) = ls := by rw [lvV_eq hx, hls]
  refine G.call0 rfl rfl ((rtidy_ok ls (by omega) (fun r hr => (hg r hr).1)).ren [(0, 20)]) ?_
  rintro _ _ ⟨_, _, ⟨rfl, rfl⟩, rfl, rfl⟩
  change newOk _ _ [(20, _)] = true ∧ _
  refine ⟨rfl, ?_⟩
  change WpOpsG _ _ ((13, .osl 20) :: _) ([(20, .arr .yes 2 ((tidyV ls).map encN))] ++ _) _
  refine WpOpsG.freeze 20 rfl ?_
  refine G.mv rfl ?_
  refine WpOpsG.nil ?_
  change WpG _ _ _ _ _
  refine WpG.seq ?_
  refine WpG.seq ?_
  refine WpG.reg ?_
  refine G.mv rfl ?_
  refine G.lenM rfl ?_
  refine G.bin rfl rfl rfl ?_
  refine WpOpsG.nil ?_
  change WpG _ _ _ _ _
  refine WpG.cond rfl (fun hq2 => ?_) (fun hq2 => ?_)
  ·(try simp only [zN] at hq2)
   refine WpG.seq ?_
   refine WpG.reg ?_
   refine G.mv rfl ?_
   refine G.mv rfl ?_
   refine WpOpsG.nil ?_
   change WpG _ _ _ _ _
   refine WpG.ownNil (g := 31) (k := 2) (w := 2) rfl rfl ?_
   refine WpG.freeze 31 rfl ?_
   refine WpG.ret ?_
   refine ⟨_, [], rfl, (hasP_le (by repeat (first | exact trivial | refine ⟨rfl, ?_⟩))), rfl, rfl, rfl, ?_⟩
   have e1 : ofV (Fo.enc (Fo.one x ks)) = [] := by unfold ofV; rw [if_pos hr0, hlvv, if_pos (by omega)]
   have e2 : ofE (Fo.enc (Fo.one x ks)) = 3 := by unfold ofE; rw [if_pos hr0, hlvv, if_pos (by omega)]
   rw [e1, e2]; exact ⟨rfl, rfl⟩
  ·(try simp only [zN] at hq2)
   refine WpG.skip ?_
   change WpG _ _ _ _ _
   refine WpG.seq ?_
   refine WpG.reg ?_
   refine G.mv rfl ?_
   refine G.mv rfl ?_
   refine G.mv rfl ?_
   refine WpOpsG.nil ?_
   change WpG _ _ _ _ _
   refine WpG.ret ?_
   refine ⟨_, [], rfl, (hasP_le (by repeat (first | exact trivial | refine ⟨rfl, ?_⟩))), rfl, rfl, rfl, ?_⟩
   have e1 : ofV (Fo.enc (Fo.one x ks)) = tidyV ls := by unfold ofV; rw [if_pos hr0, hlvv, if_neg (by omega)]
   have e2 : ofE (Fo.enc (Fo.one x ks)) = 0 := by unfold ofE; rw [if_pos hr0, hlvv, if_neg (by omega)]
   rw [e1, e2]; exact ⟨rfl, rfl⟩
theorem refSame_ok (xs ys : List Rn) (hx : xs.length ≤ 2 ^ 50) (hy : ys.length ≤ 2 ^ 50) : WpCallG A 14 [.fsl 2 (xs.map encN), .fsl 2 (ys.map encN)] [] (fun v H => v = .v (.bool (decide (xs = ys))) ∧ H = []) := by
 refine WpCallG.intro g14 rfl rfl ?_
 unfold af14
 change WpG _ _ _ _ _
 refine WpG.seq ?_
 refine WpG.reg ?_
 refine G.mv rfl ?_
 refine WpOpsG.nil ?_
 change WpG _ _ _ _ _
 refine WpG.seq ?_
 refine WpG.seq ?_
 refine WpG.reg ?_
 refine G.mv rfl ?_
 refine G.lenM rfl ?_
 refine G.mv rfl ?_
 refine G.lenM rfl ?_
 refine G.bin rfl rfl rfl ?_
 refine WpOpsG.nil ?_
 change WpG _ _ _ _ _
 refine WpG.cond rfl (fun hq1 => ?_) (fun hq1 => ?_)
 ·(try simp only [zN] at hq1)
  refine WpG.seq ?_
  refine WpG.reg ?_
  refine G.mv rfl ?_
  refine WpOpsG.nil ?_
  change WpG _ _ _ _ _
  refine WpG.ret ?_
  refine ⟨_, [], rfl, (hasP_le (by repeat (first | exact trivial | refine ⟨rfl, ?_⟩))), rfl, rfl, rfl, ?_⟩
  rw [decide_eq_false (fun h => by subst h; omega)]
  exact ⟨rfl, rfl⟩
 ·(try simp only [zN] at hq1)
  refine WpG.skip ?_
  change WpG _ _ _ _ _
  refine WpG.seq ?_
  refine WpG.seq ?_
  refine WpG.reg ?_
  refine G.mv rfl ?_
  refine G.lenM rfl ?_
  refine G.mv rfl ?_
  refine WpOpsG.nil ?_
  change WpG _ _ _ _ _
  refine WpG.block ?_
  refine WpG.loop (S := Nat) (fun i => [(0, .fsl 2 (xs.map encN)), (1, .fsl 2 (ys.map encN)), (4, .v (.bool false)), (12, .v (.int .i64 xs.length)), (13, .v (.int .i64 i))]) (fun _ => []) (fun i => i ≤ xs.length ∧ xs.take i = ys.take i) (fun i => xs.length - i) (fun s => ⟨rfl, rfl⟩) ?_ 0 ?_ (by repeat (first | exact trivial | refine ⟨rfl, ?_⟩)) (by repeat (first | exact trivial | refine ⟨rfl, ?_⟩)) rfl
  ·rintro i ⟨hI, hT⟩
   refine WpG.seq ?_
   refine WpG.reg ?_
   refine G.bin rfl rfl rfl ?_
   refine WpOpsG.nil ?_
   change WpG _ _ _ _ _
   refine WpG.seq ?_
   refine WpG.cond rfl (fun hq2 => ?_) (fun hq2 => ?_)
   ·(try simp only [zN] at hq2)
    refine WpG.skip ?_
    change WpG _ _ _ _ _
    refine WpG.seq ?_
    refine WpG.block ?_
    refine WpG.seq ?_
    refine WpG.reg ?_
    refine G.mv rfl ?_
    refine G.mv rfl ?_
    refine WpOpsG.nil ?_
    change WpG _ _ _ _ _
    refine WpG.seq ?_
    refine WpG.reg ?_
    refine G.mv rfl ?_
    refine G.mv rfl ?_
    refine G.iaddrN rfl rfl (List.getElem?_eq_getElem (by omega)) ?_
    refine G.loadNF rfl rfl ?_
    refine G.mv rfl ?_
    refine G.mv rfl ?_
    refine G.iaddrN rfl rfl (List.getElem?_eq_getElem (by omega)) ?_
    refine G.loadNF rfl rfl ?_
    refine G.beq rfl rfl rfl ?_
    refine WpOpsG.nil ?_
    change WpG _ _ _ _ _
    refine WpG.cond rfl (fun hq3 => ?_) (fun hq3 => ?_)
    ·(try simp only [zN] at hq3)
     refine WpG.seq ?_
     refine WpG.reg ?_
     refine G.mv rfl ?_
     refine WpOpsG.nil ?_
     change WpG _ _ _ _ _
     refine WpG.ret ?_
     refine ⟨_, [], rfl, (hasP_le (by repeat (first | exact trivial | refine ⟨rfl, ?_⟩))), rfl, rfl, rfl, ?_⟩
     rw [decide_eq_false (fun h => by subst h; exact rn_f hq3 rfl)]
     exact ⟨rfl, rfl⟩
    ·(try simp only [zN] at hq3)
     refine WpG.skip ?_
     change WpG _ _ _ _ _
     refine WpG.reg ?_
     refine G.addI rfl rfl (by omega) ?_
     refine G.mv rfl ?_
     refine WpOpsG.nil ?_
     have he : xs[i] = ys[i] := rn_t hq3
     exact ⟨i + 1, by omega, ⟨by omega, (take_stepG (by omega) (by omega) hT).2 he⟩, ⟨rfl, rfl, rfl, rfl, rfl, trivial⟩, trivial, rfl⟩
   ·(try simp only [zN] at hq2)
    refine WpG.exit ?_
    change WpG _ _ _ _ _
    refine WpG.seq ?_
    refine WpG.reg ?_
    refine G.mv rfl ?_
    refine WpOpsG.nil ?_
    change WpG _ _ _ _ _
    refine WpG.ret ?_
    refine ⟨_, [], rfl, (hasP_le (by repeat (first | exact trivial | refine ⟨rfl, ?_⟩))), rfl, rfl, rfl, ?_⟩
    have he : xs = ys := by
     have e1 : xs.take i = xs := take_allG (by omega)
     have e2 : ys.take i = ys := take_allG (by omega)
     rw [← e1, ← e2]; exact hT
    rw [decide_eq_true he]
    exact ⟨rfl, rfl⟩
  ·exact ⟨Nat.zero_le _, rfl⟩
theorem refRuns_ok (l : List Rn) (hn : l.length ≤ 2 ^ 40) : WpCallG A 9 [.fsl 2 (l.map encN)] [] (fun v H => v = .v (.bool (rightR l)) ∧ H = []) := by
 refine WpCallG.intro g9 rfl rfl ?_
 unfold af9
 change WpG _ _ _ _ _
 refine WpG.seq ?_
 refine WpG.reg ?_
 refine G.mv rfl ?_
 refine WpOpsG.nil ?_
 change WpG _ _ _ _ _
 refine WpG.seq ?_
 refine WpG.reg ?_
 refine G.mv rfl ?_
 refine WpOpsG.nil ?_
 change WpG _ _ _ _ _
 refine WpG.seq ?_
 refine WpG.seq ?_
 refine WpG.reg ?_
 refine G.mv rfl ?_
 refine G.lenM rfl ?_
 refine G.mv rfl ?_
 refine WpOpsG.nil ?_
 change WpG _ _ _ _ _
 refine WpG.block ?_
 refine WpG.loop (S := Nat) (fun i => [(0, .fsl 2 (l.map encN)), (3, .v (.int .i64 (min (tot (l.take i)) 4097))), (6, .fsl 2 (l.map encN)), (7, .v (.int .i64 (l.length))), (8, .v (.int .i64 i))]) (fun _ => []) (fun i => i ≤ l.length ∧ ∀ r ∈ l.take i, okR r = true) (fun i => l.length - i) (fun s => ⟨rfl, rfl⟩) ?_ 0 ?_ (by repeat (first | exact trivial | refine ⟨rfl, ?_⟩)) (by repeat (first | exact trivial | refine ⟨rfl, ?_⟩)) rfl
 ·rintro i ⟨hI, hT⟩
  have htb := tot_nn _ (okR_nn hT)
  refine WpG.seq ?_
  refine WpG.reg ?_
  refine G.bin rfl rfl rfl ?_
  refine WpOpsG.nil ?_
  change WpG _ _ _ _ _
  refine WpG.seq ?_
  refine WpG.cond rfl (fun hq1 => ?_) (fun hq1 => ?_)
  ·(try simp only [zN] at hq1)
   refine WpG.skip ?_
   change WpG _ _ _ _ _
   refine WpG.seq ?_
   refine WpG.block ?_
   refine WpG.seq ?_
   refine WpG.reg ?_
   refine G.iaddrN rfl rfl (List.getElem?_eq_getElem (by omega)) ?_
   refine G.loadNF rfl rfl ?_
   refine G.box (g := 10) rfl rfl rfl ?_
   refine G.storeB rfl rfl rfl rfl rfl rfl ?_
   refine WpOpsG.nil ?_
   change WpG _ _ _ _ _
   refine WpG.seq ?_
   refine WpG.seq ?_
   refine WpG.reg ?_
   refine G.faddrB rfl ?_
   refine G.load1B rfl rfl rfl ?_
   refine G.bin rfl rfl rfl ?_
   refine G.mv rfl ?_
   apply G.orS rfl rfl rfl rfl rfl rfl
   case hB =>
    intro hs2
    (try simp only [zN] at hs2)
    refine G.faddrB rfl ?_
    refine G.load1B rfl rfl rfl ?_
    refine G.bin rfl rfl rfl ?_
    refine WpOpsG.nil ?_
    exact ⟨rfl, (by repeat (first | exact LLe.refl _ | refine LLe.cons rfl ?_)), (by repeat (first | exact HLe.refl _ | refine HLe.cons rfl ?_)), rfl⟩
   refine G.mv rfl ?_
   apply G.orS rfl rfl rfl rfl rfl rfl
   case hB =>
    intro hs3
    (try simp only [zN] at hs3)
    refine G.faddrB rfl ?_
    refine G.load1B rfl rfl rfl ?_
    refine G.bin rfl rfl rfl ?_
    refine WpOpsG.nil ?_
    exact ⟨rfl, (by repeat (first | exact LLe.refl _ | refine LLe.cons rfl ?_)), (by repeat (first | exact HLe.refl _ | refine HLe.cons rfl ?_)), rfl⟩
   refine G.mv rfl ?_
   apply G.orS rfl rfl rfl rfl rfl rfl
   case hB =>
    intro hs4
    (try simp only [zN] at hs4)
    refine G.faddrB rfl ?_
    refine G.load1B rfl rfl rfl ?_
    refine G.bin rfl rfl rfl ?_
    refine WpOpsG.nil ?_
    exact ⟨rfl, (by repeat (first | exact LLe.refl _ | refine LLe.cons rfl ?_)), (by repeat (first | exact HLe.refl _ | refine HLe.cons rfl ?_)), rfl⟩
   refine WpOpsG.nil ?_
   change WpG _ _ _ _ _
   refine WpG.cond rfl (fun hq5 => ?_) (fun hq5 => ?_)
   ·(try simp only [zN] at hq5)
    refine WpG.seq ?_
    refine WpG.reg ?_
    refine G.mv rfl ?_
    refine WpOpsG.nil ?_
    change WpG _ _ _ _ _
    refine WpG.ret ?_
    refine ⟨_, [], rfl, (hasP_le (by repeat (first | exact trivial | refine ⟨rfl, ?_⟩))), rfl, rfl, rfl, ?_⟩
    have hlt : i < l.length := by omega
    have hno : ¬ okR l[i] = true := fun h => by
     unfold okR partV at h
     simp only [Bool.and_eq_true, decide_eq_true_eq] at h
     omega
    have ha : l.all okR = false := by rw [List.all_eq_false]; exact ⟨l[i], List.getElem_mem hlt, hno⟩
    unfold rightR
    rw [ha]
    exact ⟨rfl, rfl⟩
   ·(try simp only [zN] at hq5)
    refine WpG.skip ?_
    change WpG _ _ _ _ _
    have hok1 : 1 ≤ l[i].n ∧ l[i].n ≤ 4096 := by omega
    refine WpG.reg ?_
    refine G.mv rfl ?_
    refine G.faddrB rfl ?_
    refine G.load1B rfl rfl rfl ?_
    refine G.addI rfl rfl (by omega) ?_
    refine G.mn rfl rfl ?_
    refine G.mv rfl ?_
    refine WpOpsG.nil ?_
    change WpG _ _ _ _ _
    refine WpG.reg ?_
    refine G.addI rfl rfl (by omega) ?_
    refine G.mv rfl ?_
    refine WpOpsG.nil ?_
    have hlt : i < l.length := by omega
    have hok : okR l[i] = true := by
     unfold okR partV; simp only [Bool.and_eq_true, decide_eq_true_eq]; omega
    have hok1 := okR_n hok
    have hts := List.take_succ_eq_append_getElem hlt
    refine ⟨i + 1, by omega, ⟨by omega, ?_⟩, ⟨rfl, ?_, rfl, rfl, rfl, trivial⟩, (by repeat (first | exact trivial | refine ⟨rfl, ?_⟩)), rfl⟩
    ·intro r hr
     rw [hts] at hr
     rcases List.mem_append.1 hr with h | h
     ·exact hT r h
     ·rw [List.mem_singleton.1 h]; exact hok
    ·show some (GV.v (.int .i64 (min (min (tot (l.take i)) 4097 + l[i].n) 4097))) = _
     rw [hts, tot_snoc]; congr 3; omega
  ·(try simp only [zN] at hq1)
   refine WpG.exit ?_
   change WpG _ _ _ _ _
   refine WpG.seq ?_
   refine WpG.reg ?_
   refine G.mv rfl ?_
   refine G.lenM rfl ?_
   refine G.bin rfl rfl rfl ?_
   refine G.mv rfl ?_
   apply G.andS rfl rfl rfl rfl rfl rfl
   case hB =>
    intro hs6
    (try simp only [zN] at hs6)
    refine G.mv rfl ?_
    refine G.lenM rfl ?_
    refine G.bin rfl rfl rfl ?_
    refine WpOpsG.nil ?_
    exact ⟨rfl, (by repeat (first | exact LLe.refl _ | refine LLe.cons rfl ?_)), (by repeat (first | exact HLe.refl _ | refine HLe.cons rfl ?_)), rfl⟩
   refine G.mv rfl ?_
   apply G.andS rfl rfl rfl rfl rfl rfl
   case hB =>
    intro hs7
    (try simp only [zN] at hs7)
    refine G.mv rfl ?_
    refine G.bin rfl rfl rfl ?_
    refine WpOpsG.nil ?_
    exact ⟨rfl, (by repeat (first | exact LLe.refl _ | refine LLe.cons rfl ?_)), (by repeat (first | exact HLe.refl _ | refine HLe.cons rfl ?_)), rfl⟩
   refine G.mv rfl ?_
   refine WpOpsG.nil ?_
   change WpG _ _ _ _ _
   refine WpG.ret ?_
   refine ⟨_, [], rfl, (hasP_le (by repeat (first | exact trivial | refine ⟨rfl, ?_⟩))), rfl, rfl, rfl, ?_⟩
   have e : l.take i = l := take_all (by omega)
   have ha : l.all okR = true := List.all_eq_true.2 (by rw [e] at hT; exact hT)
   have e1 : decide ((l.length : Int) ≥ 1) = decide (0 < l.length) := decide_eq_decide.2 (by omega)
   have e2 : decide ((l.length : Int) ≤ 96) = decide (l.length ≤ 96) := decide_eq_decide.2 (by omega)
   have e3 : decide (min (tot l) 4097 ≤ 4096) = decide (tot l ≤ 4096) := decide_eq_decide.2 (by omega)
   unfold rightR
   rw [ha, Bool.true_and]
   refine ⟨?_, rfl⟩
   show GV.v (.bool _) = GV.v (.bool _)
   rw [e, e1, e2, e3]
 ·exact ⟨Nat.zero_le _, (fun r h => by cases h)⟩
theorem truns_ok (t : List Int) (a : Nat) (parts most : Int) (ht : t.length ≤ 2 ^ 50) (hi : ∀ x ∈ t, i64 x) (ha : a ≤ t.length) (hp : 0 ≤ parts ∧ parts ≤ 2 ^ 40) (hm : 1 ≤ most ∧ most ≤ 2 ^ 20) : WpCallG A 6 [.bptr 0 0, .v (.int .i64 parts), .v (.int .i64 most)] [(0, tbox t a)] (fun v H => v = .fsl 2 ((tapeRuns t a parts most).1.map encN) ∧ H = [(0, tbox t (tapeRuns t a parts most).2)]) := by
 have h1 := nx_rng t a most
 obtain ⟨kk, hkk⟩ : ∃ kk, kk = (1 + nx t a most).toNat := ⟨_, rfl⟩
 refine WpCallG.intro g6 rfl rfl ?_
 unfold af6
 change WpG _ _ _ _ _
 refine WpG.seq ?_
 refine WpG.reg ?_
 refine G.mv rfl ?_
 refine WpOpsG.nil ?_
 change WpG _ _ _ _ _
 refine WpG.seq ?_
 refine WpG.reg ?_
 refine G.mv rfl ?_
 refine WpOpsG.nil ?_
 change WpG _ _ _ _ _
 refine WpG.seq ?_
 refine WpG.seq ?_
 refine WpG.reg ?_
 refine G.mv rfl ?_
 refine G.mv rfl ?_
 refine G.call (P := [(0, tbox t a)]) rfl (by repeat (first | exact trivial | refine ⟨rfl, ?_⟩)) rfl rfl (next_ok t a most ht hi ha (by omega)) ?_
 rintro _ _ ⟨rfl, rfl⟩
 refine ⟨rfl, ?_⟩
 change WpOpsG _ _ ((11, _) :: _) ((0, tbox t (na t a most)) :: _) _
 refine G.addI rfl rfl (by omega) ?_
 refine G.mv rfl ?_
 refine WpOpsG.nil ?_
 change WpG _ _ _ _ _
 refine WpG.block ?_
 have e8 : 1 + nx t a most = (kk : Int) := by omega
 rw [e8]
 refine WpG.ownNil (g := 30) (k := 7) (w := 2) rfl rfl ?_
 refine WpG.loop (S := Nat × Nat × List Rn) (fun s => [(0, .bptr 0 0), (1, .v (.int .i64 parts)), (7, .osl 30), (8, .v (.int .i64 s.1))]) (fun s => [(30, .arr .yes 2 (s.2.2.map encN)), (0, tbox t s.2.1)]) (fun s => s.2.1 ≤ t.length ∧ s.1 + s.2.2.length = kk ∧ rgo t parts s.1 s.2.1 s.2.2 = tapeRuns t a parts most) (fun s => s.1) (fun s => ⟨rfl, rfl⟩) ?_ (kk, na t a most, []) ?_ (by repeat (first | exact trivial | refine ⟨rfl, ?_⟩)) (by repeat (first | exact trivial | refine ⟨rfl, ?_⟩)) rfl
 ·rintro ⟨k, b, out⟩ ⟨hb, hk, hT⟩
  dsimp only at hb hk hT ⊢
  refine WpG.seq ?_
  refine WpG.seq ?_
  refine WpG.reg ?_
  refine G.mv rfl ?_
  refine G.bin rfl rfl rfl ?_
  refine WpOpsG.nil ?_
  change WpG _ _ _ _ _
  refine WpG.cond rfl (fun hq1 => ?_) (fun hq1 => ?_)
  ·(try simp only [zN] at hq1)
   refine WpG.skip ?_
   change WpG _ _ _ _ _
   refine WpG.seq ?_
   refine WpG.block ?_
   refine WpG.reg ?_
   refine G.mv rfl ?_
   refine G.mv rfl ?_
   refine G.mv rfl ?_
   refine G.addI rfl rfl (by omega) ?_
   refine G.call (P := [(0, tbox t b)]) rfl (by repeat (first | exact trivial | refine ⟨rfl, ?_⟩)) rfl rfl (next_ok t b (parts + 1) ht hi hb (by omega)) ?_
   rintro _ _ ⟨rfl, rfl⟩
   refine ⟨rfl, ?_⟩
   change WpOpsG _ _ ((21, _) :: _) _ _
   have h2 := nx_rng t b (parts + 1)
   have hb1 : na t b (parts + 1) ≤ t.length := na_le hb
   refine G.subI rfl rfl (by omega) ?_
   refine G.mv rfl ?_
   refine G.call (P := [(0, tbox t (na t b (parts + 1)))]) rfl (by repeat (first | exact trivial | refine ⟨rfl, ?_⟩)) rfl rfl (next_ok t (na t b (parts + 1)) 4 ht hi hb1 (by omega)) ?_
   rintro _ _ ⟨rfl, rfl⟩
   refine ⟨rfl, ?_⟩
   change WpOpsG _ _ ((24, _) :: _) _ _
   have h3 := nx_rng t (na t b (parts + 1)) 4
   refine G.addI rfl rfl (by omega) ?_
   refine G.build rfl ?_
   refine G.bsliceF rfl rfl rfl ?_
   refine G.app rfl rfl rfl rfl trivial (by (simp only [List.length_map, List.length_append, List.length_cons, List.length_nil, List.length_replicate, List.length_take, List.length_drop, List.length_set]; omega)) ?_
   refine G.mv rfl ?_
   refine WpOpsG.nil ?_
   change WpG _ _ _ _ _
   refine WpG.reg ?_
   refine G.mv rfl ?_
   refine G.subI rfl rfl (by omega) ?_
   refine G.mv rfl ?_
   refine WpOpsG.nil ?_
   obtain ⟨k, rfl⟩ : ∃ j, k = j + 1 := ⟨k - 1, by omega⟩
   refine ⟨(k, na t (na t b (parts + 1)) 4, out ++ [⟨nx t b (parts + 1) - 1, 1 + nx t (na t b (parts + 1)) 4⟩]), by show k < k + 1; omega, ⟨na_le hb1, ?_, by rw [← hT, rgo]⟩, ⟨rfl, rfl, rfl, ?_, trivial⟩, ⟨?_, rfl, trivial⟩, rfl⟩
   ·show k + (out ++ [_]).length = kk
    rw [List.length_append]; simp only [List.length_cons, List.length_nil]; omega
   ·show some (GV.v (.int .i64 (((k + 1 : Nat) : Int) - 1))) = some (GV.v (.int .i64 (k : Int)))
    congr 3; omega
   ·rw [List.map_append]; rfl
  ·(try simp only [zN] at hq1)
   refine WpG.exit ?_
   change WpG _ _ _ _ _
   refine WpG.seq ?_
   refine WpG.reg ?_
   refine G.mv rfl ?_
   refine G.mv rfl ?_
   refine WpOpsG.nil ?_
   change WpG _ _ _ _ _
   refine WpG.freeze 30 rfl ?_
   refine WpG.ret ?_
   refine ⟨_, [(0, tbox t b)], rfl, (hasP_le (by repeat (first | exact trivial | refine ⟨rfl, ?_⟩))), rfl, rfl, rfl, ?_⟩
   obtain rfl : k = 0 := by omega
   rw [← hT]
   exact ⟨rfl, rfl⟩
 ·refine ⟨na_le ha, by simp, ?_⟩
  subst hkk; rfl
end Go.AM.L6
