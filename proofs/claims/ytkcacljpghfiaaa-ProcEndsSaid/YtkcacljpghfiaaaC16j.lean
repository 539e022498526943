/- Contracts of the functions that the statement reaches. No condition. -/
import Derived.Test.YtkcacljpghfiaaaC16g
set_option linter.all false
set_option maxRecDepth 10000
namespace Go.AM.L16
open Go.AM.PL
set_option maxHeartbeats 1000000 in
theorem procEnds_ok (pr en wk : List Int) (now : Int) (hpr : pr.length ≤ 2 ^ 50) (hen : en.length ≤ 2 ^ 50) (hwk : wk.length ≤ 2 ^ 50) : WpCallG A 6 [.fsl 1 (pr.map encK), .fsl 1 (en.map encK), .fsl 1 (wk.map encK), .v (.int .i64 now)] [] (fun v H => v = .v (.bool true) ∧ H = []) := by
 refine WpCallG.intro g6 rfl rfl ?_
 unfold af6
 change WpG _ _ _ _ _
 refine WpG.seq ?_
 refine WpG.reg ?_
 refine G.mv rfl ?_
 refine WpOpsG.nil ?_
 change WpG _ _ _ _ _
 refine WpG.seq ?_
 refine WpG.reg ?_
 refine G.mv rfl ?_
 refine WpOpsG.nil ?_
 change WpG _ _ _ _ _
 refine WpG.seq ?_
 refine WpG.seq ?_
 refine WpG.reg ?_
 refine G.mv rfl ?_
 refine WpOpsG.nil ?_
 change WpG _ _ _ _ _
 refine WpG.block ?_
 refine WpG.ownNil (g := 20) (k := 9) (w := 2) rfl rfl ?_
 refine WpG.loop (S := Nat) (fun i => [(0, .fsl 1 (pr.map encK)), (1, .fsl 1 (en.map encK)), (2, .fsl 1 (wk.map encK)), (3, .v (.int .i64 now)), (8, .v (.bool false)), (9, .osl 20), (10, .v (.int .i64 (i : Int)))]) (fun i => [(20, .arr .yes 2 ((ordL pr i).map encSp))]) (fun i => i ≤ pr.length ∧ i ≤ 3) (fun i => 3 - i) (fun s => ⟨rfl, rfl⟩) ?_ 0 ?_ (by repeat (first | exact trivial | refine ⟨rfl, ?_⟩)) (by repeat (first | exact trivial | refine ⟨rfl, ?_⟩)) rfl
 ·rintro i ⟨hI, hI3⟩
  refine WpG.seq ?_
  refine WpG.seq ?_
  refine WpG.reg ?_
  refine G.mv rfl ?_
  refine G.mv rfl ?_
  refine G.lenM rfl ?_
  refine G.bin rfl rfl rfl ?_
  refine G.mv rfl ?_
  apply G.andS rfl rfl rfl rfl rfl rfl
  case hB =>
   intro hs1
   (try simp only [zN] at hs1)
   refine G.mv rfl ?_
   refine G.bin rfl rfl rfl ?_
   refine WpOpsG.nil ?_
   exact ⟨rfl, (by repeat (first | exact LLe.refl _ | refine LLe.cons rfl ?_)), (by repeat (first | exact HLe.refl _ | refine HLe.cons rfl ?_)), rfl⟩
  refine WpOpsG.nil ?_
  change WpG _ _ _ _ _
  refine WpG.cond rfl (fun hq2 => ?_) (fun hq2 => ?_)
  ·(try simp only [zN] at hq2)
   refine WpG.skip ?_
   change WpG _ _ _ _ _
   refine WpG.seq ?_
   refine WpG.block ?_
   refine WpG.reg ?_
   refine G.mv rfl ?_
   refine G.mv rfl ?_
   refine G.mv rfl ?_
   refine G.iaddrN rfl rfl (List.getElem?_eq_getElem (by omega)) ?_
   refine G.load1F rfl rfl ?_
   refine G.andK rfl rfl ?_
   refine G.build rfl ?_
   refine G.bsliceF rfl rfl rfl ?_
   change WpOpsG _ _ ((33, .fsl 2 (([((0 : Int), andI .i64 pr[i] 7)] : List Sp).map encSp)) :: _) _ _
   refine G.app rfl rfl rfl rfl trivial (by rw [List.length_map]; have := ordL_len (pr := pr) (i := i); show (_ + 1) * 16 ≤ 2 ^ 47; omega) ?_
   rw [← List.map_append]
   refine G.mv rfl ?_
   refine WpOpsG.nil ?_
   change WpG _ _ _ _ _
   refine WpG.reg ?_
   refine G.mv rfl ?_
   refine G.addI rfl rfl (by omega) ?_
   refine G.mv rfl ?_
   refine WpOpsG.nil ?_
   refine ⟨i + 1, by omega, ⟨by omega, by omega⟩, ⟨rfl, rfl, rfl, rfl, rfl, rfl, rfl, trivial⟩, ⟨?_, trivial⟩, rfl⟩
   rw [ordL_snoc (by omega)]; rfl
  ·(try simp only [zN] at hq2)
   refine WpG.exit ?_
   change WpG _ _ _ _ _
   refine WpG.seq ?_
   have hLl := ordL_len (pr := pr) (i := i)
   refine WpG.freeze 20 rfl ?_
   obtain ⟨L, hL⟩ : ∃ L, ordL pr i = L := ⟨_, rfl⟩
   rw [hL] at hLl ⊢
   rcases Nat.eq_zero_or_pos L.length with hz | hz
   ·change WpG _ _ _ _ _
    refine WpG.reg ?_
    refine G.mv rfl ?_
    refine G.call0 rfl rfl (newN16_ok L (by omega) (by omega)) ?_
    rintro _ _ ⟨rfl, rfl⟩
    refine ⟨rfl, ?_⟩
    change WpOpsG _ _ ((36, _) :: _) _ _
    refine G.mv rfl ?_
    refine WpOpsG.nil ?_
    change WpG _ _ _ _ _
    refine WpG.seq ?_
    refine WpG.seq ?_
    refine WpG.reg ?_
    refine G.mv rfl ?_
    refine G.lenM rfl ?_
    refine G.bin rfl rfl rfl ?_
    refine WpOpsG.nil ?_
    change WpG _ _ _ _ _
    refine WpG.cond rfl (fun hq3 => ?_) (fun hq3 => ?_)
    ·(try simp only [zN] at hq3)
     refine WpG.seq ?_
     refine WpG.reg ?_
     refine G.mv rfl ?_
     refine G.eqnilP rfl ?_
     refine G.mv rfl ?_
     refine WpOpsG.known 42 true rfl rfl ?_
     refine G.call0 rfl rfl (known16_ok) ?_
     rintro _ _ ⟨rfl, rfl⟩
     refine ⟨rfl, ?_⟩
     change WpOpsG _ _ ((43, _) :: _) _ _
     refine G.pickT rfl rfl ?_
     refine G.mv rfl ?_
     refine WpOpsG.nil ?_
     change WpG _ _ _ _ _
     refine WpG.ret ?_
     refine ⟨_, [], rfl, (hasP_le (by repeat (first | exact trivial | refine ⟨rfl, ?_⟩))), rfl, rfl, rfl, ?_⟩
     exact ⟨rfl, rfl⟩
    ·(try simp only [zN] at hq3)
     exfalso; omega
   ·change WpG _ _ _ _ _
    refine WpG.reg ?_
    refine G.mv rfl ?_
    refine G.call0 rfl rfl ((new16_ok L (by omega) (by omega)).ren [(0, 21), (1, 22)]) ?_
    rintro _ _ ⟨_, _, ⟨rfl, rfl⟩, rfl, rfl⟩
    change newOk _ _ [(21, _), (22, _)] = true ∧ _
    refine ⟨rfl, ?_⟩
    change WpOpsG _ _ ((36, .bptr 21 0) :: _) ([(21, .box [.osl 22]), (22, .arr .yes 3 ((newP L).map encPr))] ++ _) _
    refine G.mv rfl ?_
    refine WpOpsG.nil ?_
    change WpG _ _ _ _ _
    refine WpG.seq ?_
    refine WpG.seq ?_
    refine WpG.reg ?_
    refine G.mv rfl ?_
    refine G.lenM rfl ?_
    refine G.bin rfl rfl rfl ?_
    refine WpOpsG.nil ?_
    change WpG _ _ _ _ _
    refine WpG.cond rfl (fun hq4 => ?_) (fun hq4 => ?_)
    ·(try simp only [zN] at hq4)
     exfalso; omega
    ·(try simp only [zN] at hq4)
     refine WpG.skip ?_
     change WpG _ _ _ _ _
     refine WpG.seq ?_
     refine WpG.seq ?_
     refine WpG.reg ?_
     refine G.mv rfl ?_
     refine G.eqnilB rfl ?_
     refine WpOpsG.nil ?_
     change WpG _ _ _ _ _
     refine WpG.cond rfl (fun hq5 => absurd hq5 (by decide)) (fun hq5 => ?_)
     refine WpG.skip ?_
     change WpG _ _ _ _ _
     refine WpG.seq ?_
     refine WpG.reg ?_
     refine G.mv rfl ?_
     refine G.lend rfl rfl (pick_ok (newP L) 0 (by rw [newP_len]; omega)) ?_
     rintro _ _ ⟨rfl, rfl⟩
     refine ⟨rfl, trivial, rfl, ?_⟩
     change WpOpsG _ _ ((48, _) :: _) _ _
     refine G.mv rfl ?_
     refine WpOpsG.nil ?_
     change WpG _ _ _ _ _
     refine WpG.seq ?_
     refine WpG.seq ?_
     refine WpG.reg ?_
     refine G.mv rfl ?_
     refine G.lenM rfl ?_
     refine G.mv rfl ?_
     refine WpOpsG.nil ?_
     change WpG _ _ _ _ _
     refine WpG.block ?_
     refine WpG.loop (S := Nat × List Pr) (fun s => [(1, .fsl 1 (en.map encK)), (2, .fsl 1 (wk.map encK)), (3, .v (.int .i64 now)), (8, .v (.bool false)), (9, .fsl 2 (L.map encSp)), (11, .bptr 21 0), (12, .v (.int .i64 (pickV (newP L) 0))), (50, .v (.int .i64 (L.length : Int))), (51, .v (.int .i64 (s.1 : Int)))]) (fun s => [(21, .box [.osl 22]), (22, .arr .yes 3 ((s.2).map encPr))]) (fun s => s.1 ≤ L.length ∧ SameP L s.2) (fun s => L.length - s.1) (fun s => ⟨rfl, rfl⟩) ?_ (0, newP L) ?_ (by repeat (first | exact trivial | refine ⟨rfl, ?_⟩)) (by repeat (first | exact trivial | refine ⟨rfl, ?_⟩)) rfl
     ·rintro ⟨i, ps⟩ ⟨hI, hsp⟩
      dsimp only at hI hsp ⊢
      have hsl := hsp.1
      refine WpG.seq ?_
      refine WpG.reg ?_
      refine G.bin rfl rfl rfl ?_
      refine WpOpsG.nil ?_
      change WpG _ _ _ _ _
      refine WpG.seq ?_
      refine WpG.cond rfl (fun hq6 => ?_) (fun hq6 => ?_)
      ·(try simp only [zN] at hq6)
       refine WpG.skip ?_
       change WpG _ _ _ _ _
       refine WpG.seq ?_
       refine WpG.block ?_
       refine WpG.seq ?_
       refine WpG.reg ?_
       refine G.mv rfl ?_
       refine G.mv rfl ?_
       refine WpOpsG.nil ?_
       change WpG _ _ _ _ _
       refine WpG.seq ?_
       refine WpG.seq ?_
       refine WpG.reg ?_
       refine G.mv rfl ?_
       refine G.mv rfl ?_
       refine G.lenM rfl ?_
       refine G.bin rfl rfl rfl ?_
       refine WpOpsG.nil ?_
       change WpG _ _ _ _ _
       refine WpG.cond rfl (fun hq7 => ?_) (fun hq7 => ?_)
       ·(try simp only [zN] at hq7)
        refine WpG.reg ?_
        refine G.mv rfl ?_
        refine G.mv rfl ?_
        refine G.mv rfl ?_
        refine G.mv rfl ?_
        refine G.iaddrN rfl rfl (List.getElem?_eq_getElem (by omega)) ?_
        refine G.load1F rfl rfl ?_
        refine G.andK rfl rfl ?_
        refine G.call (P := [(21, .box [.osl 22]), (22, .arr .yes 3 ((ps).map encPr))]) rfl (by repeat (first | exact trivial | refine ⟨rfl, ?_⟩)) rfl rfl ((sleep16_ok ps (i : Int) (andI .i64 wk[i] 31) (by omega)).ren [(0, 21), (1, 22)]) ?_
        rintro _ _ ⟨_, _, ⟨rfl, rfl⟩, rfl, rfl⟩
        change newOk _ _ [(21, _), (22, _)] = true ∧ _
        refine ⟨rfl, ?_⟩
        change WpOpsG _ _ ((65, _) :: _) ([(21, .box [.osl 22]), (22, .arr .yes 3 ((sleepV ps (i : Int) (andI .i64 wk[i] 31)).map encPr))] ++ _) _
        obtain ⟨ps, hps⟩ : ∃ z, z = sleepV ps (i : Int) (andI .i64 wk[i] 31) := ⟨_, rfl⟩
        have hsp : SameP L ps := by rw [hps]; exact same_sleep hsp (by omega)
        have hsl := hsp.1
        rw [← hps]
        refine WpOpsG.nil ?_
        change WpG _ _ _ _ _
        refine WpG.seq ?_
        refine WpG.reg ?_
        refine G.mv rfl ?_
        refine G.mv rfl ?_
        refine G.lenM rfl ?_
        refine G.bin rfl rfl rfl ?_
        refine G.mv rfl ?_
        apply G.andS rfl rfl rfl rfl rfl rfl
        case hB =>
         intro hs8
         (try simp only [zN] at hs8)
         refine G.mv rfl ?_
         refine G.mv rfl ?_
         refine G.iaddrM rfl rfl (by omega) (gd17 (0 : Int) (by omega)) ?_
         rw [Int.toNat_natCast]
         refine G.load1F rfl rfl ?_
         refine G.andK rfl rfl ?_
         refine G.bin rfl rfl rfl ?_
         refine WpOpsG.nil ?_
         exact ⟨rfl, (by repeat (first | exact LLe.refl _ | refine LLe.cons rfl ?_)), (by repeat (first | exact HLe.refl _ | refine HLe.cons rfl ?_)), rfl⟩
        refine WpOpsG.nil ?_
        change WpG _ _ _ _ _
        refine WpG.cond rfl (fun hq9 => ?_) (fun hq9 => ?_)
        ·(try simp only [zN] at hq9)
         refine WpG.reg ?_
         refine G.mv rfl ?_
         refine G.mv rfl ?_
         refine G.call (P := [(21, .box [.osl 22]), (22, .arr .yes 3 ((ps).map encPr))]) rfl (by repeat (first | exact trivial | refine ⟨rfl, ?_⟩)) rfl rfl ((end16_ok (ps) (i : Int) (by omega)).ren [(0, 21), (1, 22)]) ?_
         rintro _ _ ⟨_, _, ⟨rfl, rfl⟩, rfl, rfl⟩
         change newOk _ _ [(21, _), (22, _)] = true ∧ _
         refine ⟨rfl, ?_⟩
         change WpOpsG _ _ ((80, _) :: _) ([(21, .box [.osl 22]), (22, .arr .yes 3 ((endV (ps) (i : Int)).map encPr))] ++ _) _
         refine WpOpsG.nil ?_
         change WpG _ _ _ _ _
         refine WpG.reg ?_
         refine G.addI rfl rfl (by omega) ?_
         refine G.mv rfl ?_
         refine WpOpsG.nil ?_
         first
          | exact ⟨(i + 1, endV ps (i : Int)), by show _ - (i + 1) < _ - i; omega, ⟨by dsimp only; omega, same_end hsp (by omega)⟩, ⟨rfl, rfl, rfl, rfl, rfl, rfl, rfl, rfl, rfl, trivial⟩, ⟨rfl, rfl, trivial⟩, rfl⟩
          | exact ⟨(i + 1, ps), by show _ - (i + 1) < _ - i; omega, ⟨by dsimp only; omega, hsp⟩, ⟨rfl, rfl, rfl, rfl, rfl, rfl, rfl, rfl, rfl, trivial⟩, ⟨rfl, rfl, trivial⟩, rfl⟩
        ·(try simp only [zN] at hq9)
         refine WpG.skip ?_
         change WpG _ _ _ _ _
         refine WpG.reg ?_
         refine G.addI rfl rfl (by omega) ?_
         refine G.mv rfl ?_
         refine WpOpsG.nil ?_
         first
          | exact ⟨(i + 1, endV ps (i : Int)), by show _ - (i + 1) < _ - i; omega, ⟨by dsimp only; omega, same_end hsp (by omega)⟩, ⟨rfl, rfl, rfl, rfl, rfl, rfl, rfl, rfl, rfl, trivial⟩, ⟨rfl, rfl, trivial⟩, rfl⟩
          | exact ⟨(i + 1, ps), by show _ - (i + 1) < _ - i; omega, ⟨by dsimp only; omega, hsp⟩, ⟨rfl, rfl, rfl, rfl, rfl, rfl, rfl, rfl, rfl, trivial⟩, ⟨rfl, rfl, trivial⟩, rfl⟩
       ·(try simp only [zN] at hq7)
        refine WpG.skip ?_
        change WpG _ _ _ _ _
        refine WpG.seq ?_
        refine WpG.reg ?_
        refine G.mv rfl ?_
        refine G.mv rfl ?_
        refine G.lenM rfl ?_
        refine G.bin rfl rfl rfl ?_
        refine G.mv rfl ?_
        apply G.andS rfl rfl rfl rfl rfl rfl
        case hB =>
         intro hs10
         (try simp only [zN] at hs10)
         refine G.mv rfl ?_
         refine G.mv rfl ?_
         refine G.iaddrM rfl rfl (by omega) (gd17 (0 : Int) (by omega)) ?_
         rw [Int.toNat_natCast]
         refine G.load1F rfl rfl ?_
         refine G.andK rfl rfl ?_
         refine G.bin rfl rfl rfl ?_
         refine WpOpsG.nil ?_
         exact ⟨rfl, (by repeat (first | exact LLe.refl _ | refine LLe.cons rfl ?_)), (by repeat (first | exact HLe.refl _ | refine HLe.cons rfl ?_)), rfl⟩
        refine WpOpsG.nil ?_
        change WpG _ _ _ _ _
        refine WpG.cond rfl (fun hq11 => ?_) (fun hq11 => ?_)
        ·(try simp only [zN] at hq11)
         refine WpG.reg ?_
         refine G.mv rfl ?_
         refine G.mv rfl ?_
         refine G.call (P := [(21, .box [.osl 22]), (22, .arr .yes 3 ((ps).map encPr))]) rfl (by repeat (first | exact trivial | refine ⟨rfl, ?_⟩)) rfl rfl ((end16_ok (ps) (i : Int) (by omega)).ren [(0, 21), (1, 22)]) ?_
         rintro _ _ ⟨_, _, ⟨rfl, rfl⟩, rfl, rfl⟩
         change newOk _ _ [(21, _), (22, _)] = true ∧ _
         refine ⟨rfl, ?_⟩
         change WpOpsG _ _ ((80, _) :: _) ([(21, .box [.osl 22]), (22, .arr .yes 3 ((endV (ps) (i : Int)).map encPr))] ++ _) _
         refine WpOpsG.nil ?_
         change WpG _ _ _ _ _
         refine WpG.reg ?_
         refine G.addI rfl rfl (by omega) ?_
         refine G.mv rfl ?_
         refine WpOpsG.nil ?_
         first
          | exact ⟨(i + 1, endV ps (i : Int)), by show _ - (i + 1) < _ - i; omega, ⟨by dsimp only; omega, same_end hsp (by omega)⟩, ⟨rfl, rfl, rfl, rfl, rfl, rfl, rfl, rfl, rfl, trivial⟩, ⟨rfl, rfl, trivial⟩, rfl⟩
          | exact ⟨(i + 1, ps), by show _ - (i + 1) < _ - i; omega, ⟨by dsimp only; omega, hsp⟩, ⟨rfl, rfl, rfl, rfl, rfl, rfl, rfl, rfl, rfl, trivial⟩, ⟨rfl, rfl, trivial⟩, rfl⟩
        ·(try simp only [zN] at hq11)
         refine WpG.skip ?_
         change WpG _ _ _ _ _
         refine WpG.reg ?_
         refine G.addI rfl rfl (by omega) ?_
         refine G.mv rfl ?_
         refine WpOpsG.nil ?_
         first
          | exact ⟨(i + 1, endV ps (i : Int)), by show _ - (i + 1) < _ - i; omega, ⟨by dsimp only; omega, same_end hsp (by omega)⟩, ⟨rfl, rfl, rfl, rfl, rfl, rfl, rfl, rfl, rfl, trivial⟩, ⟨rfl, rfl, trivial⟩, rfl⟩
          | exact ⟨(i + 1, ps), by show _ - (i + 1) < _ - i; omega, ⟨by dsimp only; omega, hsp⟩, ⟨rfl, rfl, rfl, rfl, rfl, rfl, rfl, rfl, rfl, trivial⟩, ⟨rfl, rfl, trivial⟩, rfl⟩
      ·(try simp only [zN] at hq6)
       refine WpG.exit ?_
       change WpG _ _ _ _ _
       refine WpG.seq ?_
       refine WpG.reg ?_
       refine G.mv rfl ?_
       refine G.mv rfl ?_
       refine G.andK rfl rfl ?_
       obtain ⟨q, eq, hq⟩ := and_rng1 now 31 (by decide)
       rw [show andI .i64 now 31 = (q : Int) from eq]
       refine G.lend rfl rfl (pick_ok ps (q : Int) (by omega)) ?_
       rintro _ _ ⟨rfl, rfl⟩
       refine ⟨rfl, trivial, rfl, ?_⟩
       change WpOpsG _ _ ((85, _) :: _) _ _
       have hzr := pick_rng (ps := ps) (now := (q : Int))
       obtain ⟨z, hzE⟩ : ∃ z, pickV ps (q : Int) = z := ⟨_, rfl⟩
       rw [hzE] at hzr ⊢
       refine G.mv rfl ?_
       refine WpOpsG.nil ?_
       change WpG _ _ _ _ _
       refine WpG.seq ?_
       refine WpG.seq ?_
       refine WpG.reg ?_
       refine G.mv rfl ?_
       refine G.bin rfl rfl rfl ?_
       refine G.mv rfl ?_
       apply G.andS rfl rfl rfl rfl rfl rfl
       case hB =>
        intro hs12
        (try simp only [zN] at hs12)
        refine G.mv rfl ?_
        refine G.mv rfl ?_
        refine G.lend rfl rfl (ended16_ok ps z (by omega)) ?_
        rintro _ _ ⟨rfl, rfl⟩
        refine ⟨rfl, trivial, rfl, ?_⟩
        change WpOpsG _ _ ((91, _) :: _) _ _
        refine G.mv rfl ?_
        apply G.orS rfl rfl rfl rfl rfl rfl
        case hB =>
         intro hs13
         (try simp only [zN] at hs13)
         refine G.mv rfl ?_
         refine G.mv rfl ?_
         refine G.lend rfl rfl (wake16_ok ps z (by omega)) ?_
         rintro _ _ ⟨rfl, rfl⟩
         refine ⟨rfl, trivial, rfl, ?_⟩
         change WpOpsG _ _ ((95, _) :: _) _ _
         refine G.mv rfl ?_
         refine G.andK rfl rfl ?_
         rw [show andI .i64 now 31 = (q : Int) from eq]
         refine G.bin rfl rfl rfl ?_
         refine WpOpsG.nil ?_
         exact ⟨rfl, (by repeat (first | exact LLe.refl _ | refine LLe.cons rfl ?_)), (by repeat (first | exact HLe.refl _ | refine HLe.cons rfl ?_)), rfl⟩
        refine WpOpsG.nil ?_
        exact ⟨rfl, (by repeat (first | exact LLe.refl _ | refine LLe.cons rfl ?_)), (by repeat (first | exact HLe.refl _ | refine HLe.cons rfl ?_)), rfl⟩
       refine WpOpsG.nil ?_
       change WpG _ _ _ _ _
       refine WpG.cond rfl (fun hq14 => ?_) (fun hq14 => ?_)
       ·(try simp only [zN] at hq14)
        exfalso
        have hpw := pick_wake hzE (by omega)
        rcases hq14.2 with h | h
        ·rw [hpw.2] at h; cases h
        ·omega
       ·(try simp only [zN] at hq14)
        refine WpG.skip ?_
        change WpG _ _ _ _ _
        refine WpG.seq ?_
        refine WpG.reg ?_
        refine G.mv rfl ?_
        refine G.call (P := [(21, .box [.osl 22]), (22, .arr .yes 3 ((ps).map encPr))]) rfl (by repeat (first | exact trivial | refine ⟨rfl, ?_⟩)) rfl rfl ((reset16_ok ps (by omega)).ren [(0, 21), (1, 22)]) ?_
        rintro _ _ ⟨_, _, ⟨rfl, rfl⟩, rfl, rfl⟩
        change newOk _ _ [(21, _), (22, _)] = true ∧ _
        refine ⟨rfl, ?_⟩
        change WpOpsG _ _ ((102, _) :: _) ([(21, .box [.osl 22]), (22, .arr .yes 3 ((ps.map rstP).map encPr))] ++ _) _
        rw [rst_new hsp.1 hsp.2]
        refine WpOpsG.nil ?_
        change WpG _ _ _ _ _
        refine WpG.seq ?_
        refine WpG.seq ?_
        refine WpG.reg ?_
        refine G.mv rfl ?_
        refine G.lenM rfl ?_
        refine G.mv rfl ?_
        refine WpOpsG.nil ?_
        change WpG _ _ _ _ _
        refine WpG.block ?_
        refine WpG.loop (S := Nat) (fun i => [(8, .v (.bool false)), (9, .fsl 2 (L.map encSp)), (11, .bptr 21 0), (12, .v (.int .i64 (pickV (newP L) 0))), (104, .v (.int .i64 (L.length : Int))), (105, .v (.int .i64 (i : Int)))]) (fun _ => [(21, .box [.osl 22]), (22, .arr .yes 3 ((newP L).map encPr))]) (fun i => i ≤ L.length) (fun i => L.length - i) (fun s => ⟨rfl, rfl⟩) ?_ 0 ?_ (by repeat (first | exact trivial | refine ⟨rfl, ?_⟩)) (by repeat (first | exact trivial | refine ⟨rfl, ?_⟩)) rfl
        ·intro i hI
         refine WpG.seq ?_
         refine WpG.reg ?_
         refine G.bin rfl rfl rfl ?_
         refine WpOpsG.nil ?_
         change WpG _ _ _ _ _
         refine WpG.seq ?_
         refine WpG.cond rfl (fun hq15 => ?_) (fun hq15 => ?_)
         ·(try simp only [zN] at hq15)
          refine WpG.skip ?_
          change WpG _ _ _ _ _
          refine WpG.seq ?_
          refine WpG.block ?_
          refine WpG.seq ?_
          refine WpG.reg ?_
          refine G.mv rfl ?_
          refine G.mv rfl ?_
          refine WpOpsG.nil ?_
          change WpG _ _ _ _ _
          refine WpG.seq ?_
          refine WpG.reg ?_
          refine G.mv rfl ?_
          refine G.mv rfl ?_
          refine G.lend rfl rfl (ended16_ok (newP L) (i : Int) (by rw [newP_len]; omega)) ?_
          rintro _ _ ⟨rfl, rfl⟩
          refine ⟨rfl, trivial, rfl, ?_⟩
          change WpOpsG _ _ ((110, _) :: _) _ _
          rw [(wake_new (show i < L.length by omega)).2]
          refine G.mv rfl ?_
          refine WpOpsG.known 111 false rfl rfl ?_
          refine G.mv rfl ?_
          refine G.mv rfl ?_
          refine G.lend rfl rfl (wake16_ok (newP L) (i : Int) (by rw [newP_len]; omega)) ?_
          rintro _ _ ⟨rfl, rfl⟩
          refine ⟨rfl, trivial, rfl, ?_⟩
          change WpOpsG _ _ ((114, _) :: _) _ _
          refine G.bin rfl rfl rfl ?_
          rw [(wake_new (show i < L.length by omega)).1]
          refine G.pickF rfl rfl ?_
          refine WpOpsG.nil ?_
          change WpG _ _ _ _ _
          refine WpG.cond rfl (fun hq16 => absurd hq16 (by decide)) (fun hq16 => ?_)
          refine WpG.skip ?_
          change WpG _ _ _ _ _
          refine WpG.reg ?_
          refine G.addI rfl rfl (by omega) ?_
          refine G.mv rfl ?_
          refine WpOpsG.nil ?_
          exact ⟨i + 1, by omega, by omega, ⟨rfl, rfl, rfl, rfl, rfl, rfl, trivial⟩, ⟨rfl, rfl, trivial⟩, rfl⟩
         ·(try simp only [zN] at hq15)
          refine WpG.exit ?_
          change WpG _ _ _ _ _
          refine WpG.seq ?_
          refine WpG.reg ?_
          refine G.mv rfl ?_
          refine G.lend rfl rfl (pick_ok (newP L) 0 (by rw [newP_len]; omega)) ?_
          rintro _ _ ⟨rfl, rfl⟩
          refine ⟨rfl, trivial, rfl, ?_⟩
          change WpOpsG _ _ ((119, _) :: _) _ _
          refine G.mv rfl ?_
          refine G.bin rfl rfl rfl ?_
          rw [beq_self_eq_true]
          refine G.mv rfl ?_
          refine WpOpsG.known 122 true rfl rfl ?_
          refine G.mv rfl ?_
          refine G.bin rfl rfl rfl ?_
          rw [decide_eq_true (pick_new (by omega))]
          refine G.pickT rfl rfl ?_
          refine G.mv rfl ?_
          refine WpOpsG.known 126 true rfl rfl ?_
          refine G.mv rfl ?_
          refine G.lend rfl rfl (next16_ok (newP L) 0 (by rw [newP_len]; omega)) ?_
          rintro _ _ ⟨rfl, rfl⟩
          refine ⟨rfl, trivial, rfl, ?_⟩
          change WpOpsG _ _ ((128, _) :: _) _ _
          refine G.bin rfl rfl rfl ?_
          rw [next_new]
          refine G.pickT rfl rfl ?_
          refine G.mv rfl ?_
          refine WpOpsG.known 131 true rfl rfl ?_
          refine G.call0 rfl rfl (known16_ok) ?_
          rintro _ _ ⟨rfl, rfl⟩
          refine ⟨rfl, ?_⟩
          change WpOpsG _ _ ((132, _) :: _) _ _
          refine G.pickT rfl rfl ?_
          refine G.mv rfl ?_
          refine WpOpsG.nil ?_
          change WpG _ _ _ _ _
          refine WpG.ret ?_
          refine ⟨_, [], rfl, (hasP_le (by repeat (first | exact trivial | refine ⟨rfl, ?_⟩))), rfl, rfl, rfl, ?_⟩
          exact ⟨rfl, rfl⟩
        ·exact Nat.zero_le _
     ·exact ⟨Nat.zero_le _, same_new L⟩
 ·exact ⟨Nat.zero_le _, by omega⟩
end Go.AM.L16
