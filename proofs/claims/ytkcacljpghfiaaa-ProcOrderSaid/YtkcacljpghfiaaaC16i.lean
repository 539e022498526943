/- Contracts of the functions that the statement reaches. No condition. -/
import Derived.Test.YtkcacljpghfiaaaC16g
set_option linter.all false
set_option maxRecDepth 10000
namespace Go.AM.L16
open Go.AM.PL
set_option maxHeartbeats 1000000 in
theorem procOrder_ok (pr wk : List Int) (now : Int) (hpr : pr.length ≤ 2 ^ 50) (hwk : wk.length ≤ 2 ^ 50) : WpCallG A 3 [.fsl 1 (pr.map encK), .fsl 1 (wk.map encK), .v (.int .i64 now)] [] (fun v H => v = .v (.bool true) ∧ H = []) := by
 refine WpCallG.intro g3 rfl rfl ?_
 unfold af3
 change WpG _ _ _ _ _
 refine WpG.seq ?_
 refine WpG.reg ?_
 refine G.mv rfl ?_
 refine WpOpsG.nil ?_
 change WpG _ _ _ _ _
 refine WpG.seq ?_
 refine WpG.reg ?_
 refine G.mv rfl ?_
 refine WpOpsG.nil ?_
 change WpG _ _ _ _ _
 refine WpG.seq ?_
 refine WpG.seq ?_
 refine WpG.reg ?_
 refine G.mv rfl ?_
 refine WpOpsG.nil ?_
 change WpG _ _ _ _ _
 refine WpG.block ?_
 refine WpG.ownNil (g := 20) (k := 7) (w := 2) rfl rfl ?_
 refine WpG.loop (S := Nat) (fun i => [(0, .fsl 1 (pr.map encK)), (1, .fsl 1 (wk.map encK)), (2, .v (.int .i64 now)), (6, .v (.bool false)), (7, .osl 20), (8, .v (.int .i64 (i : Int)))]) (fun i => [(20, .arr .yes 2 ((ordL pr i).map encSp))]) (fun i => i ≤ pr.length ∧ i ≤ 3) (fun i => 3 - i) (fun s => ⟨rfl, rfl⟩) ?_ 0 ?_ (by repeat (first | exact trivial | refine ⟨rfl, ?_⟩)) (by repeat (first | exact trivial | refine ⟨rfl, ?_⟩)) rfl
 ·rintro i ⟨hI, hI3⟩
  refine WpG.seq ?_
  refine WpG.seq ?_
  refine WpG.reg ?_
  refine G.mv rfl ?_
  refine G.mv rfl ?_
  refine G.lenM rfl ?_
  refine G.bin rfl rfl rfl ?_
  refine G.mv rfl ?_
  apply G.andS rfl rfl rfl rfl rfl rfl
  case hB =>
   intro hs1
   (try simp only [zN] at hs1)
   refine G.mv rfl ?_
   refine G.bin rfl rfl rfl ?_
   refine WpOpsG.nil ?_
   exact ⟨rfl, (by repeat (first | exact LLe.refl _ | refine LLe.cons rfl ?_)), (by repeat (first | exact HLe.refl _ | refine HLe.cons rfl ?_)), rfl⟩
  refine WpOpsG.nil ?_
  change WpG _ _ _ _ _
  refine WpG.cond rfl (fun hq2 => ?_) (fun hq2 => ?_)
  ·(try simp only [zN] at hq2)
   refine WpG.skip ?_
   change WpG _ _ _ _ _
   refine WpG.seq ?_
   refine WpG.block ?_
   refine WpG.reg ?_
   refine G.mv rfl ?_
   refine G.mv rfl ?_
   refine G.mv rfl ?_
   refine G.iaddrN rfl rfl (List.getElem?_eq_getElem (by omega)) ?_
   refine G.load1F rfl rfl ?_
   refine G.andK rfl rfl ?_
   refine G.build rfl ?_
   refine G.bsliceF rfl rfl rfl ?_
   change WpOpsG _ _ ((31, .fsl 2 (([((0 : Int), andI .i64 pr[i] 7)] : List Sp).map encSp)) :: _) _ _
   refine G.app rfl rfl rfl rfl trivial (by rw [List.length_map]; have := ordL_len (pr := pr) (i := i); show (_ + 1) * 16 ≤ 2 ^ 47; omega) ?_
   rw [← List.map_append]
   refine G.mv rfl ?_
   refine WpOpsG.nil ?_
   change WpG _ _ _ _ _
   refine WpG.reg ?_
   refine G.mv rfl ?_
   refine G.addI rfl rfl (by omega) ?_
   refine G.mv rfl ?_
   refine WpOpsG.nil ?_
   refine ⟨i + 1, by omega, ⟨by omega, by omega⟩, ⟨rfl, rfl, rfl, rfl, rfl, rfl, trivial⟩, ⟨?_, trivial⟩, rfl⟩
   rw [ordL_snoc (by omega)]; rfl
  ·(try simp only [zN] at hq2)
   refine WpG.exit ?_
   change WpG _ _ _ _ _
   refine WpG.seq ?_
   have hLl := ordL_len (pr := pr) (i := i)
   refine WpG.freeze 20 rfl ?_
   obtain ⟨L, hL⟩ : ∃ L, ordL pr i = L := ⟨_, rfl⟩
   rw [hL] at hLl ⊢
   rcases Nat.eq_zero_or_pos L.length with hz | hz
   ·change WpG _ _ _ _ _
    refine WpG.reg ?_
    refine G.mv rfl ?_
    refine G.call0 rfl rfl (newN16_ok L (by omega) (by omega)) ?_
    rintro _ _ ⟨rfl, rfl⟩
    refine ⟨rfl, ?_⟩
    change WpOpsG _ _ ((34, _) :: _) _ _
    refine G.mv rfl ?_
    refine WpOpsG.nil ?_
    change WpG _ _ _ _ _
    refine WpG.seq ?_
    refine WpG.seq ?_
    refine WpG.reg ?_
    refine G.mv rfl ?_
    refine G.lenM rfl ?_
    refine G.bin rfl rfl rfl ?_
    refine WpOpsG.nil ?_
    change WpG _ _ _ _ _
    refine WpG.cond rfl (fun hq3 => ?_) (fun hq3 => ?_)
    ·(try simp only [zN] at hq3)
     refine WpG.seq ?_
     refine WpG.reg ?_
     refine G.mv rfl ?_
     refine G.eqnilP rfl ?_
     refine G.mv rfl ?_
     refine WpOpsG.known 40 true rfl rfl ?_
     refine G.call0 rfl rfl (known16_ok) ?_
     rintro _ _ ⟨rfl, rfl⟩
     refine ⟨rfl, ?_⟩
     change WpOpsG _ _ ((41, _) :: _) _ _
     refine G.pickT rfl rfl ?_
     refine G.mv rfl ?_
     refine WpOpsG.nil ?_
     change WpG _ _ _ _ _
     refine WpG.ret ?_
     refine ⟨_, [], rfl, (hasP_le (by repeat (first | exact trivial | refine ⟨rfl, ?_⟩))), rfl, rfl, rfl, ?_⟩
     exact ⟨rfl, rfl⟩
    ·(try simp only [zN] at hq3)
     exfalso; omega
   ·change WpG _ _ _ _ _
    refine WpG.reg ?_
    refine G.mv rfl ?_
    refine G.call0 rfl rfl ((new16_ok L (by omega) (by omega)).ren [(0, 21), (1, 22)]) ?_
    rintro _ _ ⟨_, _, ⟨rfl, rfl⟩, rfl, rfl⟩
    change newOk _ _ [(21, _), (22, _)] = true ∧ _
    refine ⟨rfl, ?_⟩
    change WpOpsG _ _ ((34, .bptr 21 0) :: _) ([(21, .box [.osl 22]), (22, .arr .yes 3 ((newP L).map encPr))] ++ _) _
    refine G.mv rfl ?_
    refine WpOpsG.nil ?_
    change WpG _ _ _ _ _
    refine WpG.seq ?_
    refine WpG.seq ?_
    refine WpG.reg ?_
    refine G.mv rfl ?_
    refine G.lenM rfl ?_
    refine G.bin rfl rfl rfl ?_
    refine WpOpsG.nil ?_
    change WpG _ _ _ _ _
    refine WpG.cond rfl (fun hq4 => ?_) (fun hq4 => ?_)
    ·(try simp only [zN] at hq4)
     exfalso; omega
    ·(try simp only [zN] at hq4)
     refine WpG.skip ?_
     change WpG _ _ _ _ _
     refine WpG.seq ?_
     refine WpG.seq ?_
     refine WpG.reg ?_
     refine G.mv rfl ?_
     refine G.eqnilB rfl ?_
     refine WpOpsG.nil ?_
     change WpG _ _ _ _ _
     refine WpG.cond rfl (fun hq5 => absurd hq5 (by decide)) (fun hq5 => ?_)
     refine WpG.skip ?_
     change WpG _ _ _ _ _
     refine WpG.seq ?_
     refine WpG.seq ?_
     refine WpG.reg ?_
     refine G.mv rfl ?_
     refine G.lenM rfl ?_
     refine G.mv rfl ?_
     refine WpOpsG.nil ?_
     change WpG _ _ _ _ _
     refine WpG.block ?_
     refine WpG.loop (S := Nat × List Pr) (fun s => [(1, .fsl 1 (wk.map encK)), (2, .v (.int .i64 now)), (6, .v (.bool false)), (7, .fsl 2 (L.map encSp)), (9, .bptr 21 0), (46, .v (.int .i64 (L.length : Int))), (47, .v (.int .i64 (s.1 : Int)))]) (fun s => [(21, .box [.osl 22]), (22, .arr .yes 3 ((s.2).map encPr))]) (fun s => s.1 ≤ L.length ∧ SameP L s.2 ∧ Alive s.2) (fun s => L.length - s.1) (fun s => ⟨rfl, rfl⟩) ?_ (0, newP L) ?_ (by repeat (first | exact trivial | refine ⟨rfl, ?_⟩)) (by repeat (first | exact trivial | refine ⟨rfl, ?_⟩)) rfl
     ·rintro ⟨i, ps⟩ ⟨hI, hsp, hal⟩
      dsimp only at hI hsp hal ⊢
      have hsl := hsp.1
      refine WpG.seq ?_
      refine WpG.reg ?_
      refine G.bin rfl rfl rfl ?_
      refine WpOpsG.nil ?_
      change WpG _ _ _ _ _
      refine WpG.seq ?_
      refine WpG.cond rfl (fun hq6 => ?_) (fun hq6 => ?_)
      ·(try simp only [zN] at hq6)
       refine WpG.skip ?_
       change WpG _ _ _ _ _
       refine WpG.seq ?_
       refine WpG.block ?_
       refine WpG.seq ?_
       refine WpG.reg ?_
       refine G.mv rfl ?_
       refine G.mv rfl ?_
       refine WpOpsG.nil ?_
       change WpG _ _ _ _ _
       refine WpG.seq ?_
       refine WpG.reg ?_
       refine G.mv rfl ?_
       refine G.mv rfl ?_
       refine G.lenM rfl ?_
       refine G.bin rfl rfl rfl ?_
       refine G.mv rfl ?_
       cases hb54 : decide ((i : Int) < (wk.length : Int))
       ·(try simp only [zN] at hb54)
        refine WpOpsG.known 54 false rfl rfl ?_
        refine G.no rfl (by decide) ?_
        refine G.no rfl (by decide) ?_
        refine G.no rfl (by decide) ?_
        refine G.no rfl (by decide) ?_
        refine G.no rfl (by decide) ?_
        refine G.no rfl (by decide) ?_
        refine G.no rfl (by decide) ?_
        refine G.no rfl (by decide) ?_
        refine G.no rfl (by decide) ?_
        refine G.pickF rfl rfl ?_
        refine WpOpsG.nil ?_
        change WpG _ _ _ _ _
        refine WpG.cond rfl (fun hq7 => absurd hq7 (by decide)) (fun hq7 => ?_)
        refine WpG.skip ?_
        change WpG _ _ _ _ _
        refine WpG.reg ?_
        refine G.addI rfl rfl (by omega) ?_
        refine G.mv rfl ?_
        refine WpOpsG.nil ?_
        first
         | exact ⟨(i + 1, sleepV ps (i : Int) (andI .i64 wk[i] 63)), by show _ - (i + 1) < _ - i; omega, ⟨by dsimp only; omega, same_sleep hsp (by omega), alive_sleep hal (by omega)⟩, ⟨rfl, rfl, rfl, rfl, rfl, rfl, rfl, trivial⟩, ⟨rfl, rfl, trivial⟩, rfl⟩
         | exact ⟨(i + 1, ps), by show _ - (i + 1) < _ - i; omega, ⟨by dsimp only; omega, hsp, hal⟩, ⟨rfl, rfl, rfl, rfl, rfl, rfl, rfl, trivial⟩, ⟨rfl, rfl, trivial⟩, rfl⟩
       ·(try simp only [zN] at hb54)
        refine WpOpsG.known 54 true rfl rfl ?_
        refine G.mv rfl ?_
        refine G.mv rfl ?_
        refine G.mv rfl ?_
        refine G.mv rfl ?_
        refine G.iaddrN rfl rfl (List.getElem?_eq_getElem (by omega)) ?_
        refine G.load1F rfl rfl ?_
        refine G.andK rfl rfl ?_
        refine G.call (P := [(21, .box [.osl 22]), (22, .arr .yes 3 ((ps).map encPr))]) rfl (by repeat (first | exact trivial | refine ⟨rfl, ?_⟩)) rfl rfl ((sleep16_ok ps (i : Int) (andI .i64 wk[i] 63) (by omega)).ren [(0, 21), (1, 22)]) ?_
        rintro _ _ ⟨_, _, ⟨rfl, rfl⟩, rfl, rfl⟩
        change newOk _ _ [(21, _), (22, _)] = true ∧ _
        refine ⟨rfl, ?_⟩
        change WpOpsG _ _ ((62, _) :: _) ([(21, .box [.osl 22]), (22, .arr .yes 3 ((sleepV ps (i : Int) (andI .i64 wk[i] 63)).map encPr))] ++ _) _
        rw [show isV ps (i : Int) = true from isV_iff.2 (by omega)]
        refine G.un rfl rfl ?_
        refine G.pickT rfl rfl ?_
        refine WpOpsG.nil ?_
        change WpG _ _ _ _ _
        refine WpG.cond rfl (fun hq8 => absurd hq8 (by decide)) (fun hq8 => ?_)
        refine WpG.skip ?_
        change WpG _ _ _ _ _
        refine WpG.reg ?_
        refine G.addI rfl rfl (by omega) ?_
        refine G.mv rfl ?_
        refine WpOpsG.nil ?_
        first
         | exact ⟨(i + 1, sleepV ps (i : Int) (andI .i64 wk[i] 63)), by show _ - (i + 1) < _ - i; omega, ⟨by dsimp only; omega, same_sleep hsp (by omega), alive_sleep hal (by omega)⟩, ⟨rfl, rfl, rfl, rfl, rfl, rfl, rfl, trivial⟩, ⟨rfl, rfl, trivial⟩, rfl⟩
         | exact ⟨(i + 1, ps), by show _ - (i + 1) < _ - i; omega, ⟨by dsimp only; omega, hsp, hal⟩, ⟨rfl, rfl, rfl, rfl, rfl, rfl, rfl, trivial⟩, ⟨rfl, rfl, trivial⟩, rfl⟩
      ·(try simp only [zN] at hq6)
       refine WpG.exit ?_
       change WpG _ _ _ _ _
       refine WpG.seq ?_
       refine WpG.reg ?_
       refine G.mv rfl ?_
       refine G.andK rfl rfl ?_
       obtain ⟨q, eq, hq⟩ := and_rng1 now 63 (by decide)
       rw [show andI .i64 now 63 = (q : Int) from eq]
       refine G.mv rfl ?_
       refine WpOpsG.nil ?_
       change WpG _ _ _ _ _
       refine WpG.seq ?_
       refine WpG.reg ?_
       refine G.mv rfl ?_
       refine G.mv rfl ?_
       refine G.lend rfl rfl (pick_ok ps (q : Int) (by omega)) ?_
       rintro _ _ ⟨rfl, rfl⟩
       refine ⟨rfl, trivial, rfl, ?_⟩
       change WpOpsG _ _ ((70, _) :: _) _ _
       have hzr := pick_rng (ps := ps) (now := (q : Int))
       obtain ⟨z, hzE⟩ : ∃ z, pickV ps (q : Int) = z := ⟨_, rfl⟩
       rw [hzE] at hzr ⊢
       refine G.mv rfl ?_
       refine WpOpsG.nil ?_
       change WpG _ _ _ _ _
       refine WpG.seq ?_
       refine WpG.seq ?_
       refine WpG.reg ?_
       refine G.mv rfl ?_
       refine G.lenM rfl ?_
       refine G.mv rfl ?_
       refine WpOpsG.nil ?_
       change WpG _ _ _ _ _
       refine WpG.block ?_
       refine WpG.loop (S := Nat) (fun i => [(6, .v (.bool false)), (7, .fsl 2 (L.map encSp)), (9, .bptr 21 0), (11, .v (.int .i64 (q : Int))), (12, .v (.int .i64 z)), (72, .v (.int .i64 (L.length : Int))), (73, .v (.int .i64 (i : Int)))]) (fun _ => [(21, .box [.osl 22]), (22, .arr .yes 3 ((ps).map encPr))]) (fun i => i ≤ L.length) (fun i => L.length - i) (fun s => ⟨rfl, rfl⟩) ?_ 0 ?_ (by repeat (first | exact trivial | refine ⟨rfl, ?_⟩)) (by repeat (first | exact trivial | refine ⟨rfl, ?_⟩)) rfl
       ·intro i hI
        refine WpG.seq ?_
        refine WpG.reg ?_
        refine G.bin rfl rfl rfl ?_
        refine WpOpsG.nil ?_
        change WpG _ _ _ _ _
        refine WpG.seq ?_
        refine WpG.cond rfl (fun hq9 => ?_) (fun hq9 => ?_)
        ·(try simp only [zN] at hq9)
         refine WpG.skip ?_
         change WpG _ _ _ _ _
         refine WpG.seq ?_
         refine WpG.block ?_
         refine WpG.seq ?_
         refine WpG.reg ?_
         refine G.mv rfl ?_
         refine G.mv rfl ?_
         refine WpOpsG.nil ?_
         change WpG _ _ _ _ _
         refine WpG.seq ?_
         refine WpG.reg ?_
         refine G.mv rfl ?_
         refine G.mv rfl ?_
         refine G.lend rfl rfl (wake16_ok ps (i : Int) (by omega)) ?_
         rintro _ _ ⟨rfl, rfl⟩
         refine ⟨rfl, trivial, rfl, ?_⟩
         change WpOpsG _ _ ((78, _) :: _) _ _
         refine G.mv rfl ?_
         refine G.bin rfl rfl rfl ?_
         refine G.mv rfl ?_
         apply G.andS rfl rfl rfl rfl rfl rfl
         case hB =>
          intro hs10
          (try simp only [zN] at hs10)
          refine G.mv rfl ?_
          refine G.bin rfl rfl rfl ?_
          refine G.mv rfl ?_
          apply G.orS rfl rfl rfl rfl rfl rfl
          case hB =>
           intro hs11
           (try simp only [zN] at hs11)
           refine G.mv rfl ?_
           refine G.mv rfl ?_
           refine G.iaddrM rfl rfl (by omega) (gd17 ((0, 0) : Sp) (by omega)) ?_
           try rw [Int.toNat_natCast]
           refine G.faddrF rfl ?_
           refine G.load1F rfl rfl ?_
           refine G.mv rfl ?_
           refine G.mv rfl ?_
           refine G.iaddrM rfl rfl (by omega) (gd17 ((0, 0) : Sp) (by omega)) ?_
           try rw [Int.toNat_natCast]
           refine G.faddrF rfl ?_
           refine G.load1F rfl rfl ?_
           refine G.bin rfl rfl rfl ?_
           refine WpOpsG.nil ?_
           exact ⟨rfl, (by repeat (first | exact LLe.refl _ | refine LLe.cons rfl ?_)), (by repeat (first | exact HLe.refl _ | refine HLe.cons rfl ?_)), rfl⟩
          refine G.mv rfl ?_
          apply G.orS rfl rfl rfl rfl rfl rfl
          case hB =>
           intro hs12
           (try simp only [zN] at hs12)
           refine G.mv rfl ?_
           refine G.mv rfl ?_
           refine G.iaddrM rfl rfl (by omega) (gd17 ((0, 0) : Sp) (by omega)) ?_
           try rw [Int.toNat_natCast]
           refine G.faddrF rfl ?_
           refine G.load1F rfl rfl ?_
           refine G.mv rfl ?_
           refine G.mv rfl ?_
           refine G.iaddrM rfl rfl (by omega) (gd17 ((0, 0) : Sp) (by omega)) ?_
           try rw [Int.toNat_natCast]
           refine G.faddrF rfl ?_
           refine G.load1F rfl rfl ?_
           refine G.bin rfl rfl rfl ?_
           refine G.mv rfl ?_
           apply G.andS rfl rfl rfl rfl rfl rfl
           case hB =>
            intro hs13
            (try simp only [zN] at hs13)
            refine G.mv rfl ?_
            refine G.mv rfl ?_
            refine G.bin rfl rfl rfl ?_
            refine WpOpsG.nil ?_
            exact ⟨rfl, (by repeat (first | exact LLe.refl _ | refine LLe.cons rfl ?_)), (by repeat (first | exact HLe.refl _ | refine HLe.cons rfl ?_)), rfl⟩
           refine WpOpsG.nil ?_
           exact ⟨rfl, (by repeat (first | exact LLe.refl _ | refine LLe.cons rfl ?_)), (by repeat (first | exact HLe.refl _ | refine HLe.cons rfl ?_)), rfl⟩
          refine WpOpsG.nil ?_
          exact ⟨rfl, (by repeat (first | exact LLe.refl _ | refine LLe.cons rfl ?_)), (by repeat (first | exact HLe.refl _ | refine HLe.cons rfl ?_)), rfl⟩
         refine WpOpsG.nil ?_
         change WpG _ _ _ _ _
         refine WpG.cond rfl (fun hq14 => ?_) (fun hq14 => ?_)
         ·(try simp only [zN] at hq14)
          exact (order_no hsp hal (by omega) hzE hq14).elim
         ·(try simp only [zN] at hq14)
          refine WpG.skip ?_
          change WpG _ _ _ _ _
          refine WpG.reg ?_
          refine G.addI rfl rfl (by omega) ?_
          refine G.mv rfl ?_
          refine WpOpsG.nil ?_
          exact ⟨i + 1, by omega, by omega, ⟨rfl, rfl, rfl, rfl, rfl, rfl, rfl, trivial⟩, ⟨rfl, rfl, trivial⟩, rfl⟩
        ·(try simp only [zN] at hq9)
         refine WpG.exit ?_
         change WpG _ _ _ _ _
         refine WpG.seq ?_
         refine WpG.seq ?_
         refine WpG.reg ?_
         refine G.mv rfl ?_
         refine G.bin rfl rfl rfl ?_
         refine WpOpsG.nil ?_
         change WpG _ _ _ _ _
         refine WpG.cond rfl (fun hq15 => ?_) (fun hq15 => ?_)
         ·(try simp only [zN] at hq15)
          have hz0 := hq15
          have hpw := pick_wake hzE (by omega)
          refine WpG.seq ?_
          refine WpG.reg ?_
          refine G.mv rfl ?_
          refine G.mv rfl ?_
          refine G.lenM rfl ?_
          refine G.bin rfl rfl rfl ?_
          rw [decide_eq_true (by omega)]
          refine G.mv rfl ?_
          refine WpOpsG.known 123 true rfl rfl ?_
          refine G.mv rfl ?_
          refine G.mv rfl ?_
          refine G.lend rfl rfl (wake16_ok ps z (by omega)) ?_
          rintro _ _ ⟨rfl, rfl⟩
          refine ⟨rfl, trivial, rfl, ?_⟩
          change WpOpsG _ _ ((126, _) :: _) _ _
          refine G.mv rfl ?_
          refine G.bin rfl rfl rfl ?_
          rw [decide_eq_true (by omega)]
          refine G.pickT rfl rfl ?_
          refine G.mv rfl ?_
          refine WpOpsG.known 130 true rfl rfl ?_
          refine G.call0 rfl rfl (known16_ok) ?_
          rintro _ _ ⟨rfl, rfl⟩
          refine ⟨rfl, ?_⟩
          change WpOpsG _ _ ((131, _) :: _) _ _
          refine G.pickT rfl rfl ?_
          refine G.mv rfl ?_
          refine WpOpsG.nil ?_
          change WpG _ _ _ _ _
          refine WpG.ret ?_
          refine ⟨_, [], rfl, (hasP_le (by repeat (first | exact trivial | refine ⟨rfl, ?_⟩))), rfl, rfl, rfl, ?_⟩
          exact ⟨rfl, rfl⟩
         ·(try simp only [zN] at hq15)
          have hna := next_after (ps := ps) (now := (q : Int)) (by omega) hal (by omega)
          refine WpG.skip ?_
          change WpG _ _ _ _ _
          refine WpG.seq ?_
          refine WpG.reg ?_
          refine G.mv rfl ?_
          refine G.mv rfl ?_
          refine G.lend rfl rfl (next16_ok ps (q : Int) (by omega)) ?_
          rintro _ _ ⟨rfl, rfl⟩
          refine ⟨rfl, trivial, rfl, ?_⟩
          change WpOpsG _ _ ((135, _) :: _) _ _
          refine G.mv rfl ?_
          refine G.bin rfl rfl rfl ?_
          rw [decide_eq_true (by omega)]
          refine G.mv rfl ?_
          refine WpOpsG.known 138 true rfl rfl ?_
          refine G.mv rfl ?_
          refine G.mv rfl ?_
          refine G.mv rfl ?_
          refine G.lend rfl rfl (next16_ok ps (q : Int) (by omega)) ?_
          rintro _ _ ⟨rfl, rfl⟩
          refine ⟨rfl, trivial, rfl, ?_⟩
          change WpOpsG _ _ ((142, _) :: _) _ _
          refine G.lend rfl rfl (pick_ok ps (nextP ps (q : Int)) (by omega)) ?_
          rintro _ _ ⟨rfl, rfl⟩
          refine ⟨rfl, trivial, rfl, ?_⟩
          change WpOpsG _ _ ((143, _) :: _) _ _
          refine G.bin rfl rfl rfl ?_
          rw [decide_eq_true (by omega)]
          refine G.pickT rfl rfl ?_
          refine G.mv rfl ?_
          refine WpOpsG.known 146 true rfl rfl ?_
          refine G.call0 rfl rfl (known16_ok) ?_
          rintro _ _ ⟨rfl, rfl⟩
          refine ⟨rfl, ?_⟩
          change WpOpsG _ _ ((147, _) :: _) _ _
          refine G.pickT rfl rfl ?_
          refine G.mv rfl ?_
          refine WpOpsG.nil ?_
          change WpG _ _ _ _ _
          refine WpG.ret ?_
          refine ⟨_, [], rfl, (hasP_le (by repeat (first | exact trivial | refine ⟨rfl, ?_⟩))), rfl, rfl, rfl, ?_⟩
          exact ⟨rfl, rfl⟩
       ·exact Nat.zero_le _
     ·exact ⟨Nat.zero_le _, same_new L, alive_new L⟩
 ·exact ⟨Nat.zero_le _, by omega⟩
end Go.AM.L16
