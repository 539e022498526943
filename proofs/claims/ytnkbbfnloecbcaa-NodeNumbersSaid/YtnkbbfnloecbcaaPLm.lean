/- Contracts of the functions that the statement reaches. No condition. -/
import Derived.Test.YtnkbbfnloecbcaaPLk
set_option linter.all false
set_option maxRecDepth 10000
namespace Go.AM.PL
structure Nd where
 k : Int
 p : Int
 n : Int
deriving DecidableEq
def encD (x : Nd) : List GV := [.v (.int .i64 x.k), .v (.int .i64 x.p), .v (.int .i64 x.n)]
structure Fm where
 x : Nd
 left : Int
 dep : Int
 tot : Int
def encF (f : Fm) : List GV := [.v (.int .i64 f.x.k), .v (.int .i64 f.x.p), .v (.int .i64 f.x.n), .v (.int .i64 f.left), .v (.int .i64 f.dep), .v (.int .i64 f.tot)]
def kidV (x : Nd) : Int :=
 if x.n < 1 ∨ (x.k ≠ 1 ∧ x.p ≠ 0) then -1
 else if (x.k = 1 ∧ 0 ≤ x.p ∧ x.p < 6) ∨ x.k = 2 then 0
 else if x.k = 3 ∧ x.n ≤ 128 then x.n
 else if x.k = 4 then 1 else -1
theorem kidV_rng (x : Nd) : -1 ≤ kidV x ∧ kidV x ≤ 128 := by unfold kidV; (repeat' split) <;> omega
theorem kidV_pos {x : Nd} (h : 0 ≤ kidV x) : 1 ≤ x.n := by unfold kidV at h; split at h <;> omega
def timV (a b : Int) : Int := min 4097 (IntKind.i64.wrap (min 4097 a * b))
def addV (a b : Int) : Int := min 4097 (IntKind.i64.wrap (a + min 4097 b))
def scan : List Nd → Int → Int → Int
 | [], _, _ => 0
 | x :: l, s, c => if kidV x < 0 then 0 else if s + (kidV x - 1) = 0 then c + 1 else scan l (s + (kidV x - 1)) (c + 1)
def sizeV (l : List Nd) (a : Int) : Int := if a < 0 ∨ (l.length : Int) ≤ a then 0 else scan (l.drop a.toNat) 1 0
theorem scan_rng : ∀ (l : List Nd) (s c : Int), 0 ≤ c → 0 ≤ scan l s c ∧ scan l s c ≤ c + l.length
 | [], s, c, h => by simp [scan]; omega
 | x :: l, s, c, h => by
   have ih := scan_rng l (s + (kidV x - 1)) (c + 1) (by omega)
   rw [scan, List.length_cons]
   split
   ·omega
   ·split <;> omega
theorem sizeV_rng (l : List Nd) (a : Int) : 0 ≤ sizeV l a ∧ (0 < sizeV l a → 0 ≤ a ∧ a < l.length ∧ a + sizeV l a ≤ l.length) := by
 unfold sizeV
 split
 ·omega
 ·have := scan_rng (l.drop a.toNat) 1 0 (by omega)
  rw [List.length_drop] at this
  omega
def wholeV (l : List Nd) : Bool := decide (0 < l.length) && decide (sizeV l 0 = l.length)
def pop1 (F G : Fm) : Fm := ⟨G.x, IntKind.i64.wrap (G.left - 1), max G.dep (IntKind.i64.wrap (F.dep + 1)), addV G.tot (if F.x.k = 4 then timV F.x.n F.tot else F.tot)⟩
def settleF : Fm → List Fm → Fm × List Fm
 | F, [] => (F, [])
 | F, G :: S => if F.left = 0 then settleF (pop1 F G) S else (F, G :: S)
def mk (x : Nd) : Fm := ⟨x, kidV x, 0, if kidV x = 0 then min 4097 x.n else 0⟩
def push (s : Fm × List Fm) (x : Nd) : Fm × List Fm := settleF (mk x) (s.1 :: s.2)
def sent : Fm := ⟨⟨0, 0, 0⟩, 1, 0, 0⟩
def runS (l : List Nd) : Fm × List Fm := l.foldl push (sent, [])
def stk (F : Fm) (S : List Fm) : List Fm := S.reverse ++ [F]
theorem stk_len (F : Fm) (S : List Fm) : (stk F S).length = S.length + 1 := by unfold stk; simp
theorem stk_top (F : Fm) (S : List Fm) : (stk F S)[S.length]? = some F := by
 unfold stk; rw [List.getElem?_append_right (by simp)]; simp
theorem stk_cons (F G : Fm) (S : List Fm) : stk F (G :: S) = stk G S ++ [F] := by unfold stk; simp
theorem stk_take (F G : Fm) (S : List Fm) : (stk F (G :: S)).take (S.length + 1) = stk G S := by
 rw [stk_cons, ← stk_len G S, List.take_left']; rfl
theorem stk_set (F F' : Fm) (S : List Fm) : (stk F S).set S.length F' = stk F' S := by
 unfold stk
 rw [List.set_append_right _ _ (by simp)]
 simp
def botF (s : Fm × List Fm) : Fm := (stk s.1 s.2).headD sent
theorem stk_head (F : Fm) (S : List Fm) : (stk F S)[0]? = some ((stk F S).headD sent) := by
 cases h : stk F S with
 | nil => have := stk_len F S; rw [h] at this; simp at this
 | cons a b => rfl
theorem runS_snoc {l : List Nd} {i : Nat} (h : i < l.length) : runS (l.take (i + 1)) = push (runS (l.take i)) l[i] := by
 unfold runS; rw [foldl_take _ _ h]
theorem settle_len : ∀ (S : List Fm) (F : Fm), (settleF F S).2.length ≤ S.length
 | [], _ => Nat.le_refl _
 | G :: S, F => by
   rw [settleF]; split
   ·have := settle_len S (pop1 F G); rw [List.length_cons]; omega
   ·exact Nat.le_refl _
theorem runS_len (l : List Nd) : (runS l).2.length ≤ l.length := by
 have key : ∀ (l : List Nd) (s : Fm × List Fm), (l.foldl push s).2.length ≤ s.2.length + l.length := by
  intro l
  induction l with
  | nil => intro s; exact Nat.le_refl _
  | cons x l ih =>
    intro s
    have h1 := ih (push s x)
    have h2 := settle_len (s.1 :: s.2) (mk x)
    rw [List.foldl_cons, List.length_cons]
    rw [List.length_cons] at h2
    have h3 : (push s x).2.length = (settleF (mk x) (s.1 :: s.2)).2.length := rfl
    omega
 have := key l (sent, [])
 simpa [runS] using this
def depV (l : List Nd) : Int := if wholeV l = true then (botF (runS l)).dep else 0
def lenV (l : List Nd) : Int × Bool := if wholeV l = true ∧ (botF (runS l)).tot ≤ 4096 then ((botF (runS l)).tot, true) else (0, false)
def rightN (l : List Nd) : Int := if 128 < l.length then 3 else if wholeV l = false then 12 else if 16 < depV l then 14 else if (lenV l).2 = false then 18 else 0
end Go.AM.PL
set_option linter.all false
set_option maxRecDepth 10000
namespace Go.AM.PL
inductive Fo where
 | nil
 | cons (x : Nd) (ks r : Fo)
namespace Fo
def enc : Fo → List Nd
 | nil => []
 | cons x ks r => x :: (enc ks ++ enc r)
def cnt : Fo → Nat
 | nil => 0
 | cons _ _ r => 1 + cnt r
def ok : Fo → Prop
 | nil => True
 | cons x ks r => kidV x = cnt ks ∧ ok ks ∧ ok r
def dep : Fo → Int
 | nil => 0
 | cons _ ks r => max (1 + dep ks) (dep r)
def lenX (x : Nd) (t : Int) : Int := if x.k = 4 then min 4097 (min 4097 x.n * t) else if kidV x = 0 then min 4097 x.n else t
def tot : Fo → Int
 | nil => 0
 | cons x ks r => min 4097 (lenX x (tot ks) + tot r)
def one (x : Nd) (ks : Fo) : Fo := cons x ks nil
theorem cnt_zero {f : Fo} (h : f.cnt = 0) : f = nil := by
 cases f with
 | nil => rfl
 | cons x ks r => simp only [cnt] at h; omega
theorem enc_pos {f : Fo} (h : f ≠ nil) : 0 < (enc f).length := by
 cases f with
 | nil => exact absurd rfl h
 | cons x ks r => simp [enc]
theorem k4 {x : Nd} (h : x.k = 4) (hk : 0 ≤ kidV x) : kidV x = 1 := by unfold kidV at hk ⊢; (repeat' split at hk) <;> (repeat' split) <;> omega
theorem lenX_rng {x : Nd} {t : Int} (hk : 0 ≤ kidV x) (ht : 0 ≤ t ∧ t ≤ 4097) : 0 ≤ lenX x t ∧ lenX x t ≤ 4097 := by
 have hn := kidV_pos hk
 unfold lenX
 split
 ·have : 0 ≤ min 4097 x.n * t := Int.mul_nonneg (by omega) ht.1
  omega
 ·split <;> omega
theorem tot_rng : ∀ {f : Fo}, f.ok → 0 ≤ f.tot ∧ f.tot ≤ 4097
 | nil, _ => by simp [tot]
 | cons x ks r, h => by
   have h1 := tot_rng h.2.1
   have h2 := tot_rng h.2.2
   have h3 := lenX_rng (x := x) (by rw [h.1]; omega) h1
   simp only [tot]; omega
theorem dep_rng : ∀ (f : Fo), 0 ≤ f.dep ∧ f.dep ≤ (enc f).length
 | nil => by simp [dep, enc]
 | cons x ks r => by
   have h1 := dep_rng ks
   have h2 := dep_rng r
   simp only [dep, enc, List.length_cons, List.length_append]; omega
def upd (F : Fm) (f : Fo) : Fm := ⟨F.x, F.left - f.cnt, max F.dep f.dep, min 4097 (F.tot + f.tot)⟩
theorem settle_id {F : Fm} {S : List Fm} (h : F.left ≠ 0) : settleF F S = (F, S) := by
 cases S with
 | nil => rfl
 | cons E U => rw [settleF, if_neg h]
theorem pop_upd {x : Nd} {ks : Fo} {F P : Fm} {B : Int} (hB : B ≤ 2 ^ 40) (hk : kidV x = ks.cnt) (hks : ks.ok) (hP : P.x = x) (hPd : P.dep = ks.dep) (hPt : P.tot = if kidV x = 0 then min 4097 x.n else ks.tot) (hl : 1 ≤ F.left ∧ F.left ≤ 2 ^ 40) (hd : 0 ≤ F.dep ∧ F.dep ≤ B) (hx : 1 + (enc ks).length ≤ B) (ht : 0 ≤ F.tot ∧ F.tot ≤ 4097) :
 pop1 P F = upd F (one x ks) := by
 have h1 := dep_rng ks
 have h2 := tot_rng hks
 have hn := kidV_pos (x := x) (by rw [hk]; omega)
 have e1 : IntKind.i64.wrap (F.left - 1) = F.left - 1 := wrap64_id (by unfold i64; omega)
 have e2 : IntKind.i64.wrap (P.dep + 1) = 1 + ks.dep := by rw [hPd, wrap64_id (by unfold i64; omega)]; omega
 have e3 : (if P.x.k = 4 then timV P.x.n P.tot else P.tot) = lenX x ks.tot := by
  rw [hP]
  unfold lenX
  by_cases c : x.k = 4
  ·have hk1 := k4 c (by rw [hk]; omega)
   rw [if_pos c, if_pos c, hPt, if_neg (by omega)]
   unfold timV
   have m1 : 0 ≤ min 4097 x.n * ks.tot := Int.mul_nonneg (by omega) h2.1
   have m2 : min 4097 x.n * ks.tot ≤ 4097 * 4097 := Int.mul_le_mul (by omega) h2.2 h2.1 (by decide)
   rw [wrap64_id (by unfold i64; omega)]
  ·rw [if_neg c, if_neg c, hPt]
 have hL := lenX_rng (x := x) (by rw [hk]; omega) h2
 have e4 : addV F.tot (lenX x ks.tot) = min 4097 (F.tot + min 4097 (lenX x ks.tot + 0)) := by
  unfold addV
  rw [wrap64_id (by unfold i64; omega), Int.add_zero]
 unfold pop1 upd one
 rw [e1, e2, e3, e4]
 simp only [cnt, dep, tot]
 congr 1
 omega
theorem run_fo : ∀ (f : Fo) (F : Fm) (S : List Fm) (B : Int), f.ok → f ≠ nil → B ≤ 2 ^ 40 → (f.cnt : Int) ≤ F.left → F.left ≤ 2 ^ 40 → 0 ≤ F.dep → F.dep ≤ B → ((enc f).length : Int) ≤ B → 0 ≤ F.tot → F.tot ≤ 4097 → (enc f).foldl push (F, S) = settleF (upd F f) S
 | nil, _, _, _, _, h, _, _, _, _, _, _, _, _ => absurd rfl h
 | cons x ks r, F, S, B, hok, _, hB, hc, hl, hd0, hd, hlen, ht0, ht => by
   obtain ⟨hk, hks, hr⟩ := hok
   simp only [cnt] at hc
   simp only [enc, List.length_cons, List.length_append] at hlen
   have hkd := dep_rng ks
   have hkt := tot_rng hks
   -- the first one, whole
   have first : (enc ks).foldl push (push (F, S) x) = settleF (upd F (one x ks)) S := by
    by_cases c : ks.cnt = 0
    ·have e := cnt_zero c
     subst e
     have hk0 : kidV x = 0 := by rw [hk]; rfl
     show push (F, S) x = _
     unfold push
     rw [settleF, if_pos (by unfold mk; exact hk0)]
     rw [pop_upd (x := x) (ks := nil) hB hk hks rfl rfl (by unfold mk; rw [if_pos hk0, if_pos hk0]) ⟨by omega, hl⟩ ⟨hd0, hd⟩ (by simp only [enc, List.length_nil]; omega) ⟨ht0, ht⟩]
    ·have hk1 : kidV x ≠ 0 := by rw [hk]; omega
     have hp : push (F, S) x = (mk x, F :: S) := by unfold push; exact settle_id (by unfold mk; exact hk1)
     have hkr := kidV_rng x
     have hm0 : (mk x).tot = 0 := by unfold mk; rw [if_neg hk1]
     rw [hp, run_fo ks (mk x) (F :: S) B hks (fun e => c (by rw [e]; rfl)) hB (by show (ks.cnt : Int) ≤ kidV x; omega) (by show kidV x ≤ _; omega) (by show (0 : Int) ≤ 0; omega) (by show (0 : Int) ≤ B; omega) (by omega) (by rw [hm0]; omega) (by rw [hm0]; omega)]
     rw [settleF, if_pos (by show kidV x - (ks.cnt : Int) = 0; omega)]
     rw [pop_upd (x := x) (ks := ks) hB hk hks rfl (by show max 0 ks.dep = _; omega) (by show min 4097 ((mk x).tot + ks.tot) = _; rw [hm0, if_neg hk1]; omega) ⟨by omega, hl⟩ ⟨hd0, hd⟩ (by omega) ⟨ht0, ht⟩]
   show ((enc ks ++ enc r).foldl push (push (F, S) x)) = _
   rw [List.foldl_append, first]
   have hone : (one x ks).ok := ⟨hk, hks, trivial⟩
   have h1t := tot_rng hone
   have h1d := dep_rng (one x ks)
   by_cases c : r = nil
   ·subst c; rfl
   ·have hrc : 1 ≤ r.cnt := by
     cases r with
     | nil => exact absurd rfl c
     | cons y k r => simp only [cnt]; omega
    have hrt := tot_rng hr
    have hrd := dep_rng r
    have e1 : (upd F (one x ks)).left = F.left - 1 := by unfold upd one; simp only [cnt]; omega
    have e2 : (upd F (one x ks)).dep = max F.dep (1 + ks.dep) := by unfold upd one; simp only [dep]; omega
    have e3 : (upd F (one x ks)).tot = min 4097 (F.tot + (one x ks).tot) := rfl
    rw [settle_id (by rw [e1]; omega), run_fo r (upd F (one x ks)) S B hr c hB (by rw [e1]; omega) (by rw [e1]; omega) (by rw [e2]; omega) (by rw [e2]; omega) (by omega) (by rw [e3]; omega) (by rw [e3]; omega)]
    congr 1
    unfold upd one
    simp only [cnt, dep, tot]
    have hL := lenX_rng (x := x) (by rw [hk]; omega) hkt
    congr 1
    ·omega
    ·omega
    ·omega
theorem scan_fo : ∀ (f : Fo) (r : List Nd) (s c : Int), f.ok → (f ≠ nil → (f.cnt : Int) = s → scan (enc f ++ r) s c = c + (enc f).length) ∧ ((f.cnt : Int) < s → scan (enc f ++ r) s c = scan r (s - f.cnt) (c + (enc f).length))
 | nil, r, s, c, _ => ⟨fun h => absurd rfl h, fun _ => by
    show scan r s c = scan r (s - ((0 : Nat) : Int)) (c + ((0 : Nat) : Int))
    congr 1 <;> omega⟩
 | cons x ks r', r, s, c, hok => by
   obtain ⟨hk, hks, hr⟩ := hok
   have hc : (cons x ks r').cnt = 1 + r'.cnt := rfl
   have e : enc (cons x ks r') ++ r = x :: (enc ks ++ (enc r' ++ r)) := by simp [enc]
   have hlen : ((enc (cons x ks r')).length : Int) = 1 + (enc ks).length + (enc r').length := by simp only [enc, List.length_cons, List.length_append]; omega
   rw [e, scan, if_neg (by omega), hlen, hc]
   refine ⟨fun _ hs => ?_, fun hs => ?_⟩
   ·by_cases q : r' = nil
    ·subst q
     have hs1 : s = 1 := by have : nil.cnt = 0 := rfl
                            omega
     have hz : ((enc nil).length : Int) = 0 := rfl
     by_cases a : ks = nil
     ·subst a
      have h0 : nil.cnt = 0 := rfl
      rw [if_pos (by omega)]; omega
     ·have h1 : ks.cnt ≠ 0 := fun h => a (cnt_zero h)
      rw [if_neg (by omega), (scan_fo ks (enc nil ++ r) (s + (kidV x - 1)) (c + 1) hks).1 a (by omega)]; omega
    ·have h1 : r'.cnt ≠ 0 := fun h => q (cnt_zero h)
     rw [if_neg (by omega), (scan_fo ks (enc r' ++ r) (s + (kidV x - 1)) (c + 1) hks).2 (by omega), (scan_fo r' r _ _ hr).1 q (by omega)]; omega
   ·rw [if_neg (by omega), (scan_fo ks (enc r' ++ r) (s + (kidV x - 1)) (c + 1) hks).2 (by omega), (scan_fo r' r _ _ hr).2 (by omega)]
    congr 1
    ·omega
    ·omega
theorem size_one {x : Nd} {ks : Fo} (h : (one x ks).ok) (pre post : List Nd) : sizeV (pre ++ (enc (one x ks) ++ post)) pre.length = (enc (one x ks)).length := by
 have hp : 0 < (enc (one x ks)).length := enc_pos (by intro e; cases e)
 unfold sizeV
 rw [if_neg (by simp only [List.length_append]; omega), Int.toNat_natCast, List.drop_left' rfl, (scan_fo (one x ks) post 1 0 h).1 (by intro e; cases e) rfl]
 omega
theorem whole_one {x : Nd} {ks : Fo} (h : (one x ks).ok) : wholeV (enc (one x ks)) = true := by
 have hp : 0 < (enc (one x ks)).length := enc_pos (by intro e; cases e)
 have := size_one h [] []
 rw [List.nil_append, List.append_nil] at this
 have this : sizeV (enc (one x ks)) 0 = (enc (one x ks)).length := this
 unfold wholeV
 rw [decide_eq_true hp, decide_eq_true this]; rfl
theorem run_one {x : Nd} {ks : Fo} (h : (one x ks).ok) (hl : (enc (one x ks)).length ≤ 2 ^ 40) : (botF (runS (enc (one x ks)))).dep = (one x ks).dep ∧ (botF (runS (enc (one x ks)))).tot = (one x ks).tot := by
 have hd := dep_rng (one x ks)
 have ht := tot_rng h
 have := run_fo (one x ks) sent [] (2 ^ 40) h (by intro e; cases e) (Int.le_refl _) (by show (1 : Int) ≤ 1; omega) (by decide) (by decide) (by decide) (by omega) (by decide) (by decide)
 unfold runS
 rw [this]
 show max 0 (one x ks).dep = _ ∧ min 4097 (0 + (one x ks).tot) = _
 omega
theorem dep_one {x : Nd} {ks : Fo} (h : (one x ks).ok) (hl : (enc (one x ks)).length ≤ 2 ^ 40) : depV (enc (one x ks)) = 1 + ks.dep := by
 unfold depV
 rw [if_pos (whole_one h), (run_one h hl).1]
 have := dep_rng ks
 show max (1 + ks.dep) 0 = _
 omega
theorem tot_one {x : Nd} {ks : Fo} (h : (one x ks).ok) : (one x ks).tot = lenX x ks.tot := by
 have := lenX_rng (x := x) (by rw [h.1]; omega) (tot_rng h.2.1)
 show min 4097 (lenX x ks.tot + 0) = _
 omega
theorem len_one {x : Nd} {ks : Fo} (h : (one x ks).ok) (hl : (enc (one x ks)).length ≤ 2 ^ 40) : lenV (enc (one x ks)) = if lenX x ks.tot ≤ 4096 then (lenX x ks.tot, true) else (0, false) := by
 unfold lenV
 rw [(run_one h hl).2, tot_one h]
 by_cases c : lenX x ks.tot ≤ 4096
 ·rw [if_pos ⟨whole_one h, c⟩, if_pos c]
 ·rw [if_neg (fun e => c e.2), if_neg c]
end Fo
def encI (k : Nat) : List GV := [.v (.int .i64 (k : Int))]
def kch (l : List Nd) : Nat → Nat → List Nat → Prop
 | i, e, [] => e ≤ i
 | i, e, k :: K => k = i ∧ i < e ∧ 1 ≤ sizeV l i ∧ kch l (i + (sizeV l i).toNat) e K
def kidsAt (l : List Nd) (a : Nat) (K : List Nat) : Prop := (0 < sizeV l a → kch l (a + 1) (a + (sizeV l a).toNat) K) ∧ (sizeV l a = 0 → K = [])
theorem kch_len {l : List Nd} : ∀ {K : List Nat} {i e : Nat}, kch l i e K → i ≤ e → K.length ≤ e - i
 | [], i, e, _, _ => Nat.zero_le _
 | k :: K, i, e, h, he => by
   obtain ⟨rfl, h1, h2, h3⟩ := h
   by_cases c : k + (sizeV l k).toNat ≤ e
   ·have := kch_len h3 c
    rw [List.length_cons]; omega
   ·cases K with
    | nil => rw [List.length_cons, List.length_nil]; omega
    | cons k' K' => exact absurd h3.2.1 (by omega)
namespace Fo
def kpos : Nat → Fo → List Nat
 | _, nil => []
 | i, cons x ks r => i :: kpos (i + (enc (one x ks)).length) r
theorem kpos_ch : ∀ (f : Fo) (pre post : List Nd), f.ok → kch (pre ++ (enc f ++ post)) pre.length (pre.length + (enc f).length) (kpos pre.length f)
 | nil, pre, post, _ => by simp [kpos, kch, enc]
 | cons x ks r, pre, post, h => by
   have h1 : (one x ks).ok := ⟨h.1, h.2.1, trivial⟩
   have e : enc (cons x ks r) = enc (one x ks) ++ enc r := by simp [enc, one]
   have hs := size_one h1 pre (enc r ++ post)
   have ih := kpos_ch r (pre ++ enc (one x ks)) post h.2.2
   have hp : 0 < (enc (one x ks)).length := enc_pos (by intro e; cases e)
   rw [List.length_append] at ih
   have e2 : pre ++ (enc (cons x ks r) ++ post) = pre ++ (enc (one x ks) ++ (enc r ++ post)) := by rw [e, List.append_assoc]
   have e3 : pre ++ (enc (one x ks) ++ (enc r ++ post)) = pre ++ enc (one x ks) ++ (enc r ++ post) := by rw [List.append_assoc]
   have e4 : (enc (cons x ks r)).length = (enc (one x ks)).length + (enc r).length := by rw [e, List.length_append]
   rw [e2, kpos]
   refine ⟨rfl, by omega, by rw [hs]; omega, ?_⟩
   rw [hs, Int.toNat_natCast, e4, ← Nat.add_assoc, e3]
   exact ih
theorem kids_one {x : Nd} {ks : Fo} (h : (one x ks).ok) : kidsAt (enc (one x ks)) 0 (kpos 1 ks) := by
 have hs := size_one h [] []
 rw [List.nil_append, List.append_nil] at hs
 have hs : sizeV (enc (one x ks)) ((0 : Nat) : Int) = (enc (one x ks)).length := hs
 have hp : 0 < (enc (one x ks)).length := enc_pos (by intro e; cases e)
 refine ⟨fun _ => ?_, fun e => by omega⟩
 have := kpos_ch ks [x] [] h.2.1
 have e : [x] ++ (enc ks ++ []) = enc (one x ks) := by simp [enc, one]
 have e2 : (enc (one x ks)).length = 1 + (enc ks).length := by simp [enc, one]; omega
 rw [e] at this
 rw [hs, Int.toNat_natCast, e2, Nat.zero_add, Nat.zero_add]
 exact this
end Fo
def deq (x y : Nd) : Bool := x.k == y.k && (x.p == y.p && (x.n == y.n && true))
theorem deq_eq (x y : Nd) : deq x y = decide (x = y) := by
 obtain ⟨a, b, c⟩ := x
 obtain ⟨a', b', c'⟩ := y
 unfold deq
 by_cases h : (⟨a, b, c⟩ : Nd) = ⟨a', b', c'⟩
 ·rw [decide_eq_true h]; cases h; simp
 ·rw [decide_eq_false h]
  simp only [Nd.mk.injEq] at h
  simp
  omega
theorem deq_t {x y : Nd} (h : true = deq x y) : x = y := of_decide_eq_true ((deq_eq x y).symm.trans h.symm)
theorem deq_f {x y : Nd} (h : ¬ true = deq x y) : x ≠ y := fun e => h (((deq_eq x y).trans (decide_eq_true e)).symm)
namespace Fo
def app : Fo → Fo → Fo
 | nil, g => g
 | cons x ks r, g => cons x ks (app r g)
theorem enc_app : ∀ (f g : Fo), enc (app f g) = enc f ++ enc g
 | nil, g => rfl
 | cons x ks r, g => by simp only [app, enc, enc_app r g, List.cons_append, List.append_assoc]
theorem cnt_app : ∀ (f g : Fo), cnt (app f g) = cnt f + cnt g
 | nil, g => by simp [app, cnt]
 | cons x ks r, g => by simp only [app, cnt, cnt_app r g]; omega
theorem ok_app : ∀ {f g : Fo}, f.ok → g.ok → (app f g).ok
 | nil, g, _, h => h
 | cons x ks r, g, h, k => ⟨h.1, h.2.1, ok_app h.2.2 k⟩
theorem dep_app : ∀ (f g : Fo), dep (app f g) = max (dep f) (dep g)
 | nil, g => by have := dep_rng g; simp only [app, dep]; omega
 | cons x ks r, g => by simp only [app, dep, dep_app r g]; omega
theorem tot_app : ∀ (f g : Fo), g.ok → f.ok → tot (app f g) ≤ tot f + tot g
 | nil, g, _, _ => by simp [app, tot]
 | cons x ks r, g, h, k => by
   have ih := tot_app r g h k.2.2
   have h1 := tot_rng h
   simp only [app, tot]; omega
def tl : Nat → Nat
 | 0 => 1
 | d + 1 => 1 + 4 * tl d
def TB (d : Nat) (x : Nd) (ks : Fo) : Prop := (one x ks).ok ∧ (enc (one x ks)).length ≤ tl d ∧ 1 + ks.dep ≤ d + 1 ∧ (one x ks).tot ≤ 4 ^ (d + 1)
def FB (d : Nat) (i : Nat) (f : Fo) : Prop := f.ok ∧ f.cnt = i ∧ (enc f).length ≤ i * tl d ∧ f.dep ≤ d + 1 ∧ f.tot ≤ i * 4 ^ (d + 1)
theorem tl_pos : ∀ d, 1 ≤ tl d
 | 0 => Nat.le_refl _
 | d + 1 => by simp only [tl]; omega
theorem pow_pos4 (d : Nat) : (4 : Int) ≤ 4 ^ (d + 1) := by
 have : (1 : Int) ≤ 4 ^ d := by have : (0 : Int) < 4 ^ d := Int.pow_pos (by decide); omega
 rw [Int.pow_succ]; omega
theorem tb_leaf {x : Nd} (d : Nat) (hk : kidV x = 0) (hn : x.n ≤ 4) : TB d x nil := by
 have h := tl_pos d
 have hp := pow_pos4 d
 have h0 : (one x nil).ok := ⟨by rw [hk]; rfl, trivial, trivial⟩
 refine ⟨h0, by simpa [enc, one] using h, by simp only [dep]; omega, ?_⟩
 rw [tot_one h0]
 unfold lenX
 have h4 : x.k ≠ 4 := fun e => by have := k4 e (by omega); omega
 rw [if_neg h4, if_pos hk]; omega
theorem tb_rep {x : Nd} {ks : Fo} {d : Nat} {y : Nd} (h : TB d x ks) (hk : y.k = 4) (hp : y.p = 0) (hn : 1 ≤ y.n ∧ y.n ≤ 3) : TB (d + 1) y (one x ks) := by
 obtain ⟨h1, h2, h3, h4⟩ := h
 have hv : kidV y = 1 := by unfold kidV; (repeat' split) <;> omega
 have h0 : (one y (one x ks)).ok := ⟨by rw [hv]; rfl, h1, trivial⟩
 have hr := tot_rng h1
 have hd := dep_rng ks
 refine ⟨h0, ?_, ?_, ?_⟩
 ·have : (enc (one y (one x ks))).length = 1 + (enc (one x ks)).length := by simp only [enc, one, List.length_cons, List.length_append, List.length_nil]; omega
  rw [this]; simp only [tl]; omega
 ·show 1 + max (1 + ks.dep) 0 ≤ _
  omega
 ·rw [tot_one h0]
  unfold lenX
  rw [if_pos hk, show min 4097 y.n = y.n by omega]
  have m : y.n * (one x ks).tot ≤ 3 * (one x ks).tot := Int.mul_le_mul_of_nonneg_right hn.2 hr.1
  have e : (4 : Int) ^ (d + 1 + 1) = 4 ^ (d + 1) * 4 := Int.pow_succ ..
  omega
theorem fb_app {d i : Nat} {f : Fo} {x : Nd} {ks : Fo} (hf : FB d i f) (h : TB d x ks) : FB d (i + 1) (app f (one x ks)) := by
 obtain ⟨a1, a2, a3, a4, a5⟩ := hf
 obtain ⟨h1, h2, h3, h4⟩ := h
 have ht := tot_app f (one x ks) h1 a1
 have hd := dep_rng ks
 refine ⟨ok_app a1 h1, by rw [cnt_app, a2]; rfl, ?_, ?_, ?_⟩
 ·rw [enc_app, List.length_append, Nat.add_mul]; omega
 ·rw [dep_app]; show max f.dep (max (1 + ks.dep) 0) ≤ _; omega
 ·have : (((i + 1 : Nat) : Int)) * 4 ^ (d + 1) = i * 4 ^ (d + 1) + 4 ^ (d + 1) := by rw [Int.natCast_add, Int.add_mul]; simp
  rw [this]; omega
theorem fb_nil (d : Nat) : FB d 0 nil := ⟨trivial, rfl, by simp [enc], by simp only [dep]; omega, by simp [tot]⟩
theorem tb_seq {d : Nat} {f : Fo} {y : Nd} {n : Nat} (hf : FB d n f) (hk : y.k = 3) (hp : y.p = 0) (hy : y.n = n) (hn : 1 ≤ n ∧ n ≤ 4) : TB (d + 1) y f := by
 obtain ⟨a1, a2, a3, a4, a5⟩ := hf
 have hv : kidV y = n := by unfold kidV; (repeat' split) <;> omega
 have h0 : (one y f).ok := ⟨by rw [hv, a2], a1, trivial⟩
 have hd := dep_rng f
 refine ⟨h0, ?_, by omega, ?_⟩
 ·have : (enc (one y f)).length = 1 + (enc f).length := by simp only [enc, one, List.length_cons, List.length_append, List.length_nil]; omega
  rw [this]
  have := Nat.mul_le_mul_right (tl d) hn.2
  simp only [tl]; omega
 ·rw [tot_one h0]
  unfold lenX
  rw [if_neg (by omega), if_neg (by omega)]
  have hp := pow_pos4 d
  have m : (n : Int) * 4 ^ (d + 1) ≤ 4 * 4 ^ (d + 1) := Int.mul_le_mul_of_nonneg_right (by omega) (by omega)
  have e : (4 : Int) ^ (d + 1 + 1) = 4 ^ (d + 1) * 4 := Int.pow_succ ..
  omega
end Fo
theorem kid_idle {n : Int} (h : 1 ≤ n) : kidV ⟨2, 0, n⟩ = 0 := by
 unfold kidV; rw [if_neg (by dsimp only; omega), if_pos (by dsimp only; omega)]
theorem kid_win {w n : Int} (h : 1 ≤ n) (hw : 0 ≤ w ∧ w < 6) : kidV ⟨1, w, n⟩ = 0 := by
 unfold kidV; rw [if_neg (by dsimp only; omega), if_pos (by dsimp only; omega)]
namespace Fo
end Fo
namespace Fo
def totU : Fo → Int
 | nil => 0
 | cons x ks r => lenX x ks.tot + totU r
theorem totU_nn : ∀ {f : Fo}, f.ok → 0 ≤ f.totU
 | nil, _ => by simp [totU]
 | cons x ks r, h => by
   have h1 := totU_nn h.2.2
   have h3 := lenX_rng (x := x) (by rw [h.1]; omega) (tot_rng h.2.1)
   simp only [totU]; omega
theorem tot_U : ∀ {f : Fo}, f.ok → f.tot = min 4097 f.totU
 | nil, _ => by simp only [tot, totU]; omega
 | cons x ks r, h => by
   have h1 := tot_U h.2.2
   have h2 := totU_nn h.2.2
   have h3 := lenX_rng (x := x) (by rw [h.1]; omega) (tot_rng h.2.1)
   simp only [tot, totU]; omega
theorem totU_app : ∀ (f g : Fo), totU (app f g) = totU f + totU g
 | nil, g => by simp [app, totU]
 | cons x ks r, g => by simp only [app, totU, totU_app r g]; omega
theorem kpos_len : ∀ (f : Fo) (p : Nat), (kpos p f).length = f.cnt
 | nil, _ => rfl
 | cons x ks r, p => by rw [kpos, List.length_cons, kpos_len r]; simp only [cnt]; omega
theorem kpos_app : ∀ (f g : Fo) (p : Nat), kpos p (app f g) = kpos p f ++ kpos (p + (enc f).length) g
 | nil, g, p => by simp [app, kpos, enc]
 | cons x ks r, g, p => by
   have e : (enc (cons x ks r)).length = (enc (one x ks)).length + (enc r).length := by simp [enc, one]; omega
   rw [app, kpos, kpos_app r g, kpos, e, Nat.add_assoc]; rfl
theorem kpos_at {f : Fo} {y : Nd} {js r : Fo} (p : Nat) : (kpos p (app f (cons y js r)))[f.cnt]? = some (p + (enc f).length) := by
 rw [kpos_app, List.getElem?_append_right (by rw [kpos_len]; exact Nat.le_refl _), kpos_len, Nat.sub_self]; rfl
theorem ok_parts : ∀ {f g : Fo}, (app f g).ok → f.ok ∧ g.ok
 | nil, g, h => ⟨trivial, h⟩
 | cons x ks r, g, h => by
   have := ok_parts (f := r) (g := g) h.2.2
   exact ⟨⟨h.1, h.2.1, this.1⟩, this.2⟩
theorem kind_cases {x : Nd} (h : 0 ≤ kidV x) : (x.k = 1 ∨ x.k = 2) ∧ kidV x = 0 ∨ x.k = 3 ∧ kidV x = x.n ∨ x.k = 4 ∧ kidV x = 1 := by
 unfold kidV at h ⊢
 (repeat' split at h) <;> (repeat' split) <;> omega
end Fo
namespace Fo
theorem cnt_le : ∀ (f : Fo), cnt f ≤ (enc f).length
 | nil => Nat.le_refl _
 | cons x ks r => by have := cnt_le r; simp only [cnt, enc, List.length_cons, List.length_append]; omega
theorem app_nil : ∀ (f : Fo), app f nil = f
 | nil => rfl
 | cons x ks r => by rw [app, app_nil r]
theorem app_assoc : ∀ (f g k : Fo), app (app f g) k = app f (app g k)
 | nil, g, k => rfl
 | cons x ks r, g, k => by simp only [app, app_assoc r g k]
end Fo
theorem kidV_k {x : Nd} (h : 0 ≤ kidV x) : kidV x = (if x.k = 3 then x.n else 0) + (if x.k = 4 then 1 else 0) := by
 unfold kidV at h ⊢
 (repeat' split at h) <;> (repeat' split) <;> omega
namespace Fo
theorem split_cnt : ∀ (g : Fo) (n : Nat), n ≤ g.cnt → ∃ a b, g = app a b ∧ a.cnt = n
 | g, 0, _ => ⟨nil, g, rfl, rfl⟩
 | nil, n + 1, h => by simp only [cnt] at h; omega
 | cons x ks r, n + 1, h => by
   simp only [cnt] at h
   obtain ⟨a, b, e1, e2⟩ := split_cnt r n (by omega)
   exact ⟨cons x ks a, b, by rw [app, ← e1], by simp only [cnt]; omega⟩
theorem parse : ∀ (l : List Nd) (s c : Int), 1 ≤ s → 0 ≤ c → 0 < scan l s c → ∃ (f : Fo) (r : List Nd), l = enc f ++ r ∧ f.ok ∧ (f.cnt : Int) = s ∧ scan l s c = c + (enc f).length
 | [], s, c, _, _, h => by simp [scan] at h
 | x :: l, s, c, hs, hc, h => by
   rw [scan] at h ⊢
   by_cases c1 : kidV x < 0
   ·rw [if_pos c1] at h; omega
   ·rw [if_neg c1] at h ⊢
    by_cases c2 : s + (kidV x - 1) = 0
    ·rw [if_pos c2]
     have hk : kidV x = 0 := by omega
     exact ⟨one x nil, l, by simp [enc, one], ⟨by rw [hk]; rfl, trivial, trivial⟩, by show ((1 + 0 : Nat) : Int) = s; omega, by simp [enc, one]⟩
    ·rw [if_neg c2] at h ⊢
     obtain ⟨g, r, e1, e2, e3, e4⟩ := parse l _ (c + 1) (by omega) (by omega) h
     obtain ⟨a, b, e5, e6⟩ := split_cnt g (kidV x).toNat (by omega)
     have e7 := cnt_app a b
     rw [← e5] at e7
     have hp := ok_parts (f := a) (g := b) (by rw [← e5]; exact e2)
     have e8 : enc g = enc a ++ enc b := by rw [e5, enc_app]
     refine ⟨cons x a b, r, by rw [e1, e8]; simp [enc], ⟨by omega, hp.1, hp.2⟩, by simp only [cnt]; omega, ?_⟩
     rw [e4, e8]; simp only [enc, List.length_cons, List.length_append]; omega
theorem whole_tree {l : List Nd} (h : wholeV l = true) : ∃ x ks, l = enc (one x ks) ∧ (one x ks).ok := by
 unfold wholeV at h
 simp only [Bool.and_eq_true, decide_eq_true_eq] at h
 have hs : sizeV l 0 = scan l 1 0 := by unfold sizeV; rw [if_neg (by omega)]; rfl
 rw [hs] at h
 obtain ⟨f, r, e1, e2, e3, e4⟩ := parse l 1 0 (by decide) (by decide) (by omega)
 have hr : r = [] := by
  have := congrArg List.length e1
  rw [List.length_append] at this
  exact List.eq_nil_of_length_eq_zero (by omega)
 cases f with
 | nil => have h0 : nil.cnt = 0 := rfl
          omega
 | cons x ks r' =>
   have h0 : (cons x ks r').cnt = 1 + r'.cnt := rfl
   have := cnt_zero (f := r') (by omega)
   subst this
   exact ⟨x, ks, by rw [e1, hr, List.append_nil]; rfl, e2⟩
theorem kids_at {x : Nd} {ks : Fo} (h : (one x ks).ok) (pre post : List Nd) : kidsAt (pre ++ (enc (one x ks) ++ post)) pre.length (kpos (pre.length + 1) ks) := by
 have hs := size_one h pre post
 have hp : 0 < (enc (one x ks)).length := enc_pos (by intro e; cases e)
 refine ⟨fun _ => ?_, fun e => by omega⟩
 have := kpos_ch ks (pre ++ [x]) post h.2.1
 have e : (pre ++ [x]) ++ (enc ks ++ post) = pre ++ (enc (one x ks) ++ post) := by simp [enc, one]
 have e2 : (enc (one x ks)).length = 1 + (enc ks).length := by simp [enc, one]; omega
 rw [e, List.length_append] at this
 rw [hs, Int.toNat_natCast, e2, ← Nat.add_assoc]
 exact this
end Fo
namespace Fo
theorem at_one (x : Nd) (ks : Fo) (pre post : List Nd) : (pre ++ (enc (one x ks) ++ post))[pre.length]? = some x := by
 rw [List.getElem?_append_right (Nat.le_refl _), Nat.sub_self]; rfl
theorem lens_val {x : Nd} {ks : Fo} (h : (one x ks).ok) : (x.k = 3 → lenX x ks.tot = min ks.totU 4097) ∧ (x.k = 4 → lenX x ks.tot = min (min ks.totU 4097 * min x.n 4097) 4097) ∧ (x.k ≠ 3 ∧ x.k ≠ 4 → lenX x ks.tot = min x.n 4097) := by
 have hk : kidV x = ks.cnt := h.1
 have hn := kidV_pos (x := x) (by rw [hk]; omega)
 have hU := tot_U h.2.1
 have hU0 := totU_nn h.2.1
 have hc := kind_cases (x := x) (by rw [hk]; omega)
 refine ⟨fun c => ?_, fun c => ?_, fun c => ?_⟩
 ·unfold lenX
  rw [if_neg (by omega), if_neg (by omega), hU]; omega
 ·unfold lenX
  rw [if_pos c, hU, show min 4097 x.n = min x.n 4097 by omega, show min 4097 ks.totU = min ks.totU 4097 by omega, Int.mul_comm (min x.n 4097)]; omega
 ·unfold lenX
  rw [if_neg (by omega), if_pos (by omega)]; omega
end Fo
namespace Fo
theorem dep_zero {l : List Nd} (hl : l.length ≤ 2 ^ 40) : (depV l = 0 → wholeV l = false) ∧ (depV l ≠ 0 → wholeV l = true) := by
 cases h : wholeV l with
 | false => exact ⟨fun _ => rfl, fun c => by unfold depV at c; rw [h] at c; simp at c⟩
 | true =>
   obtain ⟨x, ks, rfl, hx⟩ := whole_tree h
   have := dep_rng ks
   rw [dep_one hx hl]
   exact ⟨fun c => by omega, fun _ => rfl⟩
end Fo
end Go.AM.PL
set_option linter.all false
set_option maxRecDepth 10000
namespace Go.AM.PL
def tstep (R : List Rn) (r : Rn) : List Rn :=
 if r.n < 1 then R else match R with
 | [] => [r]
 | q :: Q => if q.p = r.p then ⟨q.p, sadd q.n r.n⟩ :: Q else r :: q :: Q
def tidyR (l : List Rn) : List Rn := l.foldl tstep []
def tidyV (l : List Rn) : List Rn := (tidyR l).reverse
def tickV (l : List Rn) (p : Int) : Int := l.foldl (fun n r => if r.p = p then sadd n r.n else n) 0
def both (a b : Int) (r : Rn) : Bool := (r.p == a) || (r.p == b)
def projV (l : List Rn) (a b : Int) : List Rn := tidyV (l.filter (both a b))
instance : DecidableEq Rn := fun x y => decidable_of_iff (x.p = y.p ∧ x.n = y.n) ⟨fun h => by cases x; cases y; simp at h; simp [h], fun h => by rw [h]; exact ⟨rfl, rfl⟩⟩
def toV (dep : List (List Bool)) (a b : Int) : Bool := ((((decide (a ≥ 0) && decide (b ≥ 0)) && decide (a < (dep.length : Int))) && decide (b < (((dep.getD a.toNat []).length : Nat) : Int))) && (dep.getD a.toNat []).getD b.toNat false)
def depV8 (dep : List (List Bool)) (a b : Int) : Bool := ((a == b) || toV dep a b) || toV dep b a
section
variable (a b : List Rn) (dep : List (List Bool))
end
theorem ok_app {X Y : List Rn} (hX : ∀ r ∈ X, okN r) (hY : ∀ r ∈ Y, okN r) : ∀ r ∈ X ++ Y, okN r := fun r hr => (List.mem_append.1 hr).elim (hX r) (hY r)
end Go.AM.PL
set_option linter.all false
set_option maxRecDepth 10000
namespace Go.AM.PL
end Go.AM.PL
set_option linter.all false
set_option maxRecDepth 10000
namespace Go.AM.PL
section
variable (a b : List Rn) (dep : List (List Bool))
def okP : Prop := (∀ x y : Nat, x ≤ y → y < 6 → depV8 dep x y = true → projV a x y = projV b x y) ∧ tickV a (-1) = tickV b (-1)
end
section
variable {a b c : List Rn} {dep all : List (List Bool)}
theorem okP.refl : okP a a dep := ⟨fun _ _ _ _ _ => rfl, rfl⟩
theorem okP.symm (h : okP a b dep) : okP b a dep := ⟨fun x y h1 h2 h3 => (h.1 x y h1 h2 h3).symm, h.2.symm⟩
theorem okP.trans (h : okP a b dep) (k : okP b c dep) : okP a c dep := ⟨fun x y h1 h2 h3 => (h.1 x y h1 h2 h3).trans (k.1 x y h1 h2 h3), h.2.trans k.2⟩
theorem okP.mono (h : okP a b all) (k : ∀ x y : Nat, depV8 dep x y = true → depV8 all x y = true) : okP a b dep := ⟨fun x y h1 h2 h3 => h.1 x y h1 h2 (k x y h3), h.2⟩
end
/-! a row that is tidied is the same to all -/
/-! two runs side by side turned about -/
/-! the word of a row -/
def word (l : List Rn) : List Int := l.flatMap fun r => List.replicate r.n.toNat r.p
theorem word_cons (r : Rn) (B : List Rn) : word (r :: B) = List.replicate r.n.toNat r.p ++ word B := rfl
/-! what a tidied row is -/
end Go.AM.PL
