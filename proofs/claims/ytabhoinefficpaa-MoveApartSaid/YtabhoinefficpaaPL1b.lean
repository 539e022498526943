/- Contracts of the functions that the statement reaches. No condition. -/
import Derived.Test.YtabhoinefficpaaPL1
set_option linter.all false
set_option maxRecDepth 10000
namespace Go.AM.PL
theorem stp_inj {c d : BitVec 32} (h : stp c = stp d) : c = d := by
  have key : ∀ c : BitVec 32, (stp c).getLsbD 0 = c.msb := fun c => by
    unfold stp
    rw [BitVec.getLsbD_xor, BitVec.getLsbD_shiftLeft]
    cases c.msb <;> simp [poly]
  have hm : c.msb = d.msb := by rw [← key c, ← key d, h]
  unfold stp at h
  rw [hm] at h
  have h2 : c <<< 1 = d <<< 1 := by
    have := congrArg (· ^^^ (if d.msb = true then poly else 0#32)) h
    simpa [BitVec.xor_assoc] using this
  have h3 := congrArg BitVec.toNat h2
  rw [BitVec.toNat_shiftLeft, BitVec.toNat_shiftLeft, Nat.shiftLeft_eq, Nat.shiftLeft_eq] at h3
  rw [BitVec.msb_eq_decide, BitVec.msb_eq_decide, decide_eq_decide] at hm
  apply BitVec.eq_of_toNat_eq
  have hc := c.isLt
  have hd := d.isLt
  omega
theorem x4 (a b p q : BitVec 32) : (a ^^^ b) ^^^ (p ^^^ q) = (a ^^^ p) ^^^ (b ^^^ q) := by ac_rfl
theorem stp_xor (c d : BitVec 32) : stp (c ^^^ d) = stp c ^^^ stp d := by
  unfold stp
  have e : (if (c ^^^ d).msb = true then poly else 0#32) = (if c.msb = true then poly else 0#32) ^^^ (if d.msb = true then poly else 0#32) := by
    rw [BitVec.msb_xor]
    cases c.msb <;> cases d.msb <;> simp
  rw [e, BitVec.shiftLeft_xor_distrib, x4]
theorem stp_zero : stp 0#32 = 0#32 := by decide
theorem stpn_xor : ∀ (n : Nat) (c d : BitVec 32), stpn n (c ^^^ d) = stpn n c ^^^ stpn n d
  | 0, _, _ => rfl
  | n + 1, c, d => by rw [stpn, stpn, stpn, stp_xor, stpn_xor n]
theorem stpn_inj : ∀ (n : Nat) {c d : BitVec 32}, stpn n c = stpn n d → c = d
  | 0, _, _, h => h
  | n + 1, _, _, h => stp_inj (stpn_inj n h)
theorem stpn_zero : ∀ n, stpn n 0#32 = 0#32
  | 0 => rfl
  | n + 1 => by rw [stpn, stp_zero, stpn_zero n]
theorem stpn_add : ∀ (n m : Nat) (c : BitVec 32), stpn (n + m) c = stpn m (stpn n c)
  | 0, m, c => by rw [Nat.zero_add]; rfl
  | n + 1, m, c => by rw [Nat.succ_add, stpn, stpn_add n m]; rfl
theorem byt_toNat (b : UInt8) : (byt b).toNat = b.toNat * 2 ^ 24 := by
  unfold byt
  rw [BitVec.toNat_shiftLeft, BitVec.toNat_ofNat, Nat.shiftLeft_eq]
  have := b.toNat_lt
  omega
theorem byt_inj {a b : UInt8} (h : byt a = byt b) : a = b := by
  have := congrArg BitVec.toNat h
  rw [byt_toNat, byt_toNat] at this
  exact UInt8.toNat_inj.1 (by omega)
theorem byt_xor (a b : UInt8) : byt (a ^^^ b) = byt a ^^^ byt b := by
  unfold byt
  rw [← BitVec.shiftLeft_xor_distrib]
  congr 1
  apply BitVec.eq_of_toNat_eq
  have ha := a.toNat_lt
  have hb := b.toNat_lt
  have hx := (a ^^^ b).toNat_lt
  rw [BitVec.toNat_xor, BitVec.toNat_ofNat, BitVec.toNat_ofNat, BitVec.toNat_ofNat, Nat.mod_eq_of_lt (by omega), Nat.mod_eq_of_lt (by omega), Nat.mod_eq_of_lt (by omega), UInt8.toNat_xor]
theorem nxt_inj {c d : BitVec 32} {b : UInt8} (h : nxt c b = nxt d b) : c = d := by
  have h2 := stpn_inj 8 h
  have := congrArg (· ^^^ byt b) h2
  simpa [BitVec.xor_assoc] using this
theorem nxt_injb {c : BitVec 32} {a b : UInt8} (h : nxt c a = nxt c b) : a = b := by
  have h2 := stpn_inj 8 h
  have := congrArg (c ^^^ ·) h2
  exact byt_inj (by simpa [← BitVec.xor_assoc] using this)
theorem nxt_xor (c d : BitVec 32) (a b : UInt8) : nxt (c ^^^ d) (a ^^^ b) = nxt c a ^^^ nxt d b := by
  unfold nxt
  rw [byt_xor, ← stpn_xor, x4]
theorem crc_app (c : BitVec 32) (a b : List UInt8) : crc c (a ++ b) = crc (crc c a) b := by unfold crc; rw [List.foldl_append]
theorem crc_inj : ∀ (l : List UInt8) {c d : BitVec 32}, crc c l = crc d l → c = d
  | [], _, _, h => h
  | b :: l, c, d, h => nxt_inj (crc_inj l (c := nxt c b) (d := nxt d b) h)
theorem crc_xor : ∀ (a b : List UInt8) (c d : BitVec 32), a.length = b.length → crc (c ^^^ d) (List.zipWith (· ^^^ ·) a b) = crc c a ^^^ crc d b
  | [], [], _, _, _ => rfl
  | [], _ :: _, _, _, h => by simp at h
  | _ :: _, [], _, _, h => by simp at h
  | x :: a, y :: b, c, d, h => by
    show crc (nxt (c ^^^ d) (x ^^^ y)) (List.zipWith _ a b) = crc (nxt c x) a ^^^ crc (nxt d y) b
    rw [nxt_xor, crc_xor a b _ _ (by simpa using h)]
theorem not_inj {c d : BitVec 32} (h : ~~~ c = ~~~ d) : c = d := by
  have := congrArg (fun x => ~~~ x) h
  simpa using this
/-- one byte turned: another sum -/
theorem sum_set {l : List UInt8} {k : Nat} (hk : k < l.length) {z : UInt8} (hz : z ≠ l[k]) : sumB (l.set k z) ≠ sumB l := fun h => by
  have h2 := not_inj h
  have e1 : l.set k z = l.take k ++ z :: l.drop (k + 1) := List.set_eq_take_append_cons_drop .. |>.trans (by rw [if_pos hk])
  have e2 : l = l.take k ++ l[k] :: l.drop (k + 1) := by rw [← List.drop_eq_getElem_cons hk, List.take_append_drop]
  rw [e1] at h2
  conv at h2 => rhs; rw [e2]
  rw [crc_app, crc_app] at h2
  have h3 : crc (nxt (crc 4294967295#32 (l.take k)) z) (l.drop (k + 1)) = crc (nxt (crc 4294967295#32 (l.take k)) l[k]) (l.drop (k + 1)) := h2
  exact hz (nxt_injb (crc_inj _ h3))
theorem b8_inj {a b : Int} (h : b8 a = b8 b) : a % 256 = b % 256 := by
  have := congrArg (fun x : UInt8 => (x.toNat : Int)) h
  simpa only [b8_val] using this
theorem tailB_inj {c d : BitVec 32} (h : tailB c = tailB d) : c = d := by
  have hf : ∀ (x : BitVec 32) (n : Nat), (I32 x).fdiv (2 ^ n) = ((x.toNat / 2 ^ n : Nat) : Int) := fun x n => by
    have := fdiv_nat x.toNat (2 ^ n)
    rw [Int.natCast_pow] at this
    exact this
  simp only [tailB, List.cons.injEq, and_true] at h
  obtain ⟨h1, h2, h3, h4⟩ := h
  have h1 := b8_inj h1
  have h2 := b8_inj h2
  have h3 := b8_inj h3
  have h4 := b8_inj h4
  rw [hf, hf] at h1 h2 h3
  apply BitVec.eq_of_toNat_eq
  have hc := c.isLt
  have hd := d.isLt
  unfold I32 at h4
  omega
theorem tailB_len (c : BitVec 32) : (tailB c).length = 4 := rfl
/-- what was sealed, a byte turned, is none -/
theorem open_turned {a : List UInt8} {k : Nat} (hk : k < (sealB a).length) {z : UInt8} (hz : z ≠ (sealB a)[k]) : openB ((sealB a).set k z) = false := by
  have hl := sealB_len a
  unfold openB
  rw [List.length_set, hl, show a.length + 4 - 4 = a.length by omega]
  suffices h : tailB (sumB (((sealB a).set k z).take a.length)) ≠ ((sealB a).set k z).drop a.length by rw [decide_eq_false h, Bool.and_false]
  intro h
  have e1 : (sealB a).take a.length = a := by unfold sealB; rw [List.take_left']; rfl
  have e2 : (sealB a).drop a.length = tailB (sumB a) := by unfold sealB; rw [List.drop_left']; rfl
  by_cases c : k < a.length
  · rw [List.take_set, List.drop_set, if_pos c, e1, e2] at h
    have hk2 : (sealB a)[k] = a[k] := by simp [sealB, c]
    exact sum_set c (by rw [← hk2]; exact hz) (tailB_inj h)
  · rw [List.take_set, List.set_eq_of_length_le (by rw [List.length_take]; omega), e1, List.drop_set, if_neg c, e2] at h
    have hj : k - a.length < (tailB (sumB a)).length := by rw [tailB_len]; omega
    have hk2 : (sealB a)[k] = (tailB (sumB a))[k - a.length] := by simp only [sealB]; rw [List.getElem_append_right (by omega)]
    have h3 := congrArg (fun l => l[k - a.length]?) h
    have h3 : (tailB (sumB a))[k - a.length]? = ((tailB (sumB a)).set (k - a.length) z)[k - a.length]? := h3
    rw [List.getElem?_set_self hj, List.getElem?_eq_getElem hj] at h3
    exact hz (by rw [hk2]; exact (Option.some.inj h3).symm)
theorem zip_zero : ∀ (a : List UInt8), List.zipWith (· ^^^ ·) a (List.replicate a.length 0) = a
  | [] => rfl
  | x :: a => by rw [List.length_cons, List.replicate_succ, List.zipWith_cons_cons, zip_zero a]; simp
theorem sums_xor (a b : List UInt8) (h : a.length = b.length) : sumB a ^^^ sumB b = crc 0#32 (List.zipWith (· ^^^ ·) a b) := by
  have e : ∀ (c d : BitVec 32), ~~~ c ^^^ ~~~ d = c ^^^ d := fun c d => by
    apply BitVec.eq_of_getLsbD_eq
    intro i hi
    simp only [BitVec.getLsbD_xor, BitVec.getLsbD_not, hi, decide_true, Bool.true_and]
    cases c.getLsbD i <;> cases d.getLsbD i <;> rfl
  unfold sumB
  rw [e, ← crc_xor a b _ _ h, BitVec.xor_self]
/-- zeros -/
theorem crc_zeros : ∀ (n : Nat), crc 0#32 (List.replicate n 0) = 0#32
  | 0 => rfl
  | n + 1 => by
    rw [List.replicate_succ]
    show crc (nxt 0#32 0) (List.replicate n 0) = 0#32
    rw [show nxt 0#32 0 = 0#32 by decide]
    exact crc_zeros n
def wrd (a b c d : UInt8) : BitVec 32 := ((byt a ^^^ BitVec.ofNat 32 (b.toNat * 2 ^ 16)) ^^^ BitVec.ofNat 32 (c.toNat * 2 ^ 8)) ^^^ BitVec.ofNat 32 d.toNat
theorem wrd_zero {a b c d : UInt8} (h : wrd a b c d = 0#32) : a = 0 ∧ b = 0 ∧ c = 0 ∧ d = 0 := by
  have ha := a.toNat_lt
  have hb := b.toNat_lt
  have hc := c.toNat_lt
  have hd := d.toNat_lt
  have h1 := congrArg BitVec.toNat h
  unfold wrd at h1
  rw [BitVec.toNat_xor, BitVec.toNat_xor, BitVec.toNat_xor, byt_toNat, BitVec.toNat_ofNat, BitVec.toNat_ofNat, BitVec.toNat_ofNat, Nat.mod_eq_of_lt (by omega), Nat.mod_eq_of_lt (by omega), Nat.mod_eq_of_lt (by omega)] at h1
  have h1 : ((a.toNat * 2 ^ 24 ^^^ b.toNat * 2 ^ 16) ^^^ c.toNat * 2 ^ 8) ^^^ d.toNat = 0 := h1
  have m1 := congrArg (· % 2 ^ 8) h1
  simp only [Nat.xor_mod_two_pow] at m1
  rw [show a.toNat * 2 ^ 24 % 2 ^ 8 = 0 by omega, show b.toNat * 2 ^ 16 % 2 ^ 8 = 0 by omega, show c.toNat * 2 ^ 8 % 2 ^ 8 = 0 by omega] at m1
  simp only [Nat.xor_self, Nat.zero_xor] at m1
  have d0 : d.toNat = 0 := by omega
  rw [d0, Nat.xor_zero] at h1
  have m2 := congrArg (· / 2 ^ 8 % 2 ^ 8) h1
  simp only [Nat.xor_div_two_pow, Nat.xor_mod_two_pow] at m2
  rw [show a.toNat * 2 ^ 24 / 2 ^ 8 % 2 ^ 8 = 0 by omega, show b.toNat * 2 ^ 16 / 2 ^ 8 % 2 ^ 8 = 0 by omega] at m2
  simp only [Nat.xor_self, Nat.zero_xor] at m2
  have c0 : c.toNat = 0 := by omega
  rw [c0, Nat.zero_mul, Nat.xor_zero] at h1
  have m3 := congrArg (· / 2 ^ 16 % 2 ^ 8) h1
  simp only [Nat.xor_div_two_pow, Nat.xor_mod_two_pow] at m3
  rw [show a.toNat * 2 ^ 24 / 2 ^ 16 % 2 ^ 8 = 0 by omega] at m3
  simp only [Nat.zero_xor] at m3
  have b0 : b.toNat = 0 := by omega
  rw [b0, Nat.zero_mul, Nat.xor_zero] at h1
  have a0 : a.toNat = 0 := by omega
  have z : ∀ x : UInt8, x.toNat = 0 → x = 0 := fun x h => UInt8.toNat_inj.1 h
  exact ⟨z a a0, z b b0, z c c0, z d d0⟩
theorem stp_small (c : BitVec 32) (h : c.toNat < 2 ^ 31) : (stp c).toNat = c.toNat * 2 := by
  unfold stp
  have : c.msb = false := by rw [BitVec.msb_eq_decide]; exact decide_eq_false (by omega)
  rw [this, if_neg (by simp), BitVec.xor_zero, BitVec.toNat_shiftLeft, Nat.shiftLeft_eq]
  omega
theorem stpn_small : ∀ (n : Nat) (c : BitVec 32), c.toNat * 2 ^ n < 2 ^ 32 → (stpn n c).toNat = c.toNat * 2 ^ n
  | 0, c, _ => by simp [stpn]
  | n + 1, c, h => by
    have h1 : c.toNat * 2 ^ (n + 1) = c.toNat * 2 * 2 ^ n := by rw [Nat.pow_succ]; rw [Nat.mul_assoc, Nat.mul_comm 2]
    have hp : 1 ≤ 2 ^ n := Nat.one_le_two_pow
    have h2 : c.toNat * 2 ≤ c.toNat * 2 * 2 ^ n := Nat.le_mul_of_pos_right _ (by omega)
    have h3 := stp_small c (by omega)
    rw [stpn, stpn_small n (stp c) (by rw [h3]; omega), h3, h1]
theorem word4 (a b c d : UInt8) : crc 0#32 [a, b, c, d] = stpn 32 (wrd a b c d) := by
  have ha := a.toNat_lt
  have hb := b.toNat_lt
  have hc := c.toNat_lt
  have hd := d.toNat_lt
  have sh : ∀ (x : UInt8) (n : Nat), n ≤ 24 → byt x = stpn n (BitVec.ofNat 32 (x.toNat * 2 ^ (24 - n))) := fun x n hn => by
    have hx := x.toNat_lt
    have e : 2 ^ (24 - n) * 2 ^ n = 2 ^ 24 := by rw [← Nat.pow_add]; congr 1; omega
    have hle : 2 ^ (24 - n) ≤ 2 ^ 24 := Nat.pow_le_pow_right (by decide) (by omega)
    have h1 : x.toNat * 2 ^ (24 - n) < 2 ^ 32 := by
      have := Nat.mul_le_mul (show x.toNat ≤ 255 by omega) hle
      omega
    apply BitVec.eq_of_toNat_eq
    rw [stpn_small n _ (by rw [BitVec.toNat_ofNat, Nat.mod_eq_of_lt h1, Nat.mul_assoc, e]; omega), BitVec.toNat_ofNat, Nat.mod_eq_of_lt h1, Nat.mul_assoc, e, byt_toNat]
  show nxt (nxt (nxt (nxt 0#32 a) b) c) d = _
  unfold nxt
  have e1 : stpn 8 (0#32 ^^^ byt a) ^^^ byt b = stpn 8 (byt a ^^^ BitVec.ofNat 32 (b.toNat * 2 ^ 16)) := by
    rw [BitVec.zero_xor, sh b 8 (by decide), ← stpn_xor]
  have e2 : stpn 8 (stpn 8 (0#32 ^^^ byt a) ^^^ byt b) ^^^ byt c = stpn 16 ((byt a ^^^ BitVec.ofNat 32 (b.toNat * 2 ^ 16)) ^^^ BitVec.ofNat 32 (c.toNat * 2 ^ 8)) := by
    rw [e1, ← stpn_add 8 8, sh c 16 (by decide), ← stpn_xor]
  have e3 : stpn 8 (stpn 8 (stpn 8 (0#32 ^^^ byt a) ^^^ byt b) ^^^ byt c) ^^^ byt d = stpn 24 (wrd a b c d) := by
    rw [e2, ← stpn_add 16 8, sh d 24 (by decide), ← stpn_xor]
    simp [wrd]
  rw [e3, ← stpn_add 24 8]
theorem crc_word {a b c d : UInt8} {n : Nat} (h : crc 0#32 ([a, b, c, d] ++ List.replicate n 0) = 0#32) : a = 0 ∧ b = 0 ∧ c = 0 ∧ d = 0 := by
  rw [crc_app] at h
  have h2 := crc_inj _ (h.trans (crc_zeros n).symm)
  rw [word4] at h2
  exact wrd_zero (stpn_inj 32 (h2.trans (stpn_zero 32).symm))

theorem b8w (n : Int) : IntKind.u8.wrap n = ((b8 n).toNat : Int) := (b8_val n).symm
theorem xor8 (a b : UInt8) : xorI .u8 (a.toNat : Int) (b.toNat : Int) = ((a ^^^ b).toNat : Int) := by
  have ha := a.toNat_lt
  have hb := b.toNat_lt
  have hx := (a ^^^ b).toNat_lt
  have e : (BitVec.ofInt 8 (a.toNat : Int) ^^^ BitVec.ofInt 8 (b.toNat : Int)).toNat = (a ^^^ b).toNat := by
    rw [BitVec.toNat_xor, BitVec.toNat_ofInt, BitVec.toNat_ofInt, UInt8.toNat_xor]
    congr 1 <;> omega
  show IntKind.u8.wrap ((BitVec.ofInt 8 (a.toNat : Int) ^^^ BitVec.ofInt 8 (b.toNat : Int)).toNat : Int) = _
  rw [e, wrap_u8]; omega
theorem bitne {n : Int} (h : 0 ≤ n ∧ n ≤ 7) (x : UInt8) : x ^^^ b8 (1 * 2 ^ (min n.toNat 8)) ≠ x := fun e => by
  have e2 := congrArg (x ^^^ ·) e
  have e3 : b8 (1 * 2 ^ (min n.toNat 8)) = 0 := by
    have : x ^^^ (x ^^^ b8 (1 * 2 ^ (min n.toNat 8))) = x ^^^ x := e2
    rwa [← UInt8.xor_assoc, UInt8.xor_self, UInt8.zero_xor] at this
  have e4 := congrArg (fun y : UInt8 => (y.toNat : Int)) e3
  have e4 : ((b8 (1 * 2 ^ (min n.toNat 8))).toNat : Int) = ((0 : UInt8).toNat : Int) := e4
  rw [b8_val] at e4
  obtain ⟨m, rfl⟩ : ∃ m : Nat, n = (m : Int) := ⟨n.toNat, by omega⟩
  have hm : m ≤ 7 := by omega
  rw [Int.toNat_natCast, Nat.min_eq_left (by omega)] at e4
  have e5 : (2 ^ m : Int) = ((2 ^ m : Nat) : Int) := by simp
  rw [Int.one_mul, e5] at e4
  have : m = 0 ∨ m = 1 ∨ m = 2 ∨ m = 3 ∨ m = 4 ∨ m = 5 ∨ m = 6 ∨ m = 7 := by omega
  rcases this with rfl | rfl | rfl | rfl | rfl | rfl | rfl | rfl <;> simp at e4
/-- the bytes of a number, from the last one on -/
def ts (T : BitVec 32) (i : Nat) : UInt8 := b8 ((I32 T).fdiv (2 ^ (min (8 * (i : Int)).toNat 32)))
theorem ts_zero {T : BitVec 32} (h : ts T 0 = 0 ∧ ts T 1 = 0 ∧ ts T 2 = 0 ∧ ts T 3 = 0) : T = 0#32 := by
  have hf : ∀ (x : BitVec 32) (n : Nat), (I32 x).fdiv (2 ^ n) = ((x.toNat / 2 ^ n : Nat) : Int) := fun x n => by
    have := fdiv_nat x.toNat (2 ^ n)
    rw [Int.natCast_pow] at this
    exact this
  have z : ∀ i, ts T i = 0 → (I32 T).fdiv (2 ^ (min (8 * (i : Int)).toNat 32)) % 256 = 0 := fun i h => by
    have := congrArg (fun y : UInt8 => (y.toNat : Int)) h
    have this : ((ts T i).toNat : Int) = ((0 : UInt8).toNat : Int) := this
    unfold ts at this
    rw [b8_val] at this
    exact this
  obtain ⟨h0, h1, h2, h3⟩ := h
  have h0 := z 0 h0
  have h1 := z 1 h1
  have h2 := z 2 h2
  have h3 := z 3 h3
  rw [hf] at h0 h1 h2 h3
  apply BitVec.eq_of_toNat_eq
  have := T.isLt
  simp at h0 h1 h2 h3 ⊢
  omega
def yv (x : List UInt8) (T : BitVec 32) (k : Nat) : Nat → List UInt8
  | 0 => x
  | i + 1 => (yv x T k i).set (k + i) ((yv x T k i).getD (k + i) 0 ^^^ ts T i)
theorem yv_len (x : List UInt8) (T : BitVec 32) (k : Nat) : ∀ i, (yv x T k i).length = x.length
  | 0 => rfl
  | i + 1 => by rw [yv, List.length_set, yv_len x T k i]
theorem yv_at (x : List UInt8) (T : BitVec 32) (k : Nat) : ∀ (i j : Nat), j < x.length → k + i ≤ x.length → (yv x T k i).getD j 0 = x.getD j 0 ^^^ (if k ≤ j ∧ j < k + i then ts T (j - k) else 0)
  | 0, j, _, _ => by rw [if_neg (by omega), UInt8.xor_zero]; rfl
  | i + 1, j, hj, hk => by
    have ih := yv_at x T k i
    have hl := yv_len x T k i
    rw [yv, List.getD_eq_getElem?_getD, List.getElem?_set]
    by_cases c : k + i = j
    · subst c
      rw [if_pos rfl, if_pos (by omega), ih (k + i) hj (by omega), if_neg (by omega), if_pos (by omega), UInt8.xor_zero, Nat.add_sub_cancel_left]; rfl
    · rw [if_neg c, ← List.getD_eq_getElem?_getD, ih j hj (by omega)]
      by_cases d : k ≤ j ∧ j < k + i
      · rw [if_pos d, if_pos (by omega)]
      · rw [if_neg d, if_neg (by omega)]
theorem getD_get {l : List UInt8} {i : Nat} (h : i < l.length) : l.getD i 0 = l[i] := by
  rw [List.getD_eq_getElem?_getD, List.getElem?_eq_getElem h]; rfl
theorem yv_zip (x : List UInt8) (T : BitVec 32) (k : Nat) (hk : k + 4 ≤ x.length) : List.zipWith (· ^^^ ·) x (yv x T k 4) = List.replicate k 0 ++ ([ts T 0, ts T 1, ts T 2, ts T 3] ++ List.replicate (x.length - k - 4) 0) := by
  have hl := yv_len x T k 4
  apply List.ext_getElem
  · simp [hl]; omega
  · intro j h1 h2
    have hj : j < x.length := by simp [hl] at h1; omega
    rw [List.getElem_zipWith]
    have e := yv_at x T k 4 j hj hk
    rw [getD_get (by omega), getD_get hj] at e
    rw [e, ← UInt8.xor_assoc, UInt8.xor_self, UInt8.zero_xor]
    by_cases c1 : j < k
    · rw [if_neg (by omega), List.getElem_append_left (by simpa using c1), List.getElem_replicate]
    · rw [List.getElem_append_right (by simp; omega)]
      simp only [List.length_replicate]
      by_cases c2 : j < k + 4
      · rw [if_pos (by omega), List.getElem_append_left (by simp; omega)]
        have : j - k = 0 ∨ j - k = 1 ∨ j - k = 2 ∨ j - k = 3 := by omega
        rcases this with h | h | h | h <;> simp only [h] <;> rfl
      · rw [if_neg (by omega), List.getElem_append_right (by simp; omega), List.getElem_replicate]
theorem sum_yv (x : List UInt8) (T : BitVec 32) (k : Nat) (hk : k + 4 ≤ x.length) : (I32 (sumB x) == I32 (sumB (yv x T k 4))) = (I32 T == 0) := by
  have hz := sums_xor x (yv x T k 4) (yv_len x T k 4).symm
  rw [yv_zip x T k hk, crc_app, crc_zeros] at hz
  rw [Bool.eq_iff_iff, beq_iff_eq, beq_iff_eq]
  constructor
  · intro h
    have h1 : sumB x = sumB (yv x T k 4) := BitVec.eq_of_toNat_eq (by unfold I32 at h; omega)
    rw [h1, BitVec.xor_self] at hz
    rw [ts_zero (crc_word hz.symm)]; rfl
  · intro h
    have hT : T = 0#32 := BitVec.eq_of_toNat_eq (by unfold I32 at h; simp; omega)
    subst hT
    have e : ∀ i, ts 0#32 i = 0 := fun i => by unfold ts; simp [I32]; rfl
    have e4 : yv x 0#32 k 4 = x := by
      apply List.ext_getElem (yv_len x 0#32 k 4)
      intro j h1 h2
      have := yv_at x 0#32 k 4 j h2 hk
      rw [getD_get h1, getD_get h2] at this
      rw [this]
      split
      · rw [e, UInt8.xor_zero]
      · rw [UInt8.xor_zero]
    rw [e4]

theorem within_nat1 (n : Int) (k : Nat) : ∃ p : Nat, within n 0 (k : Int) = (p : Int) ∧ p ≤ k := by
  have h := within_rng n 0 (k : Int) (by omega)
  exact ⟨(within n 0 (k : Int)).toNat, by omega, by omega⟩
theorem and_rng1 (n : Int) (m : Nat) (hm : m < 2 ^ 62) : ∃ q : Nat, andI .i64 n m = (q : Int) ∧ q ≤ m := by
  unfold andI
  have h1 : (BitVec.ofInt 64 n &&& BitVec.ofInt 64 (m : Int)).toNat ≤ m := by
    rw [BitVec.toNat_and]
    refine Nat.le_trans Nat.and_le_right ?_
    rw [BitVec.toNat_ofInt]
    omega
  refine ⟨(BitVec.ofInt 64 n &&& BitVec.ofInt 64 (m : Int)).toNat, ?_, h1⟩
  show IntKind.i64.wrap ((BitVec.ofInt 64 n &&& BitVec.ofInt 64 (m : Int)).toNat : Int) = _
  rw [IntKind.wrap_i64]; omega
theorem wrapI (n : Int) : IntKind.u32.wrap n = I32 (BitVec.ofInt 32 n) := by
  show IntKind.u32.wrap _ = ((BitVec.ofInt 32 n).toNat : Int)
  rw [BitVec.toNat_ofInt, wrap_u32]; omega
theorem and32I (a b : Int) : andI .u32 a b = I32 (BitVec.ofInt 32 ((BitVec.ofInt 32 a &&& BitVec.ofInt 32 b).toNat : Int)) := wrapI _
theorem xor32I (c d : BitVec 32) : xorI .u32 (I32 c) (I32 d) = I32 (c ^^^ d) := by
  rw [xor32, ofInt_I, ofInt_I]
theorem open_turned2 {a : List UInt8} {k q : Nat} (hk : k < (sealB a).length) (hq : q ≤ 7) : openB ((sealB a).set k ((sealB a)[k] ^^^ b8 (1 * 2 ^ (min (q : Int).toNat 8)))) = false :=
  open_turned hk (bitne ⟨by omega, by omega⟩ _)
def rowN : Nat → List UInt8
  | 0 => []
  | i + 1 => rowN i ++ [b8 ((i : Int) * (i : Int) + 3)]
theorem rowN_len : ∀ i, (rowN i).length = i
  | 0 => rfl
  | i + 1 => by rw [rowN, List.length_append, rowN_len i]; rfl
/-- two rows turned into one another, up to a place -/
def zx (a b : List UInt8) (i : Nat) : List UInt8 := List.zipWith (· ^^^ ·) (a.take i) (b.take i) ++ List.replicate (min a.length b.length - i) 0
theorem zx_len (a b : List UInt8) (i : Nat) (h : i ≤ min a.length b.length) : (zx a b i).length = min a.length b.length := by
  unfold zx; rw [List.length_append, List.length_zipWith, List.length_take, List.length_take, List.length_replicate]; omega
theorem zx_succ (a b : List UInt8) (i : Nat) (h1 : i < a.length) (h2 : i < b.length) : zx a b (i + 1) = (zx a b i).set i (a[i] ^^^ b[i]) := by
  unfold zx
  have e : min a.length b.length - i = (min a.length b.length - (i + 1)) + 1 := by omega
  rw [List.take_succ_eq_append_getElem h1, List.take_succ_eq_append_getElem h2, List.zipWith_append (by rw [List.length_take, List.length_take]; omega), e, List.replicate_succ]
  rw [List.set_append_right _ _ (by rw [List.length_zipWith, List.length_take, List.length_take]; omega)]
  rw [show i - (List.zipWith (· ^^^ ·) (a.take i) (b.take i)).length = 0 by rw [List.length_zipWith, List.length_take, List.length_take]; omega]
  rw [List.append_assoc]; rfl
theorem zx_all (a b : List UInt8) : zx a b (min a.length b.length) = List.zipWith (· ^^^ ·) (a.take (min a.length b.length)) (b.take (min a.length b.length)) := by
  unfold zx; rw [Nat.sub_self]; exact List.append_nil _
theorem parts_sum (a b : List UInt8) : sumB (a.take (min a.length b.length)) ^^^ sumB (b.take (min a.length b.length)) = sumB (zx a b (min a.length b.length)) ^^^ sumB (List.replicate (min a.length b.length) 0) := by
  rw [sums_xor _ _ (by rw [List.length_take, List.length_take]; omega), sums_xor _ _ (by rw [zx_len _ _ _ (Nat.le_refl _), List.length_replicate])]
  have h := zip_zero (zx a b (min a.length b.length))
  rw [zx_len _ _ _ (Nat.le_refl _)] at h
  rw [h, zx_all]
theorem seal_ne (x : List UInt8) : (!((⟨(sealB x).toArray⟩ : ByteArray).toList == (⟨(sealB (x ++ [0])).toArray⟩ : ByteArray).toList)) = true := by
  have := str_eq (sealB x) (sealB (x ++ [0]))
  rw [this, decide_eq_false]; rfl
  intro e
  have := congrArg List.length e
  rw [sealB_len, sealB_len, List.length_append] at this
  simp at this

end Go.AM.PL
