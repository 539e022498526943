/- The machine over plain data: rules for each operation, calls. No condition. -/
import Derived.Test.YtkohanehgndmhaaGM9
set_option linter.all false
namespace Go.AM
section
variable {A : AProg} {L : GFr} {HG : GHp} {l : List AOper} {Q : GFr → GHp → Prop}
/-! ## Rows of things of one kind -/
theorem G.lenOM {d g w : Nat} {full : Fl} {x : AX} {α : Type} {enc : α → List GV} {xs : List α} (hx : lkGX L x = some (.osl g)) (hg : lkP HG g = some (.arr full w (xs.map enc))) (k : WpOpsG A l ((d, .v (.int .i64 xs.length)) :: L) HG Q) : WpOpsG A (⟨some d, .len false x, none⟩ :: l) L HG Q :=
  G.lenO hx hg (by rw [List.length_map]; exact k)
theorem G.iaddrON {d g w : Nat} {full : Fl} {x i : AX} {cs : List (List GV)} {k' : IntKind} {n : Nat} (hx : lkGX L x = some (.osl g)) (hg : lkP HG g = some (.arr full w cs)) (hi : lkGX L i = some (.v (.int k' (n : Int)))) (hm : n < cs.length) (k : WpOpsG A l ((d, .eptr g n 0) :: L) HG Q) : WpOpsG A (⟨some d, .iaddr w x i, none⟩ :: l) L HG Q :=
  G.iaddrO hx hg hi (Int.natCast_nonneg n) (by omega) (by rw [Int.toNat_natCast]; exact k)
theorem G.load1EM {d g w i off : Nat} {full : Fl} {x : AX} {α : Type} {enc : α → List GV} {xs : List α} {y : α} {v : GV} (hx : lkGX L x = some (.eptr g i off)) (hg : lkP HG g = some (.arr full w (xs.map enc))) (hc : xs[i]? = some y) (hv : (enc y)[off]? = some v) (k : WpOpsG A l ((d, v) :: L) HG Q) : WpOpsG A (⟨some d, .load1 x, none⟩ :: l) L HG Q :=
  G.load1E hx hg (c := enc y) (by rw [List.getElem?_map, hc]; rfl) hv k
theorem G.loadNEM {d g w i off n : Nat} {full : Fl} {x : AX} {α : Type} {enc : α → List GV} {xs : List α} {y : α} {vs : List GV} (hx : lkGX L x = some (.eptr g i off)) (hg : lkP HG g = some (.arr full w (xs.map enc))) (hc : xs[i]? = some y) (hv : takeG n ((enc y).drop off) = some vs) (k : WpOpsG A l ((d, .agg vs) :: L) HG Q) : WpOpsG A (⟨some d, .loadN n x, none⟩ :: l) L HG Q :=
  G.loadNE hx hg (c := enc y) (by rw [List.getElem?_map, hc]; rfl) hv k
theorem G.storeEM {n g w i off : Nat} {full : Fl} {x y : AX} {v : GV} {α : Type} {enc : α → List GV} {xs : List α} {z : α} (z' : α) {vs : List GV} (hx : lkGX L x = some (.eptr g i off)) (hy : lkGX L y = some v) (hg : lkP HG g = some (.arr full w (xs.map enc))) (hc : xs[i]? = some z) (hv : v.cs = some vs) (hn : Nat.beq vs.length n = true) (hpl : GV.plL vs = true) (hp : putG (enc z) off vs = some (enc z'))
    (k : WpOpsG A l L ((g, .arr full w ((xs.set i z').map enc)) :: HG) Q) : WpOpsG A (⟨none, .store n x y, none⟩ :: l) L HG Q :=
  G.storeE hx hy hg (c := enc z) (by rw [List.getElem?_map, hc]; rfl) hv hn hpl hp (by rw [List.map_set] at k; exact k)
end
/-- bytes -/
def encB (b : UInt8) : List GV := [.v (.int .u8 b.toNat)]
def b8 (n : Int) : UInt8 := UInt8.ofNat (n % 256).toNat
theorem b8_val (n : Int) : ((b8 n).toNat : Int) = n % 256 := by
  unfold b8
  rw [UInt8.toNat_ofNat']
  have : 0 ≤ n % 256 ∧ n % 256 < 256 := by omega
  omega
theorem encB_b8 (n : Int) : encB (b8 n) = [.v (.int .u8 (IntKind.u8.wrap n))] := by
  unfold encB
  rw [b8_val]
  rfl
theorem bytesG_map : ∀ (l : List UInt8), bytesG (l.map encB) = some l
  | [] => rfl
  | b :: r => by
    rw [List.map_cons, encB, bytesG, bytesG_map r]
    simp
theorem getE {α : Type} {l : List α} {n m : Nat} {d : α} (h : n < l.length) (e : n = m) : l[n] = l.getD m d := by
  subst e
  rw [List.getD_eq_getElem?_getD, List.getElem?_eq_getElem h]; rfl
theorem byte_lt (b : UInt8) : (b.toNat : Int) < 256 := by have := b.toNat_lt; omega
section
variable {A : AProg} {L : GFr} {HG : GHp} {l : List AOper} {Q : GFr → GHp → Prop}
theorem G.conv64B {d : Nat} {k' : IntKind} {x : AX} {b : UInt8} (hx : lkGX L x = some (.v (.int k' (b.toNat : Int)))) (k : WpOpsG A l ((d, .v (.int .i64 (b.toNat : Int))) :: L) HG Q) : WpOpsG A (⟨some d, .convi .i64 x, none⟩ :: l) L HG Q :=
  G.conv64 hx (by have := byte_lt b; omega) k
theorem G.convU {d : Nat} {k' : IntKind} {x : AX} {n : Int} (w : IntKind) (hx : lkGX L x = some (.v (.int k' n))) (h : w.wrap n = n) (k : WpOpsG A l ((d, .v (.int w n)) :: L) HG Q) : WpOpsG A (⟨some d, .convi w x, none⟩ :: l) L HG Q :=
  G.convi hx (by rw [h]; exact k)
theorem wrap_u8 (n : Int) : IntKind.u8.wrap n = n % 256 := rfl
theorem wrap_u32 (n : Int) : IntKind.u32.wrap n = n % 4294967296 := rfl
theorem wrap_u64 (n : Int) : IntKind.u64.wrap n = n % 18446744073709551616 := rfl
theorem G.conv32B {d : Nat} {k' : IntKind} {x : AX} {b : UInt8} (hx : lkGX L x = some (.v (.int k' (b.toNat : Int)))) (k : WpOpsG A l ((d, .v (.int .u32 (b.toNat : Int))) :: L) HG Q) : WpOpsG A (⟨some d, .convi .u32 x, none⟩ :: l) L HG Q :=
  G.convU .u32 hx (by rw [wrap_u32]; have := byte_lt b; omega) k
theorem G.convU64B {d : Nat} {k' : IntKind} {x : AX} {b : UInt8} (hx : lkGX L x = some (.v (.int k' (b.toNat : Int)))) (k : WpOpsG A l ((d, .v (.int .u64 (b.toNat : Int))) :: L) HG Q) : WpOpsG A (⟨some d, .convi .u64 x, none⟩ :: l) L HG Q :=
  G.convU .u64 hx (by rw [wrap_u64]; have := byte_lt b; omega) k
end
/-! bits -/
def andI (k : IntKind) (a b : Int) : Int := k.wrap (BitVec.ofInt k.bits a &&& BitVec.ofInt k.bits b).toNat
def orI (k : IntKind) (a b : Int) : Int := k.wrap (BitVec.ofInt k.bits a ||| BitVec.ofInt k.bits b).toNat
def xorI (k : IntKind) (a b : Int) : Int := k.wrap (BitVec.ofInt k.bits a ^^^ BitVec.ofInt k.bits b).toNat
def andNotI (k : IntKind) (a b : Int) : Int := k.wrap (BitVec.ofInt k.bits a &&& ~~~ BitVec.ofInt k.bits b).toNat
section
variable {A : AProg} {L : GFr} {HG : GHp} {l : List AOper} {Q : GFr → GHp → Prop}
theorem G.andK {d : Nat} {w : IntKind} {x y : AX} {a b : Int} (hx : lkGX L x = some (.v (.int w a))) (hy : lkGX L y = some (.v (.int w b))) (k : WpOpsG A l ((d, .v (.int w (andI w a b))) :: L) HG Q) : WpOpsG A (⟨some d, .bin .and x y, none⟩ :: l) L HG Q :=
  G.bin hx hy (by simp only [binV, if_true, binI]; rfl) k
theorem G.orK {d : Nat} {w : IntKind} {x y : AX} {a b : Int} (hx : lkGX L x = some (.v (.int w a))) (hy : lkGX L y = some (.v (.int w b))) (k : WpOpsG A l ((d, .v (.int w (orI w a b))) :: L) HG Q) : WpOpsG A (⟨some d, .bin .or x y, none⟩ :: l) L HG Q :=
  G.bin hx hy (by simp only [binV, if_true, binI]; rfl) k
theorem G.xorK {d : Nat} {w : IntKind} {x y : AX} {a b : Int} (hx : lkGX L x = some (.v (.int w a))) (hy : lkGX L y = some (.v (.int w b))) (k : WpOpsG A l ((d, .v (.int w (xorI w a b))) :: L) HG Q) : WpOpsG A (⟨some d, .bin .xor x y, none⟩ :: l) L HG Q :=
  G.bin hx hy (by simp only [binV, if_true, binI]; rfl) k
theorem G.andNotK {d : Nat} {w : IntKind} {x y : AX} {a b : Int} (hx : lkGX L x = some (.v (.int w a))) (hy : lkGX L y = some (.v (.int w b))) (k : WpOpsG A l ((d, .v (.int w (andNotI w a b))) :: L) HG Q) : WpOpsG A (⟨some d, .bin .andNot x y, none⟩ :: l) L HG Q :=
  G.bin hx hy (by simp only [binV, if_true, binI]; rfl) k
theorem G.quoP {d : Nat} {x y : AX} {a b : Int} (hx : lkGX L x = some (.v (.int .i64 a))) (hy : lkGX L y = some (.v (.int .i64 b))) (ha : -2 ^ 63 ≤ a ∧ a < 2 ^ 63) (hb : 0 < b) (k : WpOpsG A l ((d, .v (.int .i64 (a.tdiv b))) :: L) HG Q) : WpOpsG A (⟨some d, .bin .quo x y, none⟩ :: l) L HG Q :=
  G.bin hx hy (r := .int .i64 (a.tdiv b)) (by
    have hne : b ≠ 0 := by omega
    simp only [binV, if_true, binI, if_neg hne, IntKind.wrap_i64]
    have h1 : -2 ^ 63 ≤ a.tdiv b ∧ a.tdiv b < 2 ^ 63 := by
      have h2 : (a.tdiv b).natAbs ≤ a.natAbs := by rw [Int.natAbs_tdiv]; exact Nat.div_le_self _ _
      rcases Int.lt_or_le a 0 with h | h
      · have h4 : 0 ≤ (-a).tdiv b := Int.tdiv_nonneg (by omega) (by omega)
        rw [Int.neg_tdiv] at h4
        omega
      · have h4 : 0 ≤ a.tdiv b := Int.tdiv_nonneg h (by omega)
        omega
    rw [show (a.tdiv b + 9223372036854775808) % 18446744073709551616 - 9223372036854775808 = a.tdiv b by omega]) k
theorem G.quoN {d : Nat} {x y : AX} {a b : Int} (hx : lkGX L x = some (.v (.int .i64 a))) (hy : lkGX L y = some (.v (.int .i64 b))) (ha : 0 ≤ a ∧ a < 2 ^ 63) (hb : 0 < b) (k : WpOpsG A l ((d, .v (.int .i64 (a / b))) :: L) HG Q) : WpOpsG A (⟨some d, .bin .quo x y, none⟩ :: l) L HG Q :=
  G.quoP hx hy (by omega) hb (by rw [Int.tdiv_eq_ediv_of_nonneg ha.1]; exact k)
theorem G.remP {d : Nat} {w : IntKind} {x y : AX} {a b : Int} (hx : lkGX L x = some (.v (.int w a))) (hy : lkGX L y = some (.v (.int w b))) (hb : b ≠ 0) (k : WpOpsG A l ((d, .v (.int w (a.tmod b))) :: L) HG Q) : WpOpsG A (⟨some d, .bin .rem x y, none⟩ :: l) L HG Q :=
  G.bin hx hy (by simp only [binV, if_true, binI, if_neg hb]) k
theorem G.remN {d : Nat} {w : IntKind} {x y : AX} {a b : Int} (hx : lkGX L x = some (.v (.int w a))) (hy : lkGX L y = some (.v (.int w b))) (ha : 0 ≤ a) (hb : 0 < b) (k : WpOpsG A l ((d, .v (.int w (a % b))) :: L) HG Q) : WpOpsG A (⟨some d, .bin .rem x y, none⟩ :: l) L HG Q :=
  G.remP hx hy (by omega) (by rw [Int.tmod_eq_emod_of_nonneg ha]; exact k)
end
end Go.AM
