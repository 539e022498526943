/- Contracts of the functions that the statement reaches. No condition. -/
import Derived.Test.YtldhombnpjcgoaaGM11
set_option linter.all false
set_option maxRecDepth 10000
namespace Go.AM.L15
structure Ins where
  op : Int
  a : Int
  b : Int
  c : Int
  deriving DecidableEq
def encI (x : Ins) : List GV := [.v (.int .i64 x.op), .v (.int .i64 x.a), .v (.int .i64 x.b), .v (.int .i64 x.c)]
def i64 (n : Int) : Prop := -2 ^ 63 ≤ n ∧ n < 2 ^ 63

def af11 : AFunc := ⟨1, [(.tmp 2)], (.seq (.reg 0 false [⟨(some 2), (.mv (.c (.v (.slice none 0 0)))), none⟩]) (.seq (.reg 1 false [⟨(some 3), (.mv (.c (.v (.slice none 0 0)))), none⟩]) (.seq (.seq (.reg 2 false [⟨(some 6), (.mv (.t 0)), none⟩, ⟨(some 7), (.len false (.t 6)), none⟩, ⟨(some 8), (.mv (.c (.v (.int .i64 0)))), none⟩]) (.block 0 (.loop (.seq (.reg 3 false [⟨(some 9), (.bin .lss (.t 8) (.t 7)), none⟩]) (.seq (.cond (.t 9) .skip (.exit 0)) (.seq (.block 1 (.seq (.reg 4 false [⟨(some 10), (.iaddr 4 (.t 6) (.t 8)), none⟩, ⟨(some 11), (.loadN 4 (.t 10)), none⟩, ⟨(some 5), (.box (.c (.agg [(.v (.int .i64 0)), (.v (.int .i64 0)), (.v (.int .i64 0)), (.v (.int .i64 0))]))), none⟩, ⟨none, (.store 4 (.t 5) (.t 11)), none⟩]) (.reg 5 false [⟨(some 12), (.mv (.t 3)), none⟩, ⟨(some 13), (.faddr 0 (.t 5)), none⟩, ⟨(some 14), (.load1 (.t 13)), none⟩, ⟨(some 15), (.convi .u8 (.t 14)), none⟩, ⟨(some 16), (.faddr 1 (.t 5)), none⟩, ⟨(some 17), (.load1 (.t 16)), none⟩, ⟨(some 18), (.convi .u8 (.t 17)), none⟩, ⟨(some 19), (.faddr 2 (.t 5)), none⟩, ⟨(some 20), (.load1 (.t 19)), none⟩, ⟨(some 21), (.convi .u8 (.t 20)), none⟩, ⟨(some 22), (.faddr 3 (.t 5)), none⟩, ⟨(some 23), (.load1 (.t 22)), none⟩, ⟨(some 24), (.convi .u8 (.t 23)), none⟩, ⟨(some 25), (.bslice 1 4 [(.v (.int .u8 0)), (.v (.int .u8 0)), (.v (.int .u8 0)), (.v (.int .u8 0))] [(0, (1, (.t 15))), (1, (1, (.t 18))), (2, (1, (.t 21))), (3, (1, (.t 24)))]), none⟩, ⟨(some 26), (.app 1 1 (.t 12) (.t 25)), none⟩, ⟨(some 3), (.mv (.t 26)), none⟩]))) (.reg 6 false [⟨(some 27), (.bin .add (.t 8) (.c (.v (.int .i64 1)))), none⟩, ⟨(some 8), (.mv (.t 27)), none⟩]))))))) (.seq (.reg 7 false [⟨(some 28), (.mv (.t 3)), none⟩, ⟨(some 2), (.mv (.t 28)), none⟩]) .ret))))⟩

def af12 : AFunc := ⟨2, [(.cellN 4 4), (.tmp 5)], (.seq (.reg 0 false [⟨(some 4), (.box (.c (.agg [(.v (.int .i64 0)), (.v (.int .i64 0)), (.v (.int .i64 0)), (.v (.int .i64 0))]))), none⟩, ⟨(some 5), (.mv (.c (.v (.bool false)))), none⟩]) (.seq (.seq (.reg 1 false [⟨(some 6), (.mv (.t 1)), none⟩, ⟨(some 7), (.bin .lss (.t 6) (.c (.v (.int .i64 0)))), none⟩, ⟨(some 8), (.mv (.t 7)), none⟩, ⟨(some 9), (.mv (.t 1)), (some (8, false))⟩, ⟨(some 10), (.bin .rem (.t 9) (.c (.v (.int .i64 4)))), (some (8, false))⟩, ⟨(some 11), (.bin .neq (.t 10) (.c (.v (.int .i64 0)))), (some (8, false))⟩, ⟨(some 12), (.pick (.t 8) (.c (.v (.bool true))) (.t 11)), none⟩, ⟨(some 13), (.mv (.t 12)), none⟩, ⟨(some 14), (.mv (.t 1)), (some (13, false))⟩, ⟨(some 15), (.mv (.t 0)), (some (13, false))⟩, ⟨(some 16), (.len false (.t 15)), (some (13, false))⟩, ⟨(some 17), (.bin .sub (.t 16) (.c (.v (.int .i64 4)))), (some (13, false))⟩, ⟨(some 18), (.bin .gtr (.t 14) (.t 17)), (some (13, false))⟩, ⟨(some 19), (.pick (.t 13) (.c (.v (.bool true))) (.t 18)), none⟩]) (.cond (.t 19) (.seq (.reg 2 false [⟨(some 20), (.build [(.v (.int .i64 0)), (.v (.int .i64 0)), (.v (.int .i64 0)), (.v (.int .i64 0))] []), none⟩, ⟨none, (.store 4 (.t 4) (.t 20)), none⟩, ⟨(some 5), (.mv (.c (.v (.bool false)))), none⟩]) .ret) .skip)) (.seq (.reg 3 false [⟨(some 21), (.mv (.t 0)), none⟩, ⟨(some 22), (.mv (.t 1)), none⟩, ⟨(some 23), (.iaddr 1 (.t 21) (.t 22)), none⟩, ⟨(some 24), (.load1 (.t 23)), none⟩, ⟨(some 25), (.convi .i64 (.t 24)), none⟩, ⟨(some 26), (.mv (.t 0)), none⟩, ⟨(some 27), (.mv (.t 1)), none⟩, ⟨(some 28), (.bin .add (.t 27) (.c (.v (.int .i64 1)))), none⟩, ⟨(some 29), (.iaddr 1 (.t 26) (.t 28)), none⟩, ⟨(some 30), (.load1 (.t 29)), none⟩, ⟨(some 31), (.convi .i64 (.t 30)), none⟩, ⟨(some 32), (.mv (.t 0)), none⟩, ⟨(some 33), (.mv (.t 1)), none⟩, ⟨(some 34), (.bin .add (.t 33) (.c (.v (.int .i64 2)))), none⟩, ⟨(some 35), (.iaddr 1 (.t 32) (.t 34)), none⟩, ⟨(some 36), (.load1 (.t 35)), none⟩, ⟨(some 37), (.convi .i64 (.t 36)), none⟩, ⟨(some 38), (.mv (.t 0)), none⟩, ⟨(some 39), (.mv (.t 1)), none⟩, ⟨(some 40), (.bin .add (.t 39) (.c (.v (.int .i64 3)))), none⟩, ⟨(some 41), (.iaddr 1 (.t 38) (.t 40)), none⟩, ⟨(some 42), (.load1 (.t 41)), none⟩, ⟨(some 43), (.convi .i64 (.t 42)), none⟩, ⟨(some 44), (.build [(.v (.int .i64 0)), (.v (.int .i64 0)), (.v (.int .i64 0)), (.v (.int .i64 0))] [(0, (1, (.t 25))), (1, (1, (.t 31))), (2, (1, (.t 37))), (3, (1, (.t 43)))]), none⟩, ⟨none, (.store 4 (.t 4) (.t 44)), none⟩, ⟨(some 5), (.mv (.c (.v (.bool true)))), none⟩]) .ret)))⟩

def af13 : AFunc := ⟨1, [(.tmp 2)], (.seq (.reg 0 false [⟨(some 1), (.box (.t 0)), none⟩, ⟨(some 2), (.mv (.c (.v (.bool false)))), none⟩]) (.seq (.reg 1 false [⟨(some 7), (.faddr 0 (.t 1)), none⟩, ⟨(some 8), (.load1 (.t 7)), none⟩, ⟨(some 9), (.call 19 [(.t 8)]), none⟩, ⟨(some 6), (.mv (.t 9)), none⟩, ⟨(some 10), (.ext (.t 6) 0), none⟩, ⟨(some 11), (.ext (.t 6) 1), none⟩, ⟨(some 12), (.ext (.t 6) 2), none⟩, ⟨(some 3), (.mv (.t 10)), none⟩, ⟨(some 4), (.mv (.t 11)), none⟩, ⟨(some 5), (.mv (.t 12)), none⟩]) (.seq (.reg 2 false [⟨(some 13), (.faddr 0 (.t 1)), none⟩, ⟨(some 14), (.load1 (.t 13)), none⟩, ⟨(some 15), (.bin .geq (.t 14) (.c (.v (.int .i64 0)))), none⟩, ⟨(some 16), (.mv (.t 15)), none⟩, ⟨(some 17), (.faddr 0 (.t 1)), (some (16, true))⟩, ⟨(some 18), (.load1 (.t 17)), (some (16, true))⟩, ⟨(some 19), (.bin .leq (.t 18) (.c (.v (.int .i64 17)))), (some (16, true))⟩, ⟨(some 20), (.pick (.t 16) (.t 19) (.c (.v (.bool false)))), none⟩, ⟨(some 21), (.mv (.t 20)), none⟩, ⟨(some 22), (.faddr 1 (.t 1)), (some (21, true))⟩, ⟨(some 23), (.load1 (.t 22)), (some (21, true))⟩, ⟨(some 24), (.mv (.t 3)), (some (21, true))⟩, ⟨(some 25), (.call 20 [(.t 23), (.t 24)]), (some (21, true))⟩, ⟨(some 26), (.pick (.t 21) (.t 25) (.c (.v (.bool false)))), none⟩, ⟨(some 27), (.mv (.t 26)), none⟩, ⟨(some 28), (.faddr 2 (.t 1)), (some (27, true))⟩, ⟨(some 29), (.load1 (.t 28)), (some (27, true))⟩, ⟨(some 30), (.mv (.t 4)), (some (27, true))⟩, ⟨(some 31), (.call 20 [(.t 29), (.t 30)]), (some (27, true))⟩, ⟨(some 32), (.pick (.t 27) (.t 31) (.c (.v (.bool false)))), none⟩, ⟨(some 33), (.mv (.t 32)), none⟩, ⟨(some 34), (.faddr 3 (.t 1)), (some (33, true))⟩, ⟨(some 35), (.load1 (.t 34)), (some (33, true))⟩, ⟨(some 36), (.mv (.t 5)), (some (33, true))⟩, ⟨(some 37), (.call 20 [(.t 35), (.t 36)]), (some (33, true))⟩, ⟨(some 38), (.pick (.t 33) (.t 37) (.c (.v (.bool false)))), none⟩, ⟨(some 2), (.mv (.t 38)), none⟩]) .ret)))⟩

def af14 : AFunc := ⟨1, [(.tmp 2)], (.seq (.reg 0 false [⟨(some 2), (.mv (.c (.v (.string (ByteArray.mk (Array.mk [])))))), none⟩]) (.seq (.reg 1 false [⟨(some 4), (.bslice 1 18 [(.v (.string (ByteArray.mk (Array.mk [])))), (.v (.string (ByteArray.mk (Array.mk [])))), (.v (.string (ByteArray.mk (Array.mk [])))), (.v (.string (ByteArray.mk (Array.mk [])))), (.v (.string (ByteArray.mk (Array.mk [])))), (.v (.string (ByteArray.mk (Array.mk [])))), (.v (.string (ByteArray.mk (Array.mk [])))), (.v (.string (ByteArray.mk (Array.mk [])))), (.v (.string (ByteArray.mk (Array.mk [])))), (.v (.string (ByteArray.mk (Array.mk [])))), (.v (.string (ByteArray.mk (Array.mk [])))), (.v (.string (ByteArray.mk (Array.mk [])))), (.v (.string (ByteArray.mk (Array.mk [])))), (.v (.string (ByteArray.mk (Array.mk [])))), (.v (.string (ByteArray.mk (Array.mk [])))), (.v (.string (ByteArray.mk (Array.mk [])))), (.v (.string (ByteArray.mk (Array.mk [])))), (.v (.string (ByteArray.mk (Array.mk []))))] [(0, (1, (.c (.v (.string (ByteArray.mk (Array.mk [110, 111, 112]))))))), (1, (1, (.c (.v (.string (ByteArray.mk (Array.mk [115, 101, 116]))))))), (2, (1, (.c (.v (.string (ByteArray.mk (Array.mk [97, 100, 100]))))))), (3, (1, (.c (.v (.string (ByteArray.mk (Array.mk [115, 117, 98]))))))), (4, (1, (.c (.v (.string (ByteArray.mk (Array.mk [109, 117, 108]))))))), (5, (1, (.c (.v (.string (ByteArray.mk (Array.mk [100, 105, 118]))))))), (6, (1, (.c (.v (.string (ByteArray.mk (Array.mk [108, 111, 97, 100]))))))), (7, (1, (.c (.v (.string (ByteArray.mk (Array.mk [115, 116, 111, 114, 101]))))))), (8, (1, (.c (.v (.string (ByteArray.mk (Array.mk [106, 109, 112]))))))), (9, (1, (.c (.v (.string (ByteArray.mk (Array.mk [106, 122]))))))), (10, (1, (.c (.v (.string (ByteArray.mk (Array.mk [119, 97, 105, 116]))))))), (11, (1, (.c (.v (.string (ByteArray.mk (Array.mk [115, 101, 110, 100]))))))), (12, (1, (.c (.v (.string (ByteArray.mk (Array.mk [114, 101, 99, 118]))))))), (13, (1, (.c (.v (.string (ByteArray.mk (Array.mk [105, 110]))))))), (14, (1, (.c (.v (.string (ByteArray.mk (Array.mk [116, 105, 109, 101]))))))), (15, (1, (.c (.v (.string (ByteArray.mk (Array.mk [99, 104, 97, 110, 103, 101]))))))), (16, (1, (.c (.v (.string (ByteArray.mk (Array.mk [115, 116, 111, 112, 97, 108, 108]))))))), (17, (1, (.c (.v (.string (ByteArray.mk (Array.mk [101, 110, 100])))))))]), none⟩, ⟨(some 3), (.mv (.t 4)), none⟩]) (.seq (.seq (.reg 2 false [⟨(some 5), (.mv (.t 0)), none⟩, ⟨(some 6), (.bin .lss (.t 5) (.c (.v (.int .i64 0)))), none⟩, ⟨(some 7), (.mv (.t 6)), none⟩, ⟨(some 8), (.mv (.t 0)), (some (7, false))⟩, ⟨(some 9), (.mv (.t 3)), (some (7, false))⟩, ⟨(some 10), (.len false (.t 9)), (some (7, false))⟩, ⟨(some 11), (.bin .geq (.t 8) (.t 10)), (some (7, false))⟩, ⟨(some 12), (.pick (.t 7) (.c (.v (.bool true))) (.t 11)), none⟩]) (.cond (.t 12) (.seq (.reg 3 false [⟨(some 2), (.mv (.c (.v (.string (ByteArray.mk (Array.mk [])))))), none⟩]) .ret) .skip)) (.seq (.reg 4 false [⟨(some 13), (.mv (.t 3)), none⟩, ⟨(some 14), (.mv (.t 0)), none⟩, ⟨(some 15), (.iaddr 1 (.t 13) (.t 14)), none⟩, ⟨(some 16), (.load1 (.t 15)), none⟩, ⟨(some 2), (.mv (.t 16)), none⟩]) .ret))))⟩

def af15 : AFunc := ⟨1, [(.tmp 2)], (.seq (.reg 0 false [⟨(some 1), (.box (.t 0)), none⟩, ⟨(some 2), (.mv (.c (.v (.int .u32 0)))), none⟩]) (.seq (.reg 1 false [⟨(some 3), (.faddr 2 (.t 1)), none⟩, ⟨(some 4), (.load1 (.t 3)), none⟩, ⟨(some 5), (.convi .u32 (.t 4)), none⟩, ⟨(some 6), (.bin .mul (.t 5) (.c (.v (.int .u32 256)))), none⟩, ⟨(some 7), (.faddr 3 (.t 1)), none⟩, ⟨(some 8), (.load1 (.t 7)), none⟩, ⟨(some 9), (.convi .u32 (.t 8)), none⟩, ⟨(some 10), (.bin .add (.t 6) (.t 9)), none⟩, ⟨(some 2), (.mv (.t 10)), none⟩]) .ret))⟩

def af19 : AFunc := ⟨1, [(.tmp 2), (.tmp 3), (.tmp 4)], (.seq (.reg 0 false [⟨(some 2), (.mv (.c (.v (.bool false)))), none⟩, ⟨(some 3), (.mv (.c (.v (.bool false)))), none⟩, ⟨(some 4), (.mv (.c (.v (.bool false)))), none⟩]) (.seq (.seq (.reg 1 false [⟨(some 5), (.mv (.t 0)), none⟩]) (.block 0 (.seq (.seq (.reg 2 false [⟨(some 7), (.bin .eql (.t 5) (.c (.v (.int .i64 1)))), none⟩, ⟨(some 6), (.mv (.t 7)), none⟩]) (.cond (.t 6) .skip (.seq (.reg 3 false [⟨(some 8), (.bin .eql (.t 5) (.c (.v (.int .i64 9)))), none⟩, ⟨(some 6), (.mv (.t 8)), none⟩]) (.cond (.t 6) .skip (.seq (.reg 4 false [⟨(some 9), (.bin .eql (.t 5) (.c (.v (.int .i64 10)))), none⟩, ⟨(some 6), (.mv (.t 9)), none⟩]) (.cond (.t 6) .skip (.seq (.reg 5 false [⟨(some 10), (.bin .eql (.t 5) (.c (.v (.int .i64 13)))), none⟩, ⟨(some 6), (.mv (.t 10)), none⟩]) (.cond (.t 6) .skip (.seq (.reg 6 false [⟨(some 11), (.bin .eql (.t 5) (.c (.v (.int .i64 14)))), none⟩, ⟨(some 6), (.mv (.t 11)), none⟩]) (.cond (.t 6) .skip (.reg 7 false [⟨(some 12), (.bin .eql (.t 5) (.c (.v (.int .i64 15)))), none⟩, ⟨(some 6), (.mv (.t 12)), none⟩]))))))))))) (.cond (.t 6) (.seq (.reg 8 false [⟨(some 2), (.mv (.c (.v (.bool true)))), none⟩, ⟨(some 3), (.mv (.c (.v (.bool false)))), none⟩, ⟨(some 4), (.mv (.c (.v (.bool false)))), none⟩]) .ret) (.seq (.seq (.reg 9 false [⟨(some 14), (.bin .eql (.t 5) (.c (.v (.int .i64 2)))), none⟩, ⟨(some 13), (.mv (.t 14)), none⟩]) (.cond (.t 13) .skip (.seq (.reg 10 false [⟨(some 15), (.bin .eql (.t 5) (.c (.v (.int .i64 3)))), none⟩, ⟨(some 13), (.mv (.t 15)), none⟩]) (.cond (.t 13) .skip (.seq (.reg 11 false [⟨(some 16), (.bin .eql (.t 5) (.c (.v (.int .i64 4)))), none⟩, ⟨(some 13), (.mv (.t 16)), none⟩]) (.cond (.t 13) .skip (.reg 12 false [⟨(some 17), (.bin .eql (.t 5) (.c (.v (.int .i64 5)))), none⟩, ⟨(some 13), (.mv (.t 17)), none⟩]))))))) (.cond (.t 13) (.seq (.reg 13 false [⟨(some 2), (.mv (.c (.v (.bool true)))), none⟩, ⟨(some 3), (.mv (.c (.v (.bool true)))), none⟩, ⟨(some 4), (.mv (.c (.v (.bool true)))), none⟩]) .ret) (.seq (.seq (.reg 14 false [⟨(some 19), (.bin .eql (.t 5) (.c (.v (.int .i64 6)))), none⟩, ⟨(some 18), (.mv (.t 19)), none⟩]) (.cond (.t 18) .skip (.reg 15 false [⟨(some 20), (.bin .eql (.t 5) (.c (.v (.int .i64 7)))), none⟩, ⟨(some 18), (.mv (.t 20)), none⟩]))) (.cond (.t 18) (.seq (.reg 16 false [⟨(some 2), (.mv (.c (.v (.bool true)))), none⟩, ⟨(some 3), (.mv (.c (.v (.bool true)))), none⟩, ⟨(some 4), (.mv (.c (.v (.bool false)))), none⟩]) .ret) (.seq (.seq (.reg 17 false [⟨(some 22), (.bin .eql (.t 5) (.c (.v (.int .i64 11)))), none⟩, ⟨(some 21), (.mv (.t 22)), none⟩]) (.cond (.t 21) .skip (.reg 18 false [⟨(some 23), (.bin .eql (.t 5) (.c (.v (.int .i64 12)))), none⟩, ⟨(some 21), (.mv (.t 23)), none⟩]))) (.cond (.t 21) (.seq (.reg 19 false [⟨(some 2), (.mv (.c (.v (.bool false)))), none⟩, ⟨(some 3), (.mv (.c (.v (.bool true)))), none⟩, ⟨(some 4), (.mv (.c (.v (.bool false)))), none⟩]) .ret) .skip)))))))))) (.seq (.reg 20 false [⟨(some 2), (.mv (.c (.v (.bool false)))), none⟩, ⟨(some 3), (.mv (.c (.v (.bool false)))), none⟩, ⟨(some 4), (.mv (.c (.v (.bool false)))), none⟩]) .ret)))⟩

def af20 : AFunc := ⟨2, [(.tmp 4)], (.seq (.reg 0 false [⟨(some 4), (.mv (.c (.v (.bool false)))), none⟩]) (.seq (.reg 1 false [⟨(some 5), (.mv (.t 0)), none⟩, ⟨(some 6), (.bin .geq (.t 5) (.c (.v (.int .i64 0)))), none⟩, ⟨(some 7), (.mv (.t 6)), none⟩, ⟨(some 8), (.mv (.t 0)), (some (7, true))⟩, ⟨(some 9), (.bin .leq (.t 8) (.c (.v (.int .i64 255)))), (some (7, true))⟩, ⟨(some 10), (.pick (.t 7) (.t 9) (.c (.v (.bool false)))), none⟩, ⟨(some 11), (.mv (.t 10)), none⟩, ⟨(some 12), (.mv (.t 1)), (some (11, true))⟩, ⟨(some 13), (.un .not (.t 12)), (some (11, true))⟩, ⟨(some 14), (.mv (.t 13)), (some (11, true))⟩, ⟨(some 15), (.mv (.t 0)), (some (14, false))⟩, ⟨(some 16), (.bin .lss (.t 15) (.c (.v (.int .i64 8)))), (some (14, false))⟩, ⟨(some 17), (.pick (.t 14) (.c (.v (.bool true))) (.t 16)), (some (11, true))⟩, ⟨(some 18), (.pick (.t 11) (.t 17) (.c (.v (.bool false)))), none⟩, ⟨(some 4), (.mv (.t 18)), none⟩]) .ret))⟩

theorem imm_ok {A : AProg} (hA : A.get 15 = some af15) (x : Ins)  : WpCallG A 15 [.agg (encI x)] [] (fun v H => v = .v (.int .u32 (IntKind.u32.wrap (IntKind.u32.wrap (IntKind.u32.wrap x.b * 256) + IntKind.u32.wrap x.c))) ∧ H = []) := by
  refine WpCallG.intro hA rfl rfl ?_
  unfold af15
  change WpG _ _ _ _ _
  refine WpG.seq ?_
  refine WpG.reg ?_
  refine G.box (g := 10) rfl rfl rfl ?_
  refine G.mv rfl ?_
  refine WpOpsG.nil ?_
  change WpG _ _ _ _ _
  refine WpG.seq ?_
  refine WpG.reg ?_
  first | refine G.faddrB rfl ?_ | refine G.faddrF rfl ?_ | refine G.faddrE rfl ?_
  first | refine G.load1B rfl rfl rfl ?_ | refine G.load1F rfl rfl ?_ | refine G.load1E rfl rfl (List.getElem?_eq_getElem (by first | omega | (simp only [List.length_map, List.length_append, List.length_cons, List.length_nil, List.length_replicate, List.length_take, List.length_drop, List.length_set]; omega))) rfl ?_ | refine G.load1EM rfl rfl (List.getElem?_eq_getElem (by first | omega | (simp only [List.length_map, List.length_append, List.length_cons, List.length_nil, List.length_replicate, List.length_take, List.length_drop, List.length_set]; omega))) rfl ?_
  first | refine G.conv32B rfl ?_ | refine G.convU .u32 rfl (by rw [wrap_u32]; omega) ?_ | refine G.convi rfl ?_
  first | refine G.mulI rfl rfl (by omega) ?_ | refine G.bin rfl rfl rfl ?_
  first | refine G.faddrB rfl ?_ | refine G.faddrF rfl ?_ | refine G.faddrE rfl ?_
  first | refine G.load1B rfl rfl rfl ?_ | refine G.load1F rfl rfl ?_ | refine G.load1E rfl rfl (List.getElem?_eq_getElem (by first | omega | (simp only [List.length_map, List.length_append, List.length_cons, List.length_nil, List.length_replicate, List.length_take, List.length_drop, List.length_set]; omega))) rfl ?_ | refine G.load1EM rfl rfl (List.getElem?_eq_getElem (by first | omega | (simp only [List.length_map, List.length_append, List.length_cons, List.length_nil, List.length_replicate, List.length_take, List.length_drop, List.length_set]; omega))) rfl ?_
  first | refine G.conv32B rfl ?_ | refine G.convU .u32 rfl (by rw [wrap_u32]; omega) ?_ | refine G.convi rfl ?_
  first | refine G.addI rfl rfl (by omega) ?_ | refine G.bin rfl rfl rfl ?_
  refine G.mv rfl ?_
  refine WpOpsG.nil ?_
  change WpG _ _ _ _ _
  refine WpG.ret ?_
  refine ⟨_, [], rfl, (hasP_le (by repeat (first | exact trivial | refine ⟨rfl, ?_⟩))), rfl, rfl, rfl, ?_⟩
  exact ⟨rfl, rfl⟩
def fetch (p : List UInt8) (pc : Int) : Ins × Bool :=
  if pc < 0 ∨ pc.tmod 4 ≠ 0 ∨ pc > p.length - 4 then (⟨0, 0, 0, 0⟩, false)
  else (⟨(p.getD pc.toNat 0).toNat, (p.getD (pc.toNat + 1) 0).toNat, (p.getD (pc.toNat + 2) 0).toNat, (p.getD (pc.toNat + 3) 0).toNat⟩, true)

theorem fetch_ok {A : AProg} (hA : A.get 12 = some af12) (p : List UInt8) (pc : Int) (hl : p.length ≤ 2 ^ 60) (hpc : i64 pc)  : WpCallG A 12 [.fsl 1 (p.map encB), .v (.int .i64 pc)] [] (fun v H => v = .tup [.agg (encI (fetch p pc).1), .v (.bool (fetch p pc).2)] ∧ H = []) := by
  unfold i64 at hpc
  refine WpCallG.intro hA rfl rfl ?_
  unfold af12
  change WpG _ _ _ _ _
  refine WpG.seq ?_
  refine WpG.reg ?_
  refine G.box (g := 10) rfl rfl rfl ?_
  refine G.mv rfl ?_
  refine WpOpsG.nil ?_
  change WpG _ _ _ _ _
  refine WpG.seq ?_
  refine WpG.seq ?_
  refine WpG.reg ?_
  refine G.mv rfl ?_
  refine G.bin rfl rfl rfl ?_
  refine G.mv rfl ?_
  apply G.orS rfl rfl rfl rfl rfl rfl
  case hB =>
    intro hs1
    (try simp only [decide_eq_true_eq, decide_eq_false_iff_not, Bool.or_eq_true, Bool.and_eq_true, Bool.or_eq_false_iff, Bool.and_eq_false_iff, bne_iff_ne, beq_iff_eq, beq_eq_false_iff_ne, bne_eq_false_iff_eq, ne_eq, Bool.not_eq_true', Bool.not_eq_false', Int.not_lt, Int.not_le, Decidable.not_not, List.length_map, List.length_cons, List.length_nil] at hs1)
    refine G.mv rfl ?_
    refine G.bin rfl rfl rfl ?_
    refine G.bin rfl rfl rfl ?_
    refine WpOpsG.nil ?_
    exact ⟨rfl, (by repeat (first | exact LLe.refl _ | refine LLe.cons rfl ?_)), (by repeat (first | exact HLe.refl _ | refine HLe.cons rfl ?_)), rfl⟩
  refine G.mv rfl ?_
  apply G.orS rfl rfl rfl rfl rfl rfl
  case hB =>
    intro hs2
    (try simp only [decide_eq_true_eq, decide_eq_false_iff_not, Bool.or_eq_true, Bool.and_eq_true, Bool.or_eq_false_iff, Bool.and_eq_false_iff, bne_iff_ne, beq_iff_eq, beq_eq_false_iff_ne, bne_eq_false_iff_eq, ne_eq, Bool.not_eq_true', Bool.not_eq_false', Int.not_lt, Int.not_le, Decidable.not_not, List.length_map, List.length_cons, List.length_nil] at hs2)
    refine G.mv rfl ?_
    refine G.mv rfl ?_
    first | refine G.lenM rfl ?_ | refine G.lenOM rfl rfl ?_ | refine G.lenF rfl ?_ | refine G.lenO rfl rfl ?_ | refine G.lenNil rfl ?_
    first | refine G.subI rfl rfl (by omega) ?_ | refine G.bin rfl rfl rfl ?_
    refine G.bin rfl rfl rfl ?_
    refine WpOpsG.nil ?_
    exact ⟨rfl, (by repeat (first | exact LLe.refl _ | refine LLe.cons rfl ?_)), (by repeat (first | exact HLe.refl _ | refine HLe.cons rfl ?_)), rfl⟩
  refine WpOpsG.nil ?_
  change WpG _ _ _ _ _
  refine WpG.cond rfl (fun hq3 => ?_) (fun hq3 => ?_)
  · (try simp only [decide_eq_true_eq, decide_eq_false_iff_not, Bool.or_eq_true, Bool.and_eq_true, Bool.or_eq_false_iff, Bool.and_eq_false_iff, bne_iff_ne, beq_iff_eq, beq_eq_false_iff_ne, bne_eq_false_iff_eq, ne_eq, Bool.not_eq_true', Bool.not_eq_false', Int.not_lt, Int.not_le, Decidable.not_not, List.length_map, List.length_cons, List.length_nil] at hq3)
    refine WpG.seq ?_
    refine WpG.reg ?_
    refine G.build rfl ?_
    first | refine G.storeB rfl rfl rfl rfl rfl rfl ?_ | refine G.storeEM rfl rfl rfl (List.getElem?_eq_getElem (by first | omega | (simp only [List.length_map, List.length_append, List.length_cons, List.length_nil, List.length_replicate, List.length_take, List.length_drop, List.length_set]; omega))) rfl rfl rfl rfl rfl ?_
    refine G.mv rfl ?_
    refine WpOpsG.nil ?_
    change WpG _ _ _ _ _
    refine WpG.ret ?_
    refine ⟨_, [], rfl, (hasP_le (by repeat (first | exact trivial | refine ⟨rfl, ?_⟩))), rfl, rfl, rfl, ?_⟩
    have hf : fetch p pc = (⟨0, 0, 0, 0⟩, false) := by unfold fetch; rw [if_pos (by omega)]
    rw [hf]; exact ⟨rfl, rfl⟩
  · (try simp only [decide_eq_true_eq, decide_eq_false_iff_not, Bool.or_eq_true, Bool.and_eq_true, Bool.or_eq_false_iff, Bool.and_eq_false_iff, bne_iff_ne, beq_iff_eq, beq_eq_false_iff_ne, bne_eq_false_iff_eq, ne_eq, Bool.not_eq_true', Bool.not_eq_false', Int.not_lt, Int.not_le, Decidable.not_not, List.length_map, List.length_cons, List.length_nil] at hq3)
    refine WpG.skip ?_
    change WpG _ _ _ _ _
    refine WpG.seq ?_
    refine WpG.reg ?_
    refine G.mv rfl ?_
    refine G.mv rfl ?_
    first | refine G.iaddrN rfl rfl (List.getElem?_eq_getElem (by first | omega | (simp only [List.length_map, List.length_append, List.length_cons, List.length_nil, List.length_replicate, List.length_take, List.length_drop, List.length_set]; omega))) ?_ | refine G.iaddrM rfl rfl (by omega) (List.getElem?_eq_getElem (by first | omega | (simp only [List.length_map, List.length_append, List.length_cons, List.length_nil, List.length_replicate, List.length_take, List.length_drop, List.length_set]; omega))) ?_ | refine G.iaddrF rfl rfl (by omega) rfl ?_ | refine G.iaddrO rfl rfl rfl (by omega) (by first | omega | (simp only [List.length_map, List.length_append, List.length_cons, List.length_nil, List.length_replicate, List.length_take, List.length_drop, List.length_set]; omega)) ?_ | refine G.iaddrF rfl rfl (by omega) (List.getElem?_eq_getElem (by first | omega | (simp only [List.length_map, List.length_append, List.length_cons, List.length_nil, List.length_replicate, List.length_take, List.length_drop, List.length_set]; omega))) ?_
    first | refine G.load1B rfl rfl rfl ?_ | refine G.load1F rfl rfl ?_ | refine G.load1E rfl rfl (List.getElem?_eq_getElem (by first | omega | (simp only [List.length_map, List.length_append, List.length_cons, List.length_nil, List.length_replicate, List.length_take, List.length_drop, List.length_set]; omega))) rfl ?_ | refine G.load1EM rfl rfl (List.getElem?_eq_getElem (by first | omega | (simp only [List.length_map, List.length_append, List.length_cons, List.length_nil, List.length_replicate, List.length_take, List.length_drop, List.length_set]; omega))) rfl ?_
    first | refine G.conv64B rfl ?_ | refine G.conv64 rfl (by omega) ?_ | refine G.convi rfl ?_
    refine G.mv rfl ?_
    refine G.mv rfl ?_
    first | refine G.addI rfl rfl (by omega) ?_ | refine G.bin rfl rfl rfl ?_
    first | refine G.iaddrN rfl rfl (List.getElem?_eq_getElem (by first | omega | (simp only [List.length_map, List.length_append, List.length_cons, List.length_nil, List.length_replicate, List.length_take, List.length_drop, List.length_set]; omega))) ?_ | refine G.iaddrM rfl rfl (by omega) (List.getElem?_eq_getElem (by first | omega | (simp only [List.length_map, List.length_append, List.length_cons, List.length_nil, List.length_replicate, List.length_take, List.length_drop, List.length_set]; omega))) ?_ | refine G.iaddrF rfl rfl (by omega) rfl ?_ | refine G.iaddrO rfl rfl rfl (by omega) (by first | omega | (simp only [List.length_map, List.length_append, List.length_cons, List.length_nil, List.length_replicate, List.length_take, List.length_drop, List.length_set]; omega)) ?_ | refine G.iaddrF rfl rfl (by omega) (List.getElem?_eq_getElem (by first | omega | (simp only [List.length_map, List.length_append, List.length_cons, List.length_nil, List.length_replicate, List.length_take, List.length_drop, List.length_set]; omega))) ?_
    first | refine G.load1B rfl rfl rfl ?_ | refine G.load1F rfl rfl ?_ | refine G.load1E rfl rfl (List.getElem?_eq_getElem (by first | omega | (simp only [List.length_map, List.length_append, List.length_cons, List.length_nil, List.length_replicate, List.length_take, List.length_drop, List.length_set]; omega))) rfl ?_ | refine G.load1EM rfl rfl (List.getElem?_eq_getElem (by first | omega | (simp only [List.length_map, List.length_append, List.length_cons, List.length_nil, List.length_replicate, List.length_take, List.length_drop, List.length_set]; omega))) rfl ?_
    first | refine G.conv64B rfl ?_ | refine G.conv64 rfl (by omega) ?_ | refine G.convi rfl ?_
    refine G.mv rfl ?_
    refine G.mv rfl ?_
    first | refine G.addI rfl rfl (by omega) ?_ | refine G.bin rfl rfl rfl ?_
    first | refine G.iaddrN rfl rfl (List.getElem?_eq_getElem (by first | omega | (simp only [List.length_map, List.length_append, List.length_cons, List.length_nil, List.length_replicate, List.length_take, List.length_drop, List.length_set]; omega))) ?_ | refine G.iaddrM rfl rfl (by omega) (List.getElem?_eq_getElem (by first | omega | (simp only [List.length_map, List.length_append, List.length_cons, List.length_nil, List.length_replicate, List.length_take, List.length_drop, List.length_set]; omega))) ?_ | refine G.iaddrF rfl rfl (by omega) rfl ?_ | refine G.iaddrO rfl rfl rfl (by omega) (by first | omega | (simp only [List.length_map, List.length_append, List.length_cons, List.length_nil, List.length_replicate, List.length_take, List.length_drop, List.length_set]; omega)) ?_ | refine G.iaddrF rfl rfl (by omega) (List.getElem?_eq_getElem (by first | omega | (simp only [List.length_map, List.length_append, List.length_cons, List.length_nil, List.length_replicate, List.length_take, List.length_drop, List.length_set]; omega))) ?_
    first | refine G.load1B rfl rfl rfl ?_ | refine G.load1F rfl rfl ?_ | refine G.load1E rfl rfl (List.getElem?_eq_getElem (by first | omega | (simp only [List.length_map, List.length_append, List.length_cons, List.length_nil, List.length_replicate, List.length_take, List.length_drop, List.length_set]; omega))) rfl ?_ | refine G.load1EM rfl rfl (List.getElem?_eq_getElem (by first | omega | (simp only [List.length_map, List.length_append, List.length_cons, List.length_nil, List.length_replicate, List.length_take, List.length_drop, List.length_set]; omega))) rfl ?_
    first | refine G.conv64B rfl ?_ | refine G.conv64 rfl (by omega) ?_ | refine G.convi rfl ?_
    refine G.mv rfl ?_
    refine G.mv rfl ?_
    first | refine G.addI rfl rfl (by omega) ?_ | refine G.bin rfl rfl rfl ?_
    first | refine G.iaddrN rfl rfl (List.getElem?_eq_getElem (by first | omega | (simp only [List.length_map, List.length_append, List.length_cons, List.length_nil, List.length_replicate, List.length_take, List.length_drop, List.length_set]; omega))) ?_ | refine G.iaddrM rfl rfl (by omega) (List.getElem?_eq_getElem (by first | omega | (simp only [List.length_map, List.length_append, List.length_cons, List.length_nil, List.length_replicate, List.length_take, List.length_drop, List.length_set]; omega))) ?_ | refine G.iaddrF rfl rfl (by omega) rfl ?_ | refine G.iaddrO rfl rfl rfl (by omega) (by first | omega | (simp only [List.length_map, List.length_append, List.length_cons, List.length_nil, List.length_replicate, List.length_take, List.length_drop, List.length_set]; omega)) ?_ | refine G.iaddrF rfl rfl (by omega) (List.getElem?_eq_getElem (by first | omega | (simp only [List.length_map, List.length_append, List.length_cons, List.length_nil, List.length_replicate, List.length_take, List.length_drop, List.length_set]; omega))) ?_
    first | refine G.load1B rfl rfl rfl ?_ | refine G.load1F rfl rfl ?_ | refine G.load1E rfl rfl (List.getElem?_eq_getElem (by first | omega | (simp only [List.length_map, List.length_append, List.length_cons, List.length_nil, List.length_replicate, List.length_take, List.length_drop, List.length_set]; omega))) rfl ?_ | refine G.load1EM rfl rfl (List.getElem?_eq_getElem (by first | omega | (simp only [List.length_map, List.length_append, List.length_cons, List.length_nil, List.length_replicate, List.length_take, List.length_drop, List.length_set]; omega))) rfl ?_
    first | refine G.conv64B rfl ?_ | refine G.conv64 rfl (by omega) ?_ | refine G.convi rfl ?_
    refine G.build rfl ?_
    first | refine G.storeB rfl rfl rfl rfl rfl rfl ?_ | refine G.storeEM rfl rfl rfl (List.getElem?_eq_getElem (by first | omega | (simp only [List.length_map, List.length_append, List.length_cons, List.length_nil, List.length_replicate, List.length_take, List.length_drop, List.length_set]; omega))) rfl rfl rfl rfl rfl ?_
    refine G.mv rfl ?_
    refine WpOpsG.nil ?_
    change WpG _ _ _ _ _
    refine WpG.ret ?_
    refine ⟨_, [], rfl, (hasP_le (by repeat (first | exact trivial | refine ⟨rfl, ?_⟩))), rfl, rfl, rfl, ?_⟩
    have hf : ¬ (pc < 0 ∨ pc.tmod 4 ≠ 0 ∨ pc > p.length - 4) := by omega
    unfold fetch; rw [if_neg hf]
    refine ⟨?_, rfl⟩
    show GV.tup [.agg [_, _, _, _], .v (.bool true)] = _
    rw [getE (d := 0) _ (show pc.toNat = pc.toNat from rfl), getE (d := 0) _ (show (pc + 1).toNat = pc.toNat + 1 by omega), getE (d := 0) _ (show (pc + 2).toNat = pc.toNat + 2 by omega), getE (d := 0) _ (show (pc + 3).toNat = pc.toNat + 3 by omega)]
    rfl
def isA (op : Int) : Bool := op == 1 || op == 9 || op == 10 || op == 13 || op == 14 || op == 15
def isB (op : Int) : Bool := op == 2 || op == 3 || op == 4 || op == 5
def isC (op : Int) : Bool := op == 6 || op == 7
def isD (op : Int) : Bool := op == 11 || op == 12
def regs (op : Int) : Bool × Bool × Bool :=
  if isA op then (true, false, false)
  else if isB op then (true, true, true)
  else if isC op then (true, true, false)
  else if isD op then (false, true, false)
  else (false, false, false)
def field (n : Int) (r : Bool) : Bool := decide (n ≥ 0) && decide (n ≤ 255) && (!r || decide (n < 8))
def right (x : Ins) : Bool := decide (x.op ≥ 0) && decide (x.op ≤ 17) && field x.a (regs x.op).1 && field x.b (regs x.op).2.1 && field x.c (regs x.op).2.2

theorem regs_ok {A : AProg} (hA : A.get 19 = some af19) (op : Int)  : WpCallG A 19 [.v (.int .i64 op)] [] (fun v H => v = .tup [.v (.bool (regs op).1), .v (.bool (regs op).2.1), .v (.bool (regs op).2.2)] ∧ H = []) := by
  refine WpCallG.intro hA rfl rfl ?_
  unfold af19
  change WpG _ _ _ _ _
  refine WpG.seq ?_
  refine WpG.reg ?_
  refine G.mv rfl ?_
  refine G.mv rfl ?_
  refine G.mv rfl ?_
  refine WpOpsG.nil ?_
  change WpG _ _ _ _ _
  refine WpG.seq ?_
  refine WpG.seq ?_
  refine WpG.reg ?_
  refine G.mv rfl ?_
  refine WpOpsG.nil ?_
  change WpG _ _ _ _ _
  refine WpG.block ?_
  refine WpG.seqJ ([(6, .v (.bool (isA op))), (5, .v (.int .i64 op))]) ([]) ⟨rfl, rfl⟩ ?_ ?_
  · change WpG _ _ _ _ _
    refine WpG.seq ?_
    refine WpG.reg ?_
    refine G.bin rfl rfl rfl ?_
    refine G.mv rfl ?_
    refine WpOpsG.nil ?_
    change WpG _ _ _ _ _
    refine WpG.cond rfl (fun hq1 => ?_) (fun hq1 => ?_)
    · (try simp only [decide_eq_true_eq, decide_eq_false_iff_not, Bool.or_eq_true, Bool.and_eq_true, Bool.or_eq_false_iff, Bool.and_eq_false_iff, bne_iff_ne, beq_iff_eq, beq_eq_false_iff_ne, bne_eq_false_iff_eq, ne_eq, Bool.not_eq_true', Bool.not_eq_false', Int.not_lt, Int.not_le, Decidable.not_not, List.length_map, List.length_cons, List.length_nil] at hq1)
      refine WpG.skip ?_
      refine ⟨⟨?_, rfl, trivial⟩, trivial, rfl⟩
      show some (GV.v (.bool _)) = some (GV.v (.bool _))
      (try subst_vars)
      simp [isA, *]
    · (try simp only [decide_eq_true_eq, decide_eq_false_iff_not, Bool.or_eq_true, Bool.and_eq_true, Bool.or_eq_false_iff, Bool.and_eq_false_iff, bne_iff_ne, beq_iff_eq, beq_eq_false_iff_ne, bne_eq_false_iff_eq, ne_eq, Bool.not_eq_true', Bool.not_eq_false', Int.not_lt, Int.not_le, Decidable.not_not, List.length_map, List.length_cons, List.length_nil] at hq1)
      refine WpG.seq ?_
      refine WpG.reg ?_
      refine G.bin rfl rfl rfl ?_
      refine G.mv rfl ?_
      refine WpOpsG.nil ?_
      change WpG _ _ _ _ _
      refine WpG.cond rfl (fun hq2 => ?_) (fun hq2 => ?_)
      · (try simp only [decide_eq_true_eq, decide_eq_false_iff_not, Bool.or_eq_true, Bool.and_eq_true, Bool.or_eq_false_iff, Bool.and_eq_false_iff, bne_iff_ne, beq_iff_eq, beq_eq_false_iff_ne, bne_eq_false_iff_eq, ne_eq, Bool.not_eq_true', Bool.not_eq_false', Int.not_lt, Int.not_le, Decidable.not_not, List.length_map, List.length_cons, List.length_nil] at hq2)
        refine WpG.skip ?_
        refine ⟨⟨?_, rfl, trivial⟩, trivial, rfl⟩
        show some (GV.v (.bool _)) = some (GV.v (.bool _))
        (try subst_vars)
        simp [isA, *]
      · (try simp only [decide_eq_true_eq, decide_eq_false_iff_not, Bool.or_eq_true, Bool.and_eq_true, Bool.or_eq_false_iff, Bool.and_eq_false_iff, bne_iff_ne, beq_iff_eq, beq_eq_false_iff_ne, bne_eq_false_iff_eq, ne_eq, Bool.not_eq_true', Bool.not_eq_false', Int.not_lt, Int.not_le, Decidable.not_not, List.length_map, List.length_cons, List.length_nil] at hq2)
        refine WpG.seq ?_
        refine WpG.reg ?_
        refine G.bin rfl rfl rfl ?_
        refine G.mv rfl ?_
        refine WpOpsG.nil ?_
        change WpG _ _ _ _ _
        refine WpG.cond rfl (fun hq3 => ?_) (fun hq3 => ?_)
        · (try simp only [decide_eq_true_eq, decide_eq_false_iff_not, Bool.or_eq_true, Bool.and_eq_true, Bool.or_eq_false_iff, Bool.and_eq_false_iff, bne_iff_ne, beq_iff_eq, beq_eq_false_iff_ne, bne_eq_false_iff_eq, ne_eq, Bool.not_eq_true', Bool.not_eq_false', Int.not_lt, Int.not_le, Decidable.not_not, List.length_map, List.length_cons, List.length_nil] at hq3)
          refine WpG.skip ?_
          refine ⟨⟨?_, rfl, trivial⟩, trivial, rfl⟩
          show some (GV.v (.bool _)) = some (GV.v (.bool _))
          (try subst_vars)
          simp [isA, *]
        · (try simp only [decide_eq_true_eq, decide_eq_false_iff_not, Bool.or_eq_true, Bool.and_eq_true, Bool.or_eq_false_iff, Bool.and_eq_false_iff, bne_iff_ne, beq_iff_eq, beq_eq_false_iff_ne, bne_eq_false_iff_eq, ne_eq, Bool.not_eq_true', Bool.not_eq_false', Int.not_lt, Int.not_le, Decidable.not_not, List.length_map, List.length_cons, List.length_nil] at hq3)
          refine WpG.seq ?_
          refine WpG.reg ?_
          refine G.bin rfl rfl rfl ?_
          refine G.mv rfl ?_
          refine WpOpsG.nil ?_
          change WpG _ _ _ _ _
          refine WpG.cond rfl (fun hq4 => ?_) (fun hq4 => ?_)
          · (try simp only [decide_eq_true_eq, decide_eq_false_iff_not, Bool.or_eq_true, Bool.and_eq_true, Bool.or_eq_false_iff, Bool.and_eq_false_iff, bne_iff_ne, beq_iff_eq, beq_eq_false_iff_ne, bne_eq_false_iff_eq, ne_eq, Bool.not_eq_true', Bool.not_eq_false', Int.not_lt, Int.not_le, Decidable.not_not, List.length_map, List.length_cons, List.length_nil] at hq4)
            refine WpG.skip ?_
            refine ⟨⟨?_, rfl, trivial⟩, trivial, rfl⟩
            show some (GV.v (.bool _)) = some (GV.v (.bool _))
            (try subst_vars)
            simp [isA, *]
          · (try simp only [decide_eq_true_eq, decide_eq_false_iff_not, Bool.or_eq_true, Bool.and_eq_true, Bool.or_eq_false_iff, Bool.and_eq_false_iff, bne_iff_ne, beq_iff_eq, beq_eq_false_iff_ne, bne_eq_false_iff_eq, ne_eq, Bool.not_eq_true', Bool.not_eq_false', Int.not_lt, Int.not_le, Decidable.not_not, List.length_map, List.length_cons, List.length_nil] at hq4)
            refine WpG.seq ?_
            refine WpG.reg ?_
            refine G.bin rfl rfl rfl ?_
            refine G.mv rfl ?_
            refine WpOpsG.nil ?_
            change WpG _ _ _ _ _
            refine WpG.cond rfl (fun hq5 => ?_) (fun hq5 => ?_)
            · (try simp only [decide_eq_true_eq, decide_eq_false_iff_not, Bool.or_eq_true, Bool.and_eq_true, Bool.or_eq_false_iff, Bool.and_eq_false_iff, bne_iff_ne, beq_iff_eq, beq_eq_false_iff_ne, bne_eq_false_iff_eq, ne_eq, Bool.not_eq_true', Bool.not_eq_false', Int.not_lt, Int.not_le, Decidable.not_not, List.length_map, List.length_cons, List.length_nil] at hq5)
              refine WpG.skip ?_
              refine ⟨⟨?_, rfl, trivial⟩, trivial, rfl⟩
              show some (GV.v (.bool _)) = some (GV.v (.bool _))
              (try subst_vars)
              simp [isA, *]
            · (try simp only [decide_eq_true_eq, decide_eq_false_iff_not, Bool.or_eq_true, Bool.and_eq_true, Bool.or_eq_false_iff, Bool.and_eq_false_iff, bne_iff_ne, beq_iff_eq, beq_eq_false_iff_ne, bne_eq_false_iff_eq, ne_eq, Bool.not_eq_true', Bool.not_eq_false', Int.not_lt, Int.not_le, Decidable.not_not, List.length_map, List.length_cons, List.length_nil] at hq5)
              refine WpG.reg ?_
              refine G.bin rfl rfl rfl ?_
              refine G.mv rfl ?_
              refine WpOpsG.nil ?_
              refine ⟨⟨?_, rfl, trivial⟩, trivial, rfl⟩
              show some (GV.v (.bool _)) = some (GV.v (.bool _))
              (try subst_vars)
              simp [isA, *]
  change WpG _ _ _ _ _
  refine WpG.cond rfl (fun hq6 => ?_) (fun hq6 => ?_)
  · (try simp only [decide_eq_true_eq, decide_eq_false_iff_not, Bool.or_eq_true, Bool.and_eq_true, Bool.or_eq_false_iff, Bool.and_eq_false_iff, bne_iff_ne, beq_iff_eq, beq_eq_false_iff_ne, bne_eq_false_iff_eq, ne_eq, Bool.not_eq_true', Bool.not_eq_false', Int.not_lt, Int.not_le, Decidable.not_not, List.length_map, List.length_cons, List.length_nil] at hq6)
    refine WpG.seq ?_
    refine WpG.reg ?_
    refine G.mv rfl ?_
    refine G.mv rfl ?_
    refine G.mv rfl ?_
    refine WpOpsG.nil ?_
    change WpG _ _ _ _ _
    refine WpG.ret ?_
    refine ⟨_, [], rfl, (hasP_le (by repeat (first | exact trivial | refine ⟨rfl, ?_⟩))), rfl, rfl, rfl, ?_⟩
    refine ⟨?_, rfl⟩
    unfold regs
    simp [*]
    rfl
  · (try simp only [decide_eq_true_eq, decide_eq_false_iff_not, Bool.or_eq_true, Bool.and_eq_true, Bool.or_eq_false_iff, Bool.and_eq_false_iff, bne_iff_ne, beq_iff_eq, beq_eq_false_iff_ne, bne_eq_false_iff_eq, ne_eq, Bool.not_eq_true', Bool.not_eq_false', Int.not_lt, Int.not_le, Decidable.not_not, List.length_map, List.length_cons, List.length_nil] at hq6)
    refine WpG.seqJ ([(13, .v (.bool (isB op))), (5, .v (.int .i64 op))]) ([]) ⟨rfl, rfl⟩ ?_ ?_
    · change WpG _ _ _ _ _
      refine WpG.seq ?_
      refine WpG.reg ?_
      refine G.bin rfl rfl rfl ?_
      refine G.mv rfl ?_
      refine WpOpsG.nil ?_
      change WpG _ _ _ _ _
      refine WpG.cond rfl (fun hq7 => ?_) (fun hq7 => ?_)
      · (try simp only [decide_eq_true_eq, decide_eq_false_iff_not, Bool.or_eq_true, Bool.and_eq_true, Bool.or_eq_false_iff, Bool.and_eq_false_iff, bne_iff_ne, beq_iff_eq, beq_eq_false_iff_ne, bne_eq_false_iff_eq, ne_eq, Bool.not_eq_true', Bool.not_eq_false', Int.not_lt, Int.not_le, Decidable.not_not, List.length_map, List.length_cons, List.length_nil] at hq7)
        refine WpG.skip ?_
        refine ⟨⟨?_, rfl, trivial⟩, trivial, rfl⟩
        show some (GV.v (.bool _)) = some (GV.v (.bool _))
        (try subst_vars)
        simp [isB, *]
      · (try simp only [decide_eq_true_eq, decide_eq_false_iff_not, Bool.or_eq_true, Bool.and_eq_true, Bool.or_eq_false_iff, Bool.and_eq_false_iff, bne_iff_ne, beq_iff_eq, beq_eq_false_iff_ne, bne_eq_false_iff_eq, ne_eq, Bool.not_eq_true', Bool.not_eq_false', Int.not_lt, Int.not_le, Decidable.not_not, List.length_map, List.length_cons, List.length_nil] at hq7)
        refine WpG.seq ?_
        refine WpG.reg ?_
        refine G.bin rfl rfl rfl ?_
        refine G.mv rfl ?_
        refine WpOpsG.nil ?_
        change WpG _ _ _ _ _
        refine WpG.cond rfl (fun hq8 => ?_) (fun hq8 => ?_)
        · (try simp only [decide_eq_true_eq, decide_eq_false_iff_not, Bool.or_eq_true, Bool.and_eq_true, Bool.or_eq_false_iff, Bool.and_eq_false_iff, bne_iff_ne, beq_iff_eq, beq_eq_false_iff_ne, bne_eq_false_iff_eq, ne_eq, Bool.not_eq_true', Bool.not_eq_false', Int.not_lt, Int.not_le, Decidable.not_not, List.length_map, List.length_cons, List.length_nil] at hq8)
          refine WpG.skip ?_
          refine ⟨⟨?_, rfl, trivial⟩, trivial, rfl⟩
          show some (GV.v (.bool _)) = some (GV.v (.bool _))
          (try subst_vars)
          simp [isB, *]
        · (try simp only [decide_eq_true_eq, decide_eq_false_iff_not, Bool.or_eq_true, Bool.and_eq_true, Bool.or_eq_false_iff, Bool.and_eq_false_iff, bne_iff_ne, beq_iff_eq, beq_eq_false_iff_ne, bne_eq_false_iff_eq, ne_eq, Bool.not_eq_true', Bool.not_eq_false', Int.not_lt, Int.not_le, Decidable.not_not, List.length_map, List.length_cons, List.length_nil] at hq8)
          refine WpG.seq ?_
          refine WpG.reg ?_
          refine G.bin rfl rfl rfl ?_
          refine G.mv rfl ?_
          refine WpOpsG.nil ?_
          change WpG _ _ _ _ _
          refine WpG.cond rfl (fun hq9 => ?_) (fun hq9 => ?_)
          · (try simp only [decide_eq_true_eq, decide_eq_false_iff_not, Bool.or_eq_true, Bool.and_eq_true, Bool.or_eq_false_iff, Bool.and_eq_false_iff, bne_iff_ne, beq_iff_eq, beq_eq_false_iff_ne, bne_eq_false_iff_eq, ne_eq, Bool.not_eq_true', Bool.not_eq_false', Int.not_lt, Int.not_le, Decidable.not_not, List.length_map, List.length_cons, List.length_nil] at hq9)
            refine WpG.skip ?_
            refine ⟨⟨?_, rfl, trivial⟩, trivial, rfl⟩
            show some (GV.v (.bool _)) = some (GV.v (.bool _))
            (try subst_vars)
            simp [isB, *]
          · (try simp only [decide_eq_true_eq, decide_eq_false_iff_not, Bool.or_eq_true, Bool.and_eq_true, Bool.or_eq_false_iff, Bool.and_eq_false_iff, bne_iff_ne, beq_iff_eq, beq_eq_false_iff_ne, bne_eq_false_iff_eq, ne_eq, Bool.not_eq_true', Bool.not_eq_false', Int.not_lt, Int.not_le, Decidable.not_not, List.length_map, List.length_cons, List.length_nil] at hq9)
            refine WpG.reg ?_
            refine G.bin rfl rfl rfl ?_
            refine G.mv rfl ?_
            refine WpOpsG.nil ?_
            refine ⟨⟨?_, rfl, trivial⟩, trivial, rfl⟩
            show some (GV.v (.bool _)) = some (GV.v (.bool _))
            (try subst_vars)
            simp [isB, *]
    change WpG _ _ _ _ _
    refine WpG.cond rfl (fun hq10 => ?_) (fun hq10 => ?_)
    · (try simp only [decide_eq_true_eq, decide_eq_false_iff_not, Bool.or_eq_true, Bool.and_eq_true, Bool.or_eq_false_iff, Bool.and_eq_false_iff, bne_iff_ne, beq_iff_eq, beq_eq_false_iff_ne, bne_eq_false_iff_eq, ne_eq, Bool.not_eq_true', Bool.not_eq_false', Int.not_lt, Int.not_le, Decidable.not_not, List.length_map, List.length_cons, List.length_nil] at hq10)
      refine WpG.seq ?_
      refine WpG.reg ?_
      refine G.mv rfl ?_
      refine G.mv rfl ?_
      refine G.mv rfl ?_
      refine WpOpsG.nil ?_
      change WpG _ _ _ _ _
      refine WpG.ret ?_
      refine ⟨_, [], rfl, (hasP_le (by repeat (first | exact trivial | refine ⟨rfl, ?_⟩))), rfl, rfl, rfl, ?_⟩
      refine ⟨?_, rfl⟩
      unfold regs
      simp [*]
      rfl
    · (try simp only [decide_eq_true_eq, decide_eq_false_iff_not, Bool.or_eq_true, Bool.and_eq_true, Bool.or_eq_false_iff, Bool.and_eq_false_iff, bne_iff_ne, beq_iff_eq, beq_eq_false_iff_ne, bne_eq_false_iff_eq, ne_eq, Bool.not_eq_true', Bool.not_eq_false', Int.not_lt, Int.not_le, Decidable.not_not, List.length_map, List.length_cons, List.length_nil] at hq10)
      refine WpG.seqJ ([(18, .v (.bool (isC op))), (5, .v (.int .i64 op))]) ([]) ⟨rfl, rfl⟩ ?_ ?_
      · change WpG _ _ _ _ _
        refine WpG.seq ?_
        refine WpG.reg ?_
        refine G.bin rfl rfl rfl ?_
        refine G.mv rfl ?_
        refine WpOpsG.nil ?_
        change WpG _ _ _ _ _
        refine WpG.cond rfl (fun hq11 => ?_) (fun hq11 => ?_)
        · (try simp only [decide_eq_true_eq, decide_eq_false_iff_not, Bool.or_eq_true, Bool.and_eq_true, Bool.or_eq_false_iff, Bool.and_eq_false_iff, bne_iff_ne, beq_iff_eq, beq_eq_false_iff_ne, bne_eq_false_iff_eq, ne_eq, Bool.not_eq_true', Bool.not_eq_false', Int.not_lt, Int.not_le, Decidable.not_not, List.length_map, List.length_cons, List.length_nil] at hq11)
          refine WpG.skip ?_
          refine ⟨⟨?_, rfl, trivial⟩, trivial, rfl⟩
          show some (GV.v (.bool _)) = some (GV.v (.bool _))
          (try subst_vars)
          simp [isC, *]
        · (try simp only [decide_eq_true_eq, decide_eq_false_iff_not, Bool.or_eq_true, Bool.and_eq_true, Bool.or_eq_false_iff, Bool.and_eq_false_iff, bne_iff_ne, beq_iff_eq, beq_eq_false_iff_ne, bne_eq_false_iff_eq, ne_eq, Bool.not_eq_true', Bool.not_eq_false', Int.not_lt, Int.not_le, Decidable.not_not, List.length_map, List.length_cons, List.length_nil] at hq11)
          refine WpG.reg ?_
          refine G.bin rfl rfl rfl ?_
          refine G.mv rfl ?_
          refine WpOpsG.nil ?_
          refine ⟨⟨?_, rfl, trivial⟩, trivial, rfl⟩
          show some (GV.v (.bool _)) = some (GV.v (.bool _))
          (try subst_vars)
          simp [isC, *]
      change WpG _ _ _ _ _
      refine WpG.cond rfl (fun hq12 => ?_) (fun hq12 => ?_)
      · (try simp only [decide_eq_true_eq, decide_eq_false_iff_not, Bool.or_eq_true, Bool.and_eq_true, Bool.or_eq_false_iff, Bool.and_eq_false_iff, bne_iff_ne, beq_iff_eq, beq_eq_false_iff_ne, bne_eq_false_iff_eq, ne_eq, Bool.not_eq_true', Bool.not_eq_false', Int.not_lt, Int.not_le, Decidable.not_not, List.length_map, List.length_cons, List.length_nil] at hq12)
        refine WpG.seq ?_
        refine WpG.reg ?_
        refine G.mv rfl ?_
        refine G.mv rfl ?_
        refine G.mv rfl ?_
        refine WpOpsG.nil ?_
        change WpG _ _ _ _ _
        refine WpG.ret ?_
        refine ⟨_, [], rfl, (hasP_le (by repeat (first | exact trivial | refine ⟨rfl, ?_⟩))), rfl, rfl, rfl, ?_⟩
        refine ⟨?_, rfl⟩
        unfold regs
        simp [*]
        rfl
      · (try simp only [decide_eq_true_eq, decide_eq_false_iff_not, Bool.or_eq_true, Bool.and_eq_true, Bool.or_eq_false_iff, Bool.and_eq_false_iff, bne_iff_ne, beq_iff_eq, beq_eq_false_iff_ne, bne_eq_false_iff_eq, ne_eq, Bool.not_eq_true', Bool.not_eq_false', Int.not_lt, Int.not_le, Decidable.not_not, List.length_map, List.length_cons, List.length_nil] at hq12)
        refine WpG.seqJ ([(21, .v (.bool (isD op))), (5, .v (.int .i64 op))]) ([]) ⟨rfl, rfl⟩ ?_ ?_
        · change WpG _ _ _ _ _
          refine WpG.seq ?_
          refine WpG.reg ?_
          refine G.bin rfl rfl rfl ?_
          refine G.mv rfl ?_
          refine WpOpsG.nil ?_
          change WpG _ _ _ _ _
          refine WpG.cond rfl (fun hq13 => ?_) (fun hq13 => ?_)
          · (try simp only [decide_eq_true_eq, decide_eq_false_iff_not, Bool.or_eq_true, Bool.and_eq_true, Bool.or_eq_false_iff, Bool.and_eq_false_iff, bne_iff_ne, beq_iff_eq, beq_eq_false_iff_ne, bne_eq_false_iff_eq, ne_eq, Bool.not_eq_true', Bool.not_eq_false', Int.not_lt, Int.not_le, Decidable.not_not, List.length_map, List.length_cons, List.length_nil] at hq13)
            refine WpG.skip ?_
            refine ⟨⟨?_, rfl, trivial⟩, trivial, rfl⟩
            show some (GV.v (.bool _)) = some (GV.v (.bool _))
            (try subst_vars)
            simp [isD, *]
          · (try simp only [decide_eq_true_eq, decide_eq_false_iff_not, Bool.or_eq_true, Bool.and_eq_true, Bool.or_eq_false_iff, Bool.and_eq_false_iff, bne_iff_ne, beq_iff_eq, beq_eq_false_iff_ne, bne_eq_false_iff_eq, ne_eq, Bool.not_eq_true', Bool.not_eq_false', Int.not_lt, Int.not_le, Decidable.not_not, List.length_map, List.length_cons, List.length_nil] at hq13)
            refine WpG.reg ?_
            refine G.bin rfl rfl rfl ?_
            refine G.mv rfl ?_
            refine WpOpsG.nil ?_
            refine ⟨⟨?_, rfl, trivial⟩, trivial, rfl⟩
            show some (GV.v (.bool _)) = some (GV.v (.bool _))
            (try subst_vars)
            simp [isD, *]
        change WpG _ _ _ _ _
        refine WpG.cond rfl (fun hq14 => ?_) (fun hq14 => ?_)
        · (try simp only [decide_eq_true_eq, decide_eq_false_iff_not, Bool.or_eq_true, Bool.and_eq_true, Bool.or_eq_false_iff, Bool.and_eq_false_iff, bne_iff_ne, beq_iff_eq, beq_eq_false_iff_ne, bne_eq_false_iff_eq, ne_eq, Bool.not_eq_true', Bool.not_eq_false', Int.not_lt, Int.not_le, Decidable.not_not, List.length_map, List.length_cons, List.length_nil] at hq14)
          refine WpG.seq ?_
          refine WpG.reg ?_
          refine G.mv rfl ?_
          refine G.mv rfl ?_
          refine G.mv rfl ?_
          refine WpOpsG.nil ?_
          change WpG _ _ _ _ _
          refine WpG.ret ?_
          refine ⟨_, [], rfl, (hasP_le (by repeat (first | exact trivial | refine ⟨rfl, ?_⟩))), rfl, rfl, rfl, ?_⟩
          refine ⟨?_, rfl⟩
          unfold regs
          simp [*]
          rfl
        · (try simp only [decide_eq_true_eq, decide_eq_false_iff_not, Bool.or_eq_true, Bool.and_eq_true, Bool.or_eq_false_iff, Bool.and_eq_false_iff, bne_iff_ne, beq_iff_eq, beq_eq_false_iff_ne, bne_eq_false_iff_eq, ne_eq, Bool.not_eq_true', Bool.not_eq_false', Int.not_lt, Int.not_le, Decidable.not_not, List.length_map, List.length_cons, List.length_nil] at hq14)
          refine WpG.skip ?_
          change WpG _ _ _ _ _
          refine WpG.seq ?_
          refine WpG.reg ?_
          refine G.mv rfl ?_
          refine G.mv rfl ?_
          refine G.mv rfl ?_
          refine WpOpsG.nil ?_
          change WpG _ _ _ _ _
          refine WpG.ret ?_
          refine ⟨_, [], rfl, (hasP_le (by repeat (first | exact trivial | refine ⟨rfl, ?_⟩))), rfl, rfl, rfl, ?_⟩
          refine ⟨?_, rfl⟩
          unfold regs
          simp [*]
          rfl
theorem field_ok {A : AProg} (hA : A.get 20 = some af20) (n : Int) (r : Bool)  : WpCallG A 20 [.v (.int .i64 n), .v (.bool r)] [] (fun v H => v = .v (.bool (field n r)) ∧ H = []) := by
  refine WpCallG.intro hA rfl rfl ?_
  unfold af20
  change WpG _ _ _ _ _
  refine WpG.seq ?_
  refine WpG.reg ?_
  refine G.mv rfl ?_
  refine WpOpsG.nil ?_
  change WpG _ _ _ _ _
  refine WpG.seq ?_
  refine WpG.reg ?_
  refine G.mv rfl ?_
  refine G.bin rfl rfl rfl ?_
  refine G.mv rfl ?_
  apply G.andS rfl rfl rfl rfl rfl rfl
  case hB =>
    intro hs1
    (try simp only [decide_eq_true_eq, decide_eq_false_iff_not, Bool.or_eq_true, Bool.and_eq_true, Bool.or_eq_false_iff, Bool.and_eq_false_iff, bne_iff_ne, beq_iff_eq, beq_eq_false_iff_ne, bne_eq_false_iff_eq, ne_eq, Bool.not_eq_true', Bool.not_eq_false', Int.not_lt, Int.not_le, Decidable.not_not, List.length_map, List.length_cons, List.length_nil] at hs1)
    refine G.mv rfl ?_
    refine G.bin rfl rfl rfl ?_
    refine WpOpsG.nil ?_
    exact ⟨rfl, (by repeat (first | exact LLe.refl _ | refine LLe.cons rfl ?_)), (by repeat (first | exact HLe.refl _ | refine HLe.cons rfl ?_)), rfl⟩
  refine G.mv rfl ?_
  apply G.andS rfl rfl rfl rfl rfl rfl
  case hB =>
    intro hs2
    (try simp only [decide_eq_true_eq, decide_eq_false_iff_not, Bool.or_eq_true, Bool.and_eq_true, Bool.or_eq_false_iff, Bool.and_eq_false_iff, bne_iff_ne, beq_iff_eq, beq_eq_false_iff_ne, bne_eq_false_iff_eq, ne_eq, Bool.not_eq_true', Bool.not_eq_false', Int.not_lt, Int.not_le, Decidable.not_not, List.length_map, List.length_cons, List.length_nil] at hs2)
    refine G.mv rfl ?_
    refine G.un rfl rfl ?_
    refine G.mv rfl ?_
    apply G.orS rfl rfl rfl rfl rfl rfl
    case hB =>
      intro hs3
      (try simp only [decide_eq_true_eq, decide_eq_false_iff_not, Bool.or_eq_true, Bool.and_eq_true, Bool.or_eq_false_iff, Bool.and_eq_false_iff, bne_iff_ne, beq_iff_eq, beq_eq_false_iff_ne, bne_eq_false_iff_eq, ne_eq, Bool.not_eq_true', Bool.not_eq_false', Int.not_lt, Int.not_le, Decidable.not_not, List.length_map, List.length_cons, List.length_nil] at hs3)
      refine G.mv rfl ?_
      refine G.bin rfl rfl rfl ?_
      refine WpOpsG.nil ?_
      exact ⟨rfl, (by repeat (first | exact LLe.refl _ | refine LLe.cons rfl ?_)), (by repeat (first | exact HLe.refl _ | refine HLe.cons rfl ?_)), rfl⟩
    refine WpOpsG.nil ?_
    exact ⟨rfl, (by repeat (first | exact LLe.refl _ | refine LLe.cons rfl ?_)), (by repeat (first | exact HLe.refl _ | refine HLe.cons rfl ?_)), rfl⟩
  refine G.mv rfl ?_
  refine WpOpsG.nil ?_
  change WpG _ _ _ _ _
  refine WpG.ret ?_
  refine ⟨_, [], rfl, (hasP_le (by repeat (first | exact trivial | refine ⟨rfl, ?_⟩))), rfl, rfl, rfl, ?_⟩
  exact ⟨rfl, rfl⟩
theorem right_ok {A : AProg} (hA : A.get 13 = some af13) (h19 : A.get 19 = some af19) (h20 : A.get 20 = some af20) (x : Ins)  : WpCallG A 13 [.agg (encI x)] [] (fun v H => v = .v (.bool (right x)) ∧ H = []) := by
  refine WpCallG.intro hA rfl rfl ?_
  unfold af13
  change WpG _ _ _ _ _
  refine WpG.seq ?_
  refine WpG.reg ?_
  refine G.box (g := 10) rfl rfl rfl ?_
  refine G.mv rfl ?_
  refine WpOpsG.nil ?_
  change WpG _ _ _ _ _
  refine WpG.seq ?_
  refine WpG.reg ?_
  first | refine G.faddrB rfl ?_ | refine G.faddrF rfl ?_ | refine G.faddrE rfl ?_
  first | refine G.load1B rfl rfl rfl ?_ | refine G.load1F rfl rfl ?_ | refine G.load1E rfl rfl (List.getElem?_eq_getElem (by first | omega | (simp only [List.length_map, List.length_append, List.length_cons, List.length_nil, List.length_replicate, List.length_take, List.length_drop, List.length_set]; omega))) rfl ?_ | refine G.load1EM rfl rfl (List.getElem?_eq_getElem (by first | omega | (simp only [List.length_map, List.length_append, List.length_cons, List.length_nil, List.length_replicate, List.length_take, List.length_drop, List.length_set]; omega))) rfl ?_
  refine G.call0 rfl rfl (regs_ok h19 _) ?_
  rintro _ _ ⟨rfl, rfl⟩
  refine ⟨rfl, ?_⟩
  change WpOpsG _ _ (_ :: _) _ _
  refine G.mv rfl ?_
  refine G.ext rfl rfl ?_
  refine G.ext rfl rfl ?_
  refine G.ext rfl rfl ?_
  refine G.mv rfl ?_
  refine G.mv rfl ?_
  refine G.mv rfl ?_
  refine WpOpsG.nil ?_
  change WpG _ _ _ _ _
  refine WpG.seq ?_
  refine WpG.reg ?_
  first | refine G.faddrB rfl ?_ | refine G.faddrF rfl ?_ | refine G.faddrE rfl ?_
  first | refine G.load1B rfl rfl rfl ?_ | refine G.load1F rfl rfl ?_ | refine G.load1E rfl rfl (List.getElem?_eq_getElem (by first | omega | (simp only [List.length_map, List.length_append, List.length_cons, List.length_nil, List.length_replicate, List.length_take, List.length_drop, List.length_set]; omega))) rfl ?_ | refine G.load1EM rfl rfl (List.getElem?_eq_getElem (by first | omega | (simp only [List.length_map, List.length_append, List.length_cons, List.length_nil, List.length_replicate, List.length_take, List.length_drop, List.length_set]; omega))) rfl ?_
  refine G.bin rfl rfl rfl ?_
  refine G.mv rfl ?_
  apply G.andS rfl rfl rfl rfl rfl rfl
  case hB =>
    intro hs1
    (try simp only [decide_eq_true_eq, decide_eq_false_iff_not, Bool.or_eq_true, Bool.and_eq_true, Bool.or_eq_false_iff, Bool.and_eq_false_iff, bne_iff_ne, beq_iff_eq, beq_eq_false_iff_ne, bne_eq_false_iff_eq, ne_eq, Bool.not_eq_true', Bool.not_eq_false', Int.not_lt, Int.not_le, Decidable.not_not, List.length_map, List.length_cons, List.length_nil] at hs1)
    first | refine G.faddrB rfl ?_ | refine G.faddrF rfl ?_ | refine G.faddrE rfl ?_
    first | refine G.load1B rfl rfl rfl ?_ | refine G.load1F rfl rfl ?_ | refine G.load1E rfl rfl (List.getElem?_eq_getElem (by first | omega | (simp only [List.length_map, List.length_append, List.length_cons, List.length_nil, List.length_replicate, List.length_take, List.length_drop, List.length_set]; omega))) rfl ?_ | refine G.load1EM rfl rfl (List.getElem?_eq_getElem (by first | omega | (simp only [List.length_map, List.length_append, List.length_cons, List.length_nil, List.length_replicate, List.length_take, List.length_drop, List.length_set]; omega))) rfl ?_
    refine G.bin rfl rfl rfl ?_
    refine WpOpsG.nil ?_
    exact ⟨rfl, (by repeat (first | exact LLe.refl _ | refine LLe.cons rfl ?_)), (by repeat (first | exact HLe.refl _ | refine HLe.cons rfl ?_)), rfl⟩
  refine G.mv rfl ?_
  apply G.andS rfl rfl rfl rfl rfl rfl
  case hB =>
    intro hs2
    (try simp only [decide_eq_true_eq, decide_eq_false_iff_not, Bool.or_eq_true, Bool.and_eq_true, Bool.or_eq_false_iff, Bool.and_eq_false_iff, bne_iff_ne, beq_iff_eq, beq_eq_false_iff_ne, bne_eq_false_iff_eq, ne_eq, Bool.not_eq_true', Bool.not_eq_false', Int.not_lt, Int.not_le, Decidable.not_not, List.length_map, List.length_cons, List.length_nil] at hs2)
    first | refine G.faddrB rfl ?_ | refine G.faddrF rfl ?_ | refine G.faddrE rfl ?_
    first | refine G.load1B rfl rfl rfl ?_ | refine G.load1F rfl rfl ?_ | refine G.load1E rfl rfl (List.getElem?_eq_getElem (by first | omega | (simp only [List.length_map, List.length_append, List.length_cons, List.length_nil, List.length_replicate, List.length_take, List.length_drop, List.length_set]; omega))) rfl ?_ | refine G.load1EM rfl rfl (List.getElem?_eq_getElem (by first | omega | (simp only [List.length_map, List.length_append, List.length_cons, List.length_nil, List.length_replicate, List.length_take, List.length_drop, List.length_set]; omega))) rfl ?_
    refine G.mv rfl ?_
    refine G.call0 rfl rfl (field_ok h20 _ _) ?_
    rintro _ _ ⟨rfl, rfl⟩
    refine ⟨rfl, ?_⟩
    change WpOpsG _ _ (_ :: _) _ _
    refine WpOpsG.nil ?_
    exact ⟨rfl, (by repeat (first | exact LLe.refl _ | refine LLe.cons rfl ?_)), (by repeat (first | exact HLe.refl _ | refine HLe.cons rfl ?_)), rfl⟩
  refine G.mv rfl ?_
  apply G.andS rfl rfl rfl rfl rfl rfl
  case hB =>
    intro hs3
    (try simp only [decide_eq_true_eq, decide_eq_false_iff_not, Bool.or_eq_true, Bool.and_eq_true, Bool.or_eq_false_iff, Bool.and_eq_false_iff, bne_iff_ne, beq_iff_eq, beq_eq_false_iff_ne, bne_eq_false_iff_eq, ne_eq, Bool.not_eq_true', Bool.not_eq_false', Int.not_lt, Int.not_le, Decidable.not_not, List.length_map, List.length_cons, List.length_nil] at hs3)
    first | refine G.faddrB rfl ?_ | refine G.faddrF rfl ?_ | refine G.faddrE rfl ?_
    first | refine G.load1B rfl rfl rfl ?_ | refine G.load1F rfl rfl ?_ | refine G.load1E rfl rfl (List.getElem?_eq_getElem (by first | omega | (simp only [List.length_map, List.length_append, List.length_cons, List.length_nil, List.length_replicate, List.length_take, List.length_drop, List.length_set]; omega))) rfl ?_ | refine G.load1EM rfl rfl (List.getElem?_eq_getElem (by first | omega | (simp only [List.length_map, List.length_append, List.length_cons, List.length_nil, List.length_replicate, List.length_take, List.length_drop, List.length_set]; omega))) rfl ?_
    refine G.mv rfl ?_
    refine G.call0 rfl rfl (field_ok h20 _ _) ?_
    rintro _ _ ⟨rfl, rfl⟩
    refine ⟨rfl, ?_⟩
    change WpOpsG _ _ (_ :: _) _ _
    refine WpOpsG.nil ?_
    exact ⟨rfl, (by repeat (first | exact LLe.refl _ | refine LLe.cons rfl ?_)), (by repeat (first | exact HLe.refl _ | refine HLe.cons rfl ?_)), rfl⟩
  refine G.mv rfl ?_
  apply G.andS rfl rfl rfl rfl rfl rfl
  case hB =>
    intro hs4
    (try simp only [decide_eq_true_eq, decide_eq_false_iff_not, Bool.or_eq_true, Bool.and_eq_true, Bool.or_eq_false_iff, Bool.and_eq_false_iff, bne_iff_ne, beq_iff_eq, beq_eq_false_iff_ne, bne_eq_false_iff_eq, ne_eq, Bool.not_eq_true', Bool.not_eq_false', Int.not_lt, Int.not_le, Decidable.not_not, List.length_map, List.length_cons, List.length_nil] at hs4)
    first | refine G.faddrB rfl ?_ | refine G.faddrF rfl ?_ | refine G.faddrE rfl ?_
    first | refine G.load1B rfl rfl rfl ?_ | refine G.load1F rfl rfl ?_ | refine G.load1E rfl rfl (List.getElem?_eq_getElem (by first | omega | (simp only [List.length_map, List.length_append, List.length_cons, List.length_nil, List.length_replicate, List.length_take, List.length_drop, List.length_set]; omega))) rfl ?_ | refine G.load1EM rfl rfl (List.getElem?_eq_getElem (by first | omega | (simp only [List.length_map, List.length_append, List.length_cons, List.length_nil, List.length_replicate, List.length_take, List.length_drop, List.length_set]; omega))) rfl ?_
    refine G.mv rfl ?_
    refine G.call0 rfl rfl (field_ok h20 _ _) ?_
    rintro _ _ ⟨rfl, rfl⟩
    refine ⟨rfl, ?_⟩
    change WpOpsG _ _ (_ :: _) _ _
    refine WpOpsG.nil ?_
    exact ⟨rfl, (by repeat (first | exact LLe.refl _ | refine LLe.cons rfl ?_)), (by repeat (first | exact HLe.refl _ | refine HLe.cons rfl ?_)), rfl⟩
  refine G.mv rfl ?_
  refine WpOpsG.nil ?_
  change WpG _ _ _ _ _
  refine WpG.ret ?_
  refine ⟨_, [], rfl, (hasP_le (by repeat (first | exact trivial | refine ⟨rfl, ?_⟩))), rfl, rfl, rfl, ?_⟩
  exact ⟨rfl, rfl⟩
def namesL : List ByteArray := [⟨#[110, 111, 112]⟩, ⟨#[115, 101, 116]⟩, ⟨#[97, 100, 100]⟩, ⟨#[115, 117, 98]⟩, ⟨#[109, 117, 108]⟩, ⟨#[100, 105, 118]⟩, ⟨#[108, 111, 97, 100]⟩, ⟨#[115, 116, 111, 114, 101]⟩, ⟨#[106, 109, 112]⟩, ⟨#[106, 122]⟩, ⟨#[119, 97, 105, 116]⟩, ⟨#[115, 101, 110, 100]⟩, ⟨#[114, 101, 99, 118]⟩, ⟨#[105, 110]⟩, ⟨#[116, 105, 109, 101]⟩, ⟨#[99, 104, 97, 110, 103, 101]⟩, ⟨#[115, 116, 111, 112, 97, 108, 108]⟩, ⟨#[101, 110, 100]⟩]
def encS (s : ByteArray) : List GV := [.v (.string s)]
def nameOf (op : Int) : ByteArray := if op < 0 ∨ op ≥ 18 then ⟨#[]⟩ else namesL.getD op.toNat ⟨#[]⟩
def insB (x : Ins) : List UInt8 := [b8 x.op, b8 x.a, b8 x.b, b8 x.c]
theorem insB_enc (x : Ins) : (insB x).map encB = [[.v (.int .u8 (IntKind.u8.wrap x.op))], [.v (.int .u8 (IntKind.u8.wrap x.a))], [.v (.int .u8 (IntKind.u8.wrap x.b))], [.v (.int .u8 (IntKind.u8.wrap x.c))]] := by
  simp only [insB, List.map_cons, List.map_nil, encB_b8]
theorem insB_len (l : List Ins) : (l.flatMap insB).length = 4 * l.length := by
  induction l with
  | nil => rfl
  | cons x l ih => rw [List.flatMap_cons, List.length_append, ih, List.length_cons]; show 4 + _ = _; omega

theorem bytes_ok {A : AProg} (hA : A.get 11 = some af11) (xs : List Ins) (hl : xs.length ≤ 2 ^ 44)  : WpCallG A 11 [.fsl 4 (xs.map encI)] [] (fun v H => v = .osl 30 ∧ H = [(30, .arr true 1 ((xs.flatMap insB).map encB))]) := by
  refine WpCallG.intro hA rfl rfl ?_
  unfold af11
  change WpG _ _ _ _ _
  refine WpG.seq ?_
  refine WpG.reg ?_
  refine G.mv rfl ?_
  refine WpOpsG.nil ?_
  change WpG _ _ _ _ _
  refine WpG.seq ?_
  refine WpG.reg ?_
  refine G.mv rfl ?_
  refine WpOpsG.nil ?_
  change WpG _ _ _ _ _
  refine WpG.seq ?_
  refine WpG.seq ?_
  refine WpG.reg ?_
  refine G.mv rfl ?_
  first | refine G.lenM rfl ?_ | refine G.lenOM rfl rfl ?_ | refine G.lenF rfl ?_ | refine G.lenO rfl rfl ?_ | refine G.lenNil rfl ?_
  refine G.mv rfl ?_
  refine WpOpsG.nil ?_
  change WpG _ _ _ _ _
  refine WpG.block ?_
  refine WpG.ownNil (g := 30) (k := 3) (w := 1) rfl rfl ?_
  refine WpG.loop (S := Nat) (fun i => [(8, .v (.int .i64 i)), (7, .v (.int .i64 xs.length)), (6, .fsl 4 (xs.map encI)), (3, .osl 30)]) (fun i => [(30, .arr true 1 (((xs.take i).flatMap insB).map encB))]) (fun i => i ≤ xs.length) (fun i => xs.length - i) (fun s => ⟨rfl, rfl⟩) ?_ 0 ?_ (by repeat (first | exact trivial | refine ⟨rfl, ?_⟩)) (by repeat (first | exact trivial | refine ⟨rfl, ?_⟩)) rfl
  · intro i hI
    have hlen := insB_len (xs.take i)
    rw [List.length_take] at hlen
    refine WpG.seq ?_
    refine WpG.reg ?_
    refine G.bin rfl rfl rfl ?_
    refine WpOpsG.nil ?_
    change WpG _ _ _ _ _
    refine WpG.seq ?_
    refine WpG.cond rfl (fun hq1 => ?_) (fun hq1 => ?_)
    · (try simp only [decide_eq_true_eq, decide_eq_false_iff_not, Bool.or_eq_true, Bool.and_eq_true, Bool.or_eq_false_iff, Bool.and_eq_false_iff, bne_iff_ne, beq_iff_eq, beq_eq_false_iff_ne, bne_eq_false_iff_eq, ne_eq, Bool.not_eq_true', Bool.not_eq_false', Int.not_lt, Int.not_le, Decidable.not_not, List.length_map, List.length_cons, List.length_nil] at hq1)
      refine WpG.skip ?_
      change WpG _ _ _ _ _
      refine WpG.seq ?_
      refine WpG.block ?_
      refine WpG.seq ?_
      refine WpG.reg ?_
      first | refine G.iaddrN rfl rfl (List.getElem?_eq_getElem (by first | omega | (simp only [List.length_map, List.length_append, List.length_cons, List.length_nil, List.length_replicate, List.length_take, List.length_drop, List.length_set]; omega))) ?_ | refine G.iaddrM rfl rfl (by omega) (List.getElem?_eq_getElem (by first | omega | (simp only [List.length_map, List.length_append, List.length_cons, List.length_nil, List.length_replicate, List.length_take, List.length_drop, List.length_set]; omega))) ?_ | refine G.iaddrF rfl rfl (by omega) rfl ?_ | refine G.iaddrO rfl rfl rfl (by omega) (by first | omega | (simp only [List.length_map, List.length_append, List.length_cons, List.length_nil, List.length_replicate, List.length_take, List.length_drop, List.length_set]; omega)) ?_ | refine G.iaddrF rfl rfl (by omega) (List.getElem?_eq_getElem (by first | omega | (simp only [List.length_map, List.length_append, List.length_cons, List.length_nil, List.length_replicate, List.length_take, List.length_drop, List.length_set]; omega))) ?_
      first | refine G.loadNB rfl rfl rfl ?_ | refine G.loadNF rfl rfl ?_ | refine G.loadNEM rfl rfl (List.getElem?_eq_getElem (by first | omega | (simp only [List.length_map, List.length_append, List.length_cons, List.length_nil, List.length_replicate, List.length_take, List.length_drop, List.length_set]; omega))) rfl ?_
      refine G.box (g := 10) rfl rfl rfl ?_
      first | refine G.storeB rfl rfl rfl rfl rfl rfl ?_ | refine G.storeEM rfl rfl rfl (List.getElem?_eq_getElem (by first | omega | (simp only [List.length_map, List.length_append, List.length_cons, List.length_nil, List.length_replicate, List.length_take, List.length_drop, List.length_set]; omega))) rfl rfl rfl rfl rfl ?_
      refine WpOpsG.nil ?_
      change WpG _ _ _ _ _
      refine WpG.reg ?_
      refine G.mv rfl ?_
      first | refine G.faddrB rfl ?_ | refine G.faddrF rfl ?_ | refine G.faddrE rfl ?_
      first | refine G.load1B rfl rfl rfl ?_ | refine G.load1F rfl rfl ?_ | refine G.load1E rfl rfl (List.getElem?_eq_getElem (by first | omega | (simp only [List.length_map, List.length_append, List.length_cons, List.length_nil, List.length_replicate, List.length_take, List.length_drop, List.length_set]; omega))) rfl ?_ | refine G.load1EM rfl rfl (List.getElem?_eq_getElem (by first | omega | (simp only [List.length_map, List.length_append, List.length_cons, List.length_nil, List.length_replicate, List.length_take, List.length_drop, List.length_set]; omega))) rfl ?_
      first | refine G.convU .u8 rfl (by rw [wrap_u8]; omega) ?_ | refine G.convi rfl ?_
      first | refine G.faddrB rfl ?_ | refine G.faddrF rfl ?_ | refine G.faddrE rfl ?_
      first | refine G.load1B rfl rfl rfl ?_ | refine G.load1F rfl rfl ?_ | refine G.load1E rfl rfl (List.getElem?_eq_getElem (by first | omega | (simp only [List.length_map, List.length_append, List.length_cons, List.length_nil, List.length_replicate, List.length_take, List.length_drop, List.length_set]; omega))) rfl ?_ | refine G.load1EM rfl rfl (List.getElem?_eq_getElem (by first | omega | (simp only [List.length_map, List.length_append, List.length_cons, List.length_nil, List.length_replicate, List.length_take, List.length_drop, List.length_set]; omega))) rfl ?_
      first | refine G.convU .u8 rfl (by rw [wrap_u8]; omega) ?_ | refine G.convi rfl ?_
      first | refine G.faddrB rfl ?_ | refine G.faddrF rfl ?_ | refine G.faddrE rfl ?_
      first | refine G.load1B rfl rfl rfl ?_ | refine G.load1F rfl rfl ?_ | refine G.load1E rfl rfl (List.getElem?_eq_getElem (by first | omega | (simp only [List.length_map, List.length_append, List.length_cons, List.length_nil, List.length_replicate, List.length_take, List.length_drop, List.length_set]; omega))) rfl ?_ | refine G.load1EM rfl rfl (List.getElem?_eq_getElem (by first | omega | (simp only [List.length_map, List.length_append, List.length_cons, List.length_nil, List.length_replicate, List.length_take, List.length_drop, List.length_set]; omega))) rfl ?_
      first | refine G.convU .u8 rfl (by rw [wrap_u8]; omega) ?_ | refine G.convi rfl ?_
      first | refine G.faddrB rfl ?_ | refine G.faddrF rfl ?_ | refine G.faddrE rfl ?_
      first | refine G.load1B rfl rfl rfl ?_ | refine G.load1F rfl rfl ?_ | refine G.load1E rfl rfl (List.getElem?_eq_getElem (by first | omega | (simp only [List.length_map, List.length_append, List.length_cons, List.length_nil, List.length_replicate, List.length_take, List.length_drop, List.length_set]; omega))) rfl ?_ | refine G.load1EM rfl rfl (List.getElem?_eq_getElem (by first | omega | (simp only [List.length_map, List.length_append, List.length_cons, List.length_nil, List.length_replicate, List.length_take, List.length_drop, List.length_set]; omega))) rfl ?_
      first | refine G.convU .u8 rfl (by rw [wrap_u8]; omega) ?_ | refine G.convi rfl ?_
      refine G.bsliceF rfl rfl rfl ?_
      refine G.app rfl rfl rfl rfl (.inl rfl) (by rw [List.length_map, hlen]; show (4 * min i xs.length + 4) * 1 ≤ 2 ^ 47; omega) ?_
      refine G.mv rfl ?_
      refine WpOpsG.nil ?_
      change WpG _ _ _ _ _
      refine WpG.reg ?_
      first | refine G.addI rfl rfl (by omega) ?_ | refine G.bin rfl rfl rfl ?_
      refine G.mv rfl ?_
      refine WpOpsG.nil ?_
      refine ⟨i + 1, by omega, by omega, ⟨rfl, rfl, rfl, rfl, trivial⟩, ⟨?_, trivial⟩, rfl⟩
      show some (GBlk.arr true 1 (((xs.take i).flatMap insB).map encB ++ [_, _, _, _])) = _
      rw [List.take_succ_eq_append_getElem (by omega), List.flatMap_append, List.map_append, List.flatMap_cons, List.flatMap_nil, List.append_nil, insB_enc]
    · (try simp only [decide_eq_true_eq, decide_eq_false_iff_not, Bool.or_eq_true, Bool.and_eq_true, Bool.or_eq_false_iff, Bool.and_eq_false_iff, bne_iff_ne, beq_iff_eq, beq_eq_false_iff_ne, bne_eq_false_iff_eq, ne_eq, Bool.not_eq_true', Bool.not_eq_false', Int.not_lt, Int.not_le, Decidable.not_not, List.length_map, List.length_cons, List.length_nil] at hq1)
      refine WpG.exit ?_
      change WpG _ _ _ _ _
      refine WpG.seq ?_
      refine WpG.reg ?_
      refine G.mv rfl ?_
      refine G.mv rfl ?_
      refine WpOpsG.nil ?_
      change WpG _ _ _ _ _
      refine WpG.ret ?_
      have hi : i = xs.length := by omega
      subst hi
      rw [List.take_length] at *
      refine ⟨_, [(30, .arr true 1 ((xs.flatMap insB).map encB))], rfl, (hasP_le ⟨rfl, trivial⟩), rfl, rfl, rfl, ?_⟩
      exact ⟨rfl, rfl⟩
  · exact Nat.zero_le _
theorem name_ok {A : AProg} (hA : A.get 14 = some af14) (op : Int)  : WpCallG A 14 [.v (.int .i64 op)] [] (fun v H => v = .v (.string (nameOf op)) ∧ H = []) := by
  refine WpCallG.intro hA rfl rfl ?_
  unfold af14
  change WpG _ _ _ _ _
  refine WpG.seq ?_
  refine WpG.reg ?_
  refine G.mv rfl ?_
  refine WpOpsG.nil ?_
  change WpG _ _ _ _ _
  refine WpG.seq ?_
  refine WpG.reg ?_
  refine G.bsliceF rfl rfl rfl ?_
  refine G.mv rfl ?_
  refine WpOpsG.nil ?_
  change WpG _ _ _ _ _
  refine WpG.seq ?_
  refine WpG.seq ?_
  refine WpG.reg ?_
  refine G.mv rfl ?_
  refine G.bin rfl rfl rfl ?_
  refine G.mv rfl ?_
  apply G.orS rfl rfl rfl rfl rfl rfl
  case hB =>
    intro hs1
    (try simp only [decide_eq_true_eq, decide_eq_false_iff_not, Bool.or_eq_true, Bool.and_eq_true, Bool.or_eq_false_iff, Bool.and_eq_false_iff, bne_iff_ne, beq_iff_eq, beq_eq_false_iff_ne, bne_eq_false_iff_eq, ne_eq, Bool.not_eq_true', Bool.not_eq_false', Int.not_lt, Int.not_le, Decidable.not_not, List.length_map, List.length_cons, List.length_nil] at hs1)
    refine G.mv rfl ?_
    refine G.mv rfl ?_
    first | refine G.lenM rfl ?_ | refine G.lenOM rfl rfl ?_ | refine G.lenF rfl ?_ | refine G.lenO rfl rfl ?_ | refine G.lenNil rfl ?_
    refine G.bin rfl rfl rfl ?_
    refine WpOpsG.nil ?_
    exact ⟨rfl, (by repeat (first | exact LLe.refl _ | refine LLe.cons rfl ?_)), (by repeat (first | exact HLe.refl _ | refine HLe.cons rfl ?_)), rfl⟩
  refine WpOpsG.nil ?_
  change WpG _ _ _ _ _
  refine WpG.cond rfl (fun hq2 => ?_) (fun hq2 => ?_)
  · (try simp only [decide_eq_true_eq, decide_eq_false_iff_not, Bool.or_eq_true, Bool.and_eq_true, Bool.or_eq_false_iff, Bool.and_eq_false_iff, bne_iff_ne, beq_iff_eq, beq_eq_false_iff_ne, bne_eq_false_iff_eq, ne_eq, Bool.not_eq_true', Bool.not_eq_false', Int.not_lt, Int.not_le, Decidable.not_not, List.length_map, List.length_cons, List.length_nil] at hq2)
    refine WpG.seq ?_
    refine WpG.reg ?_
    refine G.mv rfl ?_
    refine WpOpsG.nil ?_
    change WpG _ _ _ _ _
    refine WpG.ret ?_
    refine ⟨_, [], rfl, (hasP_le (by repeat (first | exact trivial | refine ⟨rfl, ?_⟩))), rfl, rfl, rfl, ?_⟩
    refine ⟨?_, rfl⟩
    unfold nameOf; rw [if_pos (by omega)]; rfl
  · (try simp only [decide_eq_true_eq, decide_eq_false_iff_not, Bool.or_eq_true, Bool.and_eq_true, Bool.or_eq_false_iff, Bool.and_eq_false_iff, bne_iff_ne, beq_iff_eq, beq_eq_false_iff_ne, bne_eq_false_iff_eq, ne_eq, Bool.not_eq_true', Bool.not_eq_false', Int.not_lt, Int.not_le, Decidable.not_not, List.length_map, List.length_cons, List.length_nil] at hq2)
    refine WpG.skip ?_
    change WpG _ _ _ _ _
    refine WpG.seq ?_
    refine WpG.reg ?_
    refine G.mv rfl ?_
    refine G.mv rfl ?_
    refine G.iaddrM (xs := namesL) (enc := encS) rfl rfl (by omega) (List.getElem?_eq_getElem (by show _ < 18; omega)) ?_
    first | refine G.load1B rfl rfl rfl ?_ | refine G.load1F rfl rfl ?_ | refine G.load1E rfl rfl (List.getElem?_eq_getElem (by first | omega | (simp only [List.length_map, List.length_append, List.length_cons, List.length_nil, List.length_replicate, List.length_take, List.length_drop, List.length_set]; omega))) rfl ?_ | refine G.load1EM rfl rfl (List.getElem?_eq_getElem (by first | omega | (simp only [List.length_map, List.length_append, List.length_cons, List.length_nil, List.length_replicate, List.length_take, List.length_drop, List.length_set]; omega))) rfl ?_
    refine G.mv rfl ?_
    refine WpOpsG.nil ?_
    change WpG _ _ _ _ _
    refine WpG.ret ?_
    refine ⟨_, [], rfl, (hasP_le (by repeat (first | exact trivial | refine ⟨rfl, ?_⟩))), rfl, rfl, rfl, ?_⟩
    refine ⟨?_, rfl⟩
    unfold nameOf; rw [if_neg (by omega), ← getE (l := namesL) (n := op.toNat) (d := ⟨#[]⟩) (by show _ < 18; omega) rfl]; rfl
def af9 : AFunc := ⟨0, [(.tmp 0)], (.seq (.reg 0 false [⟨(some 0), (.mv (.c (.v (.bool false)))), none⟩]) (.seq (.reg 1 false [⟨(some 6), (.bslice 1 4 [(.v (.int .u8 0)), (.v (.int .u8 0)), (.v (.int .u8 0)), (.v (.int .u8 0))] [(0, (1, (.c (.v (.int .u8 1))))), (1, (1, (.c (.v (.int .u8 2))))), (2, (1, (.c (.v (.int .u8 3))))), (3, (1, (.c (.v (.int .u8 4)))))]), none⟩, ⟨(some 7), (.call 12 [(.t 6), (.c (.v (.int .i64 0)))]), none⟩, ⟨(some 5), (.mv (.t 7)), none⟩, ⟨(some 8), (.ext (.t 5) 0), none⟩, ⟨(some 9), (.ext (.t 5) 1), none⟩, ⟨(some 1), (.box (.c (.agg [(.v (.int .i64 0)), (.v (.int .i64 0)), (.v (.int .i64 0)), (.v (.int .i64 0))]))), none⟩, ⟨none, (.store 4 (.t 1) (.t 8)), none⟩, ⟨(some 2), (.mv (.t 9)), none⟩]) (.seq (.reg 2 false [⟨(some 11), (.bslice 1 4 [(.v (.int .u8 0)), (.v (.int .u8 0)), (.v (.int .u8 0)), (.v (.int .u8 0))] [(0, (1, (.c (.v (.int .u8 1))))), (1, (1, (.c (.v (.int .u8 2))))), (2, (1, (.c (.v (.int .u8 3))))), (3, (1, (.c (.v (.int .u8 4)))))]), none⟩, ⟨(some 12), (.call 12 [(.t 11), (.c (.v (.int .i64 1)))]), none⟩, ⟨(some 10), (.mv (.t 12)), none⟩, ⟨(some 13), (.ext (.t 10) 0), none⟩, ⟨(some 14), (.ext (.t 10) 1), none⟩, ⟨(some 3), (.box (.c (.agg [(.v (.int .i64 0)), (.v (.int .i64 0)), (.v (.int .i64 0)), (.v (.int .i64 0))]))), none⟩, ⟨none, (.store 4 (.t 3) (.t 13)), none⟩, ⟨(some 4), (.mv (.t 14)), none⟩]) (.seq (.reg 3 false [⟨(some 15), (.mv (.t 2)), none⟩, ⟨(some 16), (.mv (.t 15)), none⟩, ⟨(some 17), (.loadN 4 (.t 1)), (some (16, true))⟩, ⟨(some 18), (.build [(.v (.int .i64 0)), (.v (.int .i64 0)), (.v (.int .i64 0)), (.v (.int .i64 0))] [(0, (1, (.c (.v (.int .i64 1))))), (1, (1, (.c (.v (.int .i64 2))))), (2, (1, (.c (.v (.int .i64 3))))), (3, (1, (.c (.v (.int .i64 4)))))]), (some (16, true))⟩, ⟨(some 19), (.beq false true [.i, .i, .i, .i] (.t 17) (.t 18)), (some (16, true))⟩, ⟨(some 20), (.pick (.t 16) (.t 19) (.c (.v (.bool false)))), none⟩, ⟨(some 21), (.mv (.t 20)), none⟩, ⟨(some 22), (.mv (.t 4)), (some (21, true))⟩, ⟨(some 23), (.un .not (.t 22)), (some (21, true))⟩, ⟨(some 24), (.pick (.t 21) (.t 23) (.c (.v (.bool false)))), none⟩, ⟨(some 25), (.mv (.t 24)), none⟩, ⟨(some 26), (.build [(.v (.int .i64 0)), (.v (.int .i64 0)), (.v (.int .i64 0)), (.v (.int .i64 0))] [(2, (1, (.c (.v (.int .i64 1))))), (3, (1, (.c (.v (.int .i64 2)))))]), (some (25, true))⟩, ⟨(some 27), (.call 15 [(.t 26)]), (some (25, true))⟩, ⟨(some 28), (.bin .eql (.t 27) (.c (.v (.int .u32 258)))), (some (25, true))⟩, ⟨(some 29), (.pick (.t 25) (.t 28) (.c (.v (.bool false)))), none⟩, ⟨(some 30), (.mv (.t 29)), none⟩, ⟨(some 31), (.build [(.v (.int .i64 0)), (.v (.int .i64 0)), (.v (.int .i64 0)), (.v (.int .i64 0))] [(0, (1, (.c (.v (.int .i64 8))))), (1, (1, (.c (.v (.int .i64 200)))))]), (some (30, true))⟩, ⟨(some 32), (.call 13 [(.t 31)]), (some (30, true))⟩, ⟨(some 33), (.pick (.t 30) (.t 32) (.c (.v (.bool false)))), none⟩, ⟨(some 34), (.mv (.t 33)), none⟩, ⟨(some 35), (.build [(.v (.int .i64 0)), (.v (.int .i64 0)), (.v (.int .i64 0)), (.v (.int .i64 0))] [(0, (1, (.c (.v (.int .i64 1))))), (1, (1, (.c (.v (.int .i64 8)))))]), (some (34, true))⟩, ⟨(some 36), (.call 13 [(.t 35)]), (some (34, true))⟩, ⟨(some 37), (.un .not (.t 36)), (some (34, true))⟩, ⟨(some 38), (.pick (.t 34) (.t 37) (.c (.v (.bool false)))), none⟩, ⟨(some 39), (.mv (.t 38)), none⟩, ⟨(some 40), (.build [(.v (.int .i64 0)), (.v (.int .i64 0)), (.v (.int .i64 0)), (.v (.int .i64 0))] [(0, (1, (.c (.v (.int .i64 18)))))]), (some (39, true))⟩, ⟨(some 41), (.call 13 [(.t 40)]), (some (39, true))⟩, ⟨(some 42), (.un .not (.t 41)), (some (39, true))⟩, ⟨(some 43), (.pick (.t 39) (.t 42) (.c (.v (.bool false)))), none⟩, ⟨(some 44), (.mv (.t 43)), none⟩, ⟨(some 45), (.call 14 [(.c (.v (.int .i64 18)))]), (some (44, true))⟩, ⟨(some 46), (.bin .eql (.t 45) (.c (.v (.string (ByteArray.mk (Array.mk [])))))), (some (44, true))⟩, ⟨(some 47), (.pick (.t 44) (.t 46) (.c (.v (.bool false)))), none⟩, ⟨(some 48), (.mv (.t 47)), none⟩, ⟨(some 49), (.call 14 [(.c (.v (.int .i64 16)))]), (some (48, true))⟩, ⟨(some 50), (.bin .eql (.t 49) (.c (.v (.string (ByteArray.mk (Array.mk [115, 116, 111, 112, 97, 108, 108])))))), (some (48, true))⟩, ⟨(some 51), (.pick (.t 48) (.t 50) (.c (.v (.bool false)))), none⟩, ⟨(some 52), (.mv (.t 51)), none⟩, ⟨(some 53), (.loadN 4 (.t 1)), (some (52, true))⟩, ⟨(some 54), (.bslice 4 1 [(.v (.int .i64 0)), (.v (.int .i64 0)), (.v (.int .i64 0)), (.v (.int .i64 0))] [(0, (4, (.t 53)))]), (some (52, true))⟩, ⟨(some 55), (.call 11 [(.t 54)]), (some (52, true))⟩, ⟨(some 56), (.convbs (.t 55)), (some (52, true))⟩, ⟨(some 57), (.bin .eql (.t 56) (.c (.v (.string (ByteArray.mk (Array.mk [1, 2, 3, 4])))))), (some (52, true))⟩, ⟨(some 58), (.pick (.t 52) (.t 57) (.c (.v (.bool false)))), none⟩, ⟨(some 0), (.mv (.t 58)), none⟩]) .ret))))⟩

theorem known_ok {A : AProg} (hA : A.get 9 = some af9) (h11 : A.get 11 = some af11) (h12 : A.get 12 = some af12) (h13 : A.get 13 = some af13) (h14 : A.get 14 = some af14) (h15 : A.get 15 = some af15) (h19 : A.get 19 = some af19) (h20 : A.get 20 = some af20)  : WpCallG A 9 [] [] (fun v H => v = .v (.bool true) ∧ H = []) := by
  refine WpCallG.intro hA rfl rfl ?_
  unfold af9
  change WpG _ _ _ _ _
  refine WpG.seq ?_
  refine WpG.reg ?_
  refine G.mv rfl ?_
  refine WpOpsG.nil ?_
  change WpG _ _ _ _ _
  refine WpG.seq ?_
  refine WpG.reg ?_
  refine G.bsliceF rfl rfl rfl ?_
  refine G.call0 rfl rfl (fetch_ok h12 [1, 2, 3, 4] _ (by show 4 ≤ _; omega) (by unfold i64; omega)) ?_
  rintro _ _ ⟨rfl, rfl⟩
  refine ⟨rfl, ?_⟩
  change WpOpsG _ _ (_ :: _) _ _
  refine G.mv rfl ?_
  refine G.ext rfl rfl ?_
  refine G.ext rfl rfl ?_
  refine G.box (g := 10) rfl rfl rfl ?_
  first | refine G.storeB rfl rfl rfl rfl rfl rfl ?_ | refine G.storeEM rfl rfl rfl (List.getElem?_eq_getElem (by first | omega | (simp only [List.length_map, List.length_append, List.length_cons, List.length_nil, List.length_replicate, List.length_take, List.length_drop, List.length_set]; omega))) rfl rfl rfl rfl rfl ?_
  refine G.mv rfl ?_
  refine WpOpsG.nil ?_
  change WpG _ _ _ _ _
  refine WpG.seq ?_
  refine WpG.reg ?_
  refine G.bsliceF rfl rfl rfl ?_
  refine G.call0 rfl rfl (fetch_ok h12 [1, 2, 3, 4] _ (by show 4 ≤ _; omega) (by unfold i64; omega)) ?_
  rintro _ _ ⟨rfl, rfl⟩
  refine ⟨rfl, ?_⟩
  change WpOpsG _ _ (_ :: _) _ _
  refine G.mv rfl ?_
  refine G.ext rfl rfl ?_
  refine G.ext rfl rfl ?_
  refine G.box (g := 11) rfl rfl rfl ?_
  first | refine G.storeB rfl rfl rfl rfl rfl rfl ?_ | refine G.storeEM rfl rfl rfl (List.getElem?_eq_getElem (by first | omega | (simp only [List.length_map, List.length_append, List.length_cons, List.length_nil, List.length_replicate, List.length_take, List.length_drop, List.length_set]; omega))) rfl rfl rfl rfl rfl ?_
  refine G.mv rfl ?_
  refine WpOpsG.nil ?_
  change WpG _ _ _ _ _
  refine WpG.seq ?_
  refine WpG.reg ?_
  refine G.mv rfl ?_
  refine G.mv rfl ?_
  apply G.andS rfl rfl rfl rfl rfl rfl
  case hB =>
    intro hs1
    (try simp only [decide_eq_true_eq, decide_eq_false_iff_not, Bool.or_eq_true, Bool.and_eq_true, Bool.or_eq_false_iff, Bool.and_eq_false_iff, bne_iff_ne, beq_iff_eq, beq_eq_false_iff_ne, bne_eq_false_iff_eq, ne_eq, Bool.not_eq_true', Bool.not_eq_false', Int.not_lt, Int.not_le, Decidable.not_not, List.length_map, List.length_cons, List.length_nil] at hs1)
    first | refine G.loadNB rfl rfl rfl ?_ | refine G.loadNF rfl rfl ?_ | refine G.loadNEM rfl rfl (List.getElem?_eq_getElem (by first | omega | (simp only [List.length_map, List.length_append, List.length_cons, List.length_nil, List.length_replicate, List.length_take, List.length_drop, List.length_set]; omega))) rfl ?_
    refine G.build rfl ?_
    refine G.beq rfl rfl rfl ?_
    refine WpOpsG.nil ?_
    exact ⟨rfl, (by repeat (first | exact LLe.refl _ | refine LLe.cons rfl ?_)), (by repeat (first | exact HLe.refl _ | refine HLe.cons rfl ?_)), rfl⟩
  refine G.mv rfl ?_
  apply G.andS rfl rfl rfl rfl rfl rfl
  case hB =>
    intro hs2
    (try simp only [decide_eq_true_eq, decide_eq_false_iff_not, Bool.or_eq_true, Bool.and_eq_true, Bool.or_eq_false_iff, Bool.and_eq_false_iff, bne_iff_ne, beq_iff_eq, beq_eq_false_iff_ne, bne_eq_false_iff_eq, ne_eq, Bool.not_eq_true', Bool.not_eq_false', Int.not_lt, Int.not_le, Decidable.not_not, List.length_map, List.length_cons, List.length_nil] at hs2)
    refine G.mv rfl ?_
    refine G.un rfl rfl ?_
    refine WpOpsG.nil ?_
    exact ⟨rfl, (by repeat (first | exact LLe.refl _ | refine LLe.cons rfl ?_)), (by repeat (first | exact HLe.refl _ | refine HLe.cons rfl ?_)), rfl⟩
  refine G.mv rfl ?_
  apply G.andS rfl rfl rfl rfl rfl rfl
  case hB =>
    intro hs3
    (try simp only [decide_eq_true_eq, decide_eq_false_iff_not, Bool.or_eq_true, Bool.and_eq_true, Bool.or_eq_false_iff, Bool.and_eq_false_iff, bne_iff_ne, beq_iff_eq, beq_eq_false_iff_ne, bne_eq_false_iff_eq, ne_eq, Bool.not_eq_true', Bool.not_eq_false', Int.not_lt, Int.not_le, Decidable.not_not, List.length_map, List.length_cons, List.length_nil] at hs3)
    refine G.build rfl ?_
    refine G.call0 rfl rfl (imm_ok h15 ⟨_, _, _, _⟩) ?_
    rintro _ _ ⟨rfl, rfl⟩
    refine ⟨rfl, ?_⟩
    change WpOpsG _ _ (_ :: _) _ _
    refine G.bin rfl rfl rfl ?_
    refine WpOpsG.nil ?_
    exact ⟨rfl, (by repeat (first | exact LLe.refl _ | refine LLe.cons rfl ?_)), (by repeat (first | exact HLe.refl _ | refine HLe.cons rfl ?_)), rfl⟩
  refine G.mv rfl ?_
  apply G.andS rfl rfl rfl rfl rfl rfl
  case hB =>
    intro hs4
    (try simp only [decide_eq_true_eq, decide_eq_false_iff_not, Bool.or_eq_true, Bool.and_eq_true, Bool.or_eq_false_iff, Bool.and_eq_false_iff, bne_iff_ne, beq_iff_eq, beq_eq_false_iff_ne, bne_eq_false_iff_eq, ne_eq, Bool.not_eq_true', Bool.not_eq_false', Int.not_lt, Int.not_le, Decidable.not_not, List.length_map, List.length_cons, List.length_nil] at hs4)
    refine G.build rfl ?_
    refine G.call0 rfl rfl (right_ok h13 h19 h20 ⟨_, _, _, _⟩) ?_
    rintro _ _ ⟨rfl, rfl⟩
    refine ⟨rfl, ?_⟩
    change WpOpsG _ _ (_ :: _) _ _
    refine WpOpsG.nil ?_
    exact ⟨rfl, (by repeat (first | exact LLe.refl _ | refine LLe.cons rfl ?_)), (by repeat (first | exact HLe.refl _ | refine HLe.cons rfl ?_)), rfl⟩
  refine G.mv rfl ?_
  apply G.andS rfl rfl rfl rfl rfl rfl
  case hB =>
    intro hs5
    (try simp only [decide_eq_true_eq, decide_eq_false_iff_not, Bool.or_eq_true, Bool.and_eq_true, Bool.or_eq_false_iff, Bool.and_eq_false_iff, bne_iff_ne, beq_iff_eq, beq_eq_false_iff_ne, bne_eq_false_iff_eq, ne_eq, Bool.not_eq_true', Bool.not_eq_false', Int.not_lt, Int.not_le, Decidable.not_not, List.length_map, List.length_cons, List.length_nil] at hs5)
    refine G.build rfl ?_
    refine G.call0 rfl rfl (right_ok h13 h19 h20 ⟨_, _, _, _⟩) ?_
    rintro _ _ ⟨rfl, rfl⟩
    refine ⟨rfl, ?_⟩
    change WpOpsG _ _ (_ :: _) _ _
    refine G.un rfl rfl ?_
    refine WpOpsG.nil ?_
    exact ⟨rfl, (by repeat (first | exact LLe.refl _ | refine LLe.cons rfl ?_)), (by repeat (first | exact HLe.refl _ | refine HLe.cons rfl ?_)), rfl⟩
  refine G.mv rfl ?_
  apply G.andS rfl rfl rfl rfl rfl rfl
  case hB =>
    intro hs6
    (try simp only [decide_eq_true_eq, decide_eq_false_iff_not, Bool.or_eq_true, Bool.and_eq_true, Bool.or_eq_false_iff, Bool.and_eq_false_iff, bne_iff_ne, beq_iff_eq, beq_eq_false_iff_ne, bne_eq_false_iff_eq, ne_eq, Bool.not_eq_true', Bool.not_eq_false', Int.not_lt, Int.not_le, Decidable.not_not, List.length_map, List.length_cons, List.length_nil] at hs6)
    refine G.build rfl ?_
    refine G.call0 rfl rfl (right_ok h13 h19 h20 ⟨_, _, _, _⟩) ?_
    rintro _ _ ⟨rfl, rfl⟩
    refine ⟨rfl, ?_⟩
    change WpOpsG _ _ (_ :: _) _ _
    refine G.un rfl rfl ?_
    refine WpOpsG.nil ?_
    exact ⟨rfl, (by repeat (first | exact LLe.refl _ | refine LLe.cons rfl ?_)), (by repeat (first | exact HLe.refl _ | refine HLe.cons rfl ?_)), rfl⟩
  refine G.mv rfl ?_
  apply G.andS rfl rfl rfl rfl rfl rfl
  case hB =>
    intro hs7
    (try simp only [decide_eq_true_eq, decide_eq_false_iff_not, Bool.or_eq_true, Bool.and_eq_true, Bool.or_eq_false_iff, Bool.and_eq_false_iff, bne_iff_ne, beq_iff_eq, beq_eq_false_iff_ne, bne_eq_false_iff_eq, ne_eq, Bool.not_eq_true', Bool.not_eq_false', Int.not_lt, Int.not_le, Decidable.not_not, List.length_map, List.length_cons, List.length_nil] at hs7)
    refine G.call0 rfl rfl (name_ok h14 _) ?_
    rintro _ _ ⟨rfl, rfl⟩
    refine ⟨rfl, ?_⟩
    change WpOpsG _ _ (_ :: _) _ _
    refine G.bin rfl rfl rfl ?_
    refine WpOpsG.nil ?_
    exact ⟨rfl, (by repeat (first | exact LLe.refl _ | refine LLe.cons rfl ?_)), (by repeat (first | exact HLe.refl _ | refine HLe.cons rfl ?_)), rfl⟩
  refine G.mv rfl ?_
  apply G.andS rfl rfl rfl rfl rfl rfl
  case hB =>
    intro hs8
    (try simp only [decide_eq_true_eq, decide_eq_false_iff_not, Bool.or_eq_true, Bool.and_eq_true, Bool.or_eq_false_iff, Bool.and_eq_false_iff, bne_iff_ne, beq_iff_eq, beq_eq_false_iff_ne, bne_eq_false_iff_eq, ne_eq, Bool.not_eq_true', Bool.not_eq_false', Int.not_lt, Int.not_le, Decidable.not_not, List.length_map, List.length_cons, List.length_nil] at hs8)
    refine G.call0 rfl rfl (name_ok h14 _) ?_
    rintro _ _ ⟨rfl, rfl⟩
    refine ⟨rfl, ?_⟩
    change WpOpsG _ _ (_ :: _) _ _
    refine G.bin rfl rfl rfl ?_
    refine WpOpsG.nil ?_
    exact ⟨rfl, (by repeat (first | exact LLe.refl _ | refine LLe.cons rfl ?_)), (by repeat (first | exact HLe.refl _ | refine HLe.cons rfl ?_)), rfl⟩
  refine G.mv rfl ?_
  apply G.andS rfl rfl rfl rfl rfl rfl
  case hB =>
    intro hs9
    (try simp only [decide_eq_true_eq, decide_eq_false_iff_not, Bool.or_eq_true, Bool.and_eq_true, Bool.or_eq_false_iff, Bool.and_eq_false_iff, bne_iff_ne, beq_iff_eq, beq_eq_false_iff_ne, bne_eq_false_iff_eq, ne_eq, Bool.not_eq_true', Bool.not_eq_false', Int.not_lt, Int.not_le, Decidable.not_not, List.length_map, List.length_cons, List.length_nil] at hs9)
    first | refine G.loadNB rfl rfl rfl ?_ | refine G.loadNF rfl rfl ?_ | refine G.loadNEM rfl rfl (List.getElem?_eq_getElem (by first | omega | (simp only [List.length_map, List.length_append, List.length_cons, List.length_nil, List.length_replicate, List.length_take, List.length_drop, List.length_set]; omega))) rfl ?_
    refine G.bsliceF rfl rfl rfl ?_
    refine G.call0 rfl rfl ((bytes_ok h11 [_] (by show 1 ≤ _; omega)).fz1) ?_
    rintro _ _ ⟨rfl, rfl⟩
    refine ⟨rfl, ?_⟩
    change WpOpsG _ _ (_ :: _) _ _
    refine G.convbs rfl rfl rfl (fun _ h => by cases h) ?_
    refine G.bin rfl rfl rfl ?_
    refine WpOpsG.nil ?_
    exact ⟨rfl, (by repeat (first | exact LLe.refl _ | refine LLe.cons rfl ?_)), (by repeat (first | exact HLe.refl _ | refine HLe.cons rfl ?_)), rfl⟩
  refine G.mv rfl ?_
  refine WpOpsG.nil ?_
  change WpG _ _ _ _ _
  refine WpG.ret ?_
  refine ⟨_, [], rfl, (hasP_le (by repeat (first | exact trivial | refine ⟨rfl, ?_⟩))), rfl, rfl, rfl, ?_⟩
  refine ⟨?_, rfl⟩
  show GV.v (.bool _) = GV.v (.bool true)
  congr 2
  decide +kernel
end Go.AM.L15
