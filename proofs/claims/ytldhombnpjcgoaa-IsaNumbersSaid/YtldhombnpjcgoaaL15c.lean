/- Contracts of the functions that the statement reaches. No condition. -/
import Derived.Test.YtldhombnpjcgoaaL15b
import Derived.Test.YtldhombnpjcgoaaGM13
set_option linter.all false
set_option maxRecDepth 10000
namespace Go.AM.L15

def af3 : AFunc := ⟨0, [(.tmp 0)], (.seq (.reg 0 false [⟨(some 0), (.mv (.c (.v (.bool false)))), none⟩]) (.seq (.reg 1 false [⟨(some 10), (.bslice 1 11 [(.v (.int .u8 0)), (.v (.int .u8 0)), (.v (.int .u8 0)), (.v (.int .u8 0)), (.v (.int .u8 0)), (.v (.int .u8 0)), (.v (.int .u8 0)), (.v (.int .u8 0)), (.v (.int .u8 0)), (.v (.int .u8 0)), (.v (.int .u8 0))] [(0, (1, (.c (.v (.int .u8 1))))), (1, (1, (.c (.v (.int .u8 2))))), (2, (1, (.c (.v (.int .u8 3))))), (3, (1, (.c (.v (.int .u8 4))))), (4, (1, (.c (.v (.int .u8 5))))), (5, (1, (.c (.v (.int .u8 6))))), (6, (1, (.c (.v (.int .u8 7))))), (7, (1, (.c (.v (.int .u8 8))))), (8, (1, (.c (.v (.int .u8 9))))), (9, (1, (.c (.v (.int .u8 10))))), (10, (1, (.c (.v (.int .u8 11)))))]), none⟩, ⟨(some 1), (.mv (.t 10)), none⟩]) (.seq (.seq (.reg 2 false [⟨(some 2), (.mv (.c (.v (.int .i64 (-(0+1)))))), none⟩]) (.block 0 (.loop (.seq (.seq (.reg 3 false [⟨(some 11), (.mv (.t 2)), none⟩, ⟨(some 12), (.bin .lss (.t 11) (.c (.v (.int .i64 20)))), none⟩]) (.cond (.t 12) .skip (.exit 0))) (.seq (.block 1 (.seq (.reg 5 false [⟨(some 15), (.bslice 1 6 [(.v (.int .i64 0)), (.v (.int .i64 0)), (.v (.int .i64 0)), (.v (.int .i64 0)), (.v (.int .i64 0)), (.v (.int .i64 0))] [(0, (1, (.c (.v (.int .i64 (-(0+1))))))), (1, (1, (.c (.v (.int .i64 0))))), (2, (1, (.c (.v (.int .i64 7))))), (3, (1, (.c (.v (.int .i64 8))))), (4, (1, (.c (.v (.int .i64 255))))), (5, (1, (.c (.v (.int .i64 256)))))]), none⟩, ⟨(some 16), (.len false (.t 15)), none⟩, ⟨(some 17), (.mv (.c (.v (.int .i64 0)))), none⟩]) (.block 2 (.loop (.seq (.reg 6 false [⟨(some 18), (.bin .lss (.t 17) (.t 16)), none⟩]) (.seq (.cond (.t 18) .skip (.exit 2)) (.seq (.block 3 (.seq (.reg 7 false [⟨(some 19), (.iaddr 1 (.t 15) (.t 17)), none⟩, ⟨(some 20), (.load1 (.t 19)), none⟩, ⟨(some 4), (.mv (.t 20)), none⟩]) (.seq (.reg 8 false [⟨(some 21), (.bslice 1 5 [(.v (.int .i64 0)), (.v (.int .i64 0)), (.v (.int .i64 0)), (.v (.int .i64 0)), (.v (.int .i64 0))] [(0, (1, (.c (.v (.int .i64 0))))), (1, (1, (.c (.v (.int .i64 7))))), (2, (1, (.c (.v (.int .i64 8))))), (3, (1, (.c (.v (.int .i64 255))))), (4, (1, (.c (.v (.int .i64 256)))))]), none⟩, ⟨(some 22), (.len false (.t 21)), none⟩, ⟨(some 23), (.mv (.c (.v (.int .i64 0)))), none⟩]) (.block 4 (.loop (.seq (.reg 9 false [⟨(some 24), (.bin .lss (.t 23) (.t 22)), none⟩]) (.seq (.cond (.t 24) .skip (.exit 4)) (.seq (.block 5 (.seq (.reg 10 false [⟨(some 25), (.iaddr 1 (.t 21) (.t 23)), none⟩, ⟨(some 26), (.load1 (.t 25)), none⟩, ⟨(some 6), (.mv (.t 26)), none⟩]) (.seq (.reg 11 false [⟨(some 27), (.bslice 1 4 [(.v (.int .i64 0)), (.v (.int .i64 0)), (.v (.int .i64 0)), (.v (.int .i64 0))] [(0, (1, (.c (.v (.int .i64 (-(0+1))))))), (1, (1, (.c (.v (.int .i64 7))))), (2, (1, (.c (.v (.int .i64 8))))), (3, (1, (.c (.v (.int .i64 256)))))]), none⟩, ⟨(some 28), (.len false (.t 27)), none⟩, ⟨(some 29), (.mv (.c (.v (.int .i64 0)))), none⟩]) (.block 6 (.loop (.seq (.reg 12 false [⟨(some 30), (.bin .lss (.t 29) (.t 28)), none⟩]) (.seq (.cond (.t 30) .skip (.exit 6)) (.seq (.block 7 (.seq (.reg 13 false [⟨(some 31), (.iaddr 1 (.t 27) (.t 29)), none⟩, ⟨(some 32), (.load1 (.t 31)), none⟩, ⟨(some 8), (.mv (.t 32)), none⟩]) (.seq (.reg 14 false [⟨(some 33), (.mv (.t 1)), none⟩, ⟨(some 34), (.mv (.t 4)), none⟩, ⟨(some 35), (.mv (.t 6)), none⟩, ⟨(some 36), (.bin .add (.t 34) (.t 35)), none⟩, ⟨(some 37), (.mv (.t 2)), none⟩, ⟨(some 38), (.mv (.t 4)), none⟩, ⟨(some 39), (.mv (.t 6)), none⟩, ⟨(some 40), (.mv (.t 8)), none⟩, ⟨(some 41), (.build [(.v (.int .i64 0)), (.v (.int .i64 0)), (.v (.int .i64 0)), (.v (.int .i64 0))] [(0, (1, (.t 37))), (1, (1, (.t 38))), (2, (1, (.t 39))), (3, (1, (.t 40)))]), none⟩, ⟨(some 42), (.call 8 [(.t 33), (.t 36), (.t 41)]), none⟩, ⟨(some 43), (.un .not (.t 42)), none⟩]) (.cond (.t 43) (.seq (.reg 15 false [⟨(some 0), (.mv (.c (.v (.bool false)))), none⟩]) .ret) .skip)))) (.reg 16 false [⟨(some 44), (.bin .add (.t 29) (.c (.v (.int .i64 1)))), none⟩, ⟨(some 29), (.mv (.t 44)), none⟩]))))))))) (.reg 17 false [⟨(some 45), (.bin .add (.t 23) (.c (.v (.int .i64 1)))), none⟩, ⟨(some 23), (.mv (.t 45)), none⟩]))))))))) (.reg 18 false [⟨(some 46), (.bin .add (.t 17) (.c (.v (.int .i64 1)))), none⟩, ⟨(some 17), (.mv (.t 46)), none⟩])))))))) (.reg 4 false [⟨(some 13), (.mv (.t 2)), none⟩, ⟨(some 14), (.bin .add (.t 13) (.c (.v (.int .i64 1)))), none⟩, ⟨(some 2), (.mv (.t 14)), none⟩])))))) (.seq (.seq (.reg 19 false [⟨(some 9), (.mv (.c (.v (.int .i64 (-(4+1)))))), none⟩]) (.block 8 (.loop (.seq (.seq (.reg 20 false [⟨(some 47), (.mv (.t 9)), none⟩, ⟨(some 48), (.bin .lss (.t 47) (.c (.v (.int .i64 16)))), none⟩]) (.cond (.t 48) .skip (.exit 8))) (.seq (.block 9 (.seq (.reg 22 false [⟨(some 51), (.mv (.t 1)), none⟩, ⟨(some 52), (.mv (.t 9)), none⟩, ⟨(some 53), (.build [(.v (.int .i64 0)), (.v (.int .i64 0)), (.v (.int .i64 0)), (.v (.int .i64 0))] []), none⟩, ⟨(some 54), (.call 8 [(.t 51), (.t 52), (.t 53)]), none⟩, ⟨(some 55), (.un .not (.t 54)), none⟩, ⟨(some 56), (.mv (.t 55)), none⟩, ⟨(some 57), (.mv (.t 1)), (some (56, false))⟩, ⟨(some 58), (.slice 1 (.t 57) none (some (.c (.v (.int .i64 4))))), (some (56, false))⟩, ⟨(some 59), (.mv (.t 9)), (some (56, false))⟩, ⟨(some 60), (.build [(.v (.int .i64 0)), (.v (.int .i64 0)), (.v (.int .i64 0)), (.v (.int .i64 0))] []), (some (56, false))⟩, ⟨(some 61), (.call 8 [(.t 58), (.t 59), (.t 60)]), (some (56, false))⟩, ⟨(some 62), (.un .not (.t 61)), (some (56, false))⟩, ⟨(some 63), (.pick (.t 56) (.c (.v (.bool true))) (.t 62)), none⟩, ⟨(some 64), (.mv (.t 63)), none⟩, ⟨(some 65), (.mv (.t 9)), (some (64, false))⟩, ⟨(some 66), (.build [(.v (.int .i64 0)), (.v (.int .i64 0)), (.v (.int .i64 0)), (.v (.int .i64 0))] []), (some (64, false))⟩, ⟨(some 67), (.call 8 [(.c (.v (.slice none 0 0))), (.t 65), (.t 66)]), (some (64, false))⟩, ⟨(some 68), (.un .not (.t 67)), (some (64, false))⟩, ⟨(some 69), (.pick (.t 64) (.c (.v (.bool true))) (.t 68)), none⟩]) (.cond (.t 69) (.seq (.reg 23 false [⟨(some 0), (.mv (.c (.v (.bool false)))), none⟩]) .ret) .skip))) (.reg 21 false [⟨(some 49), (.mv (.t 9)), none⟩, ⟨(some 50), (.bin .add (.t 49) (.c (.v (.int .i64 1)))), none⟩, ⟨(some 9), (.mv (.t 50)), none⟩])))))) (.seq (.reg 24 false [⟨(some 70), (.mv (.t 1)), none⟩, ⟨(some 71), (.build [(.v (.int .i64 0)), (.v (.int .i64 0)), (.v (.int .i64 0)), (.v (.int .i64 0))] []), none⟩, ⟨(some 72), (.call 8 [(.t 70), (.c (.v (.int .i64 4611686018427387904))), (.t 71)]), none⟩, ⟨(some 73), (.mv (.t 72)), none⟩, ⟨(some 74), (.mv (.t 1)), (some (73, true))⟩, ⟨(some 75), (.build [(.v (.int .i64 0)), (.v (.int .i64 0)), (.v (.int .i64 0)), (.v (.int .i64 0))] []), (some (73, true))⟩, ⟨(some 76), (.call 8 [(.t 74), (.c (.v (.int .i64 (-(9223372036854775807+1))))), (.t 75)]), (some (73, true))⟩, ⟨(some 77), (.pick (.t 73) (.t 76) (.c (.v (.bool false)))), none⟩, ⟨(some 78), (.mv (.t 77)), none⟩, ⟨(some 79), (.call 9 []), (some (78, true))⟩, ⟨(some 80), (.pick (.t 78) (.t 79) (.c (.v (.bool false)))), none⟩, ⟨(some 0), (.mv (.t 80)), none⟩]) .ret)))))⟩

def af4 : AFunc := ⟨3, [(.tmp 6)], (.seq (.reg 0 false [⟨(some 5), (.box (.t 2)), none⟩, ⟨(some 6), (.mv (.c (.v (.bool false)))), none⟩]) (.seq (.reg 1 false [⟨(some 10), (.mv (.t 0)), none⟩, ⟨(some 11), (.mv (.t 1)), none⟩, ⟨(some 12), (.bin .and (.t 11) (.c (.v (.int .i64 31)))), none⟩, ⟨(some 13), (.call 10 [(.t 10), (.t 12)]), none⟩, ⟨(some 9), (.mv (.t 13)), none⟩, ⟨(some 14), (.ext (.t 9) 0), none⟩, ⟨(some 15), (.ext (.t 9) 1), none⟩, ⟨(some 7), (.box (.c (.agg [(.v (.int .i64 0)), (.v (.int .i64 0)), (.v (.int .i64 0)), (.v (.int .i64 0))]))), none⟩, ⟨none, (.store 4 (.t 7) (.t 14)), none⟩, ⟨(some 8), (.mv (.t 15)), none⟩]) (.seq (.reg 2 false [⟨(some 16), (.mv (.t 0)), none⟩, ⟨(some 17), (.mv (.t 1)), none⟩, ⟨(some 18), (.loadN 4 (.t 5)), none⟩, ⟨(some 19), (.call 8 [(.t 16), (.t 17), (.t 18)]), none⟩, ⟨(some 20), (.mv (.t 19)), none⟩, ⟨(some 21), (.mv (.t 0)), (some (20, true))⟩, ⟨(some 22), (.mv (.t 1)), (some (20, true))⟩, ⟨(some 23), (.bin .and (.t 22) (.c (.v (.int .i64 31)))), (some (20, true))⟩, ⟨(some 24), (.loadN 4 (.t 7)), (some (20, true))⟩, ⟨(some 25), (.call 8 [(.t 21), (.t 23), (.t 24)]), (some (20, true))⟩, ⟨(some 26), (.pick (.t 20) (.t 25) (.c (.v (.bool false)))), none⟩, ⟨(some 27), (.mv (.t 26)), none⟩, ⟨(some 28), (.mv (.t 0)), (some (27, true))⟩, ⟨(some 29), (.mv (.t 1)), (some (27, true))⟩, ⟨(some 30), (.bin .and (.t 29) (.c (.v (.int .i64 7)))), (some (27, true))⟩, ⟨(some 31), (.bin .mul (.c (.v (.int .i64 4))) (.t 30)), (some (27, true))⟩, ⟨(some 32), (.faddr 0 (.t 5)), (some (27, true))⟩, ⟨(some 33), (.load1 (.t 32)), (some (27, true))⟩, ⟨(some 34), (.bin .and (.t 33) (.c (.v (.int .i64 31)))), (some (27, true))⟩, ⟨(some 35), (.faddr 1 (.t 5)), (some (27, true))⟩, ⟨(some 36), (.load1 (.t 35)), (some (27, true))⟩, ⟨(some 37), (.bin .and (.t 36) (.c (.v (.int .i64 15)))), (some (27, true))⟩, ⟨(some 38), (.faddr 2 (.t 5)), (some (27, true))⟩, ⟨(some 39), (.load1 (.t 38)), (some (27, true))⟩, ⟨(some 40), (.bin .and (.t 39) (.c (.v (.int .i64 15)))), (some (27, true))⟩, ⟨(some 41), (.faddr 3 (.t 5)), (some (27, true))⟩, ⟨(some 42), (.load1 (.t 41)), (some (27, true))⟩, ⟨(some 43), (.bin .and (.t 42) (.c (.v (.int .i64 15)))), (some (27, true))⟩, ⟨(some 44), (.build [(.v (.int .i64 0)), (.v (.int .i64 0)), (.v (.int .i64 0)), (.v (.int .i64 0))] [(0, (1, (.t 34))), (1, (1, (.t 37))), (2, (1, (.t 40))), (3, (1, (.t 43)))]), (some (27, true))⟩, ⟨(some 45), (.call 8 [(.t 28), (.t 31), (.t 44)]), (some (27, true))⟩, ⟨(some 46), (.pick (.t 27) (.t 45) (.c (.v (.bool false)))), none⟩, ⟨(some 47), (.mv (.t 46)), none⟩, ⟨(some 48), (.call 9 []), (some (47, true))⟩, ⟨(some 49), (.pick (.t 47) (.t 48) (.c (.v (.bool false)))), none⟩, ⟨(some 6), (.mv (.t 49)), none⟩]) .ret)))⟩

def af8 : AFunc := ⟨3, [(.tmp 6)], (.seq (.reg 0 false [⟨(some 5), (.box (.t 2)), none⟩, ⟨(some 6), (.mv (.c (.v (.bool false)))), none⟩]) (.seq (.reg 1 false [⟨(some 13), (.mv (.t 0)), none⟩, ⟨(some 14), (.mv (.t 1)), none⟩, ⟨(some 15), (.call 12 [(.t 13), (.t 14)]), none⟩, ⟨(some 12), (.mv (.t 15)), none⟩, ⟨(some 16), (.ext (.t 12) 0), none⟩, ⟨(some 17), (.ext (.t 12) 1), none⟩, ⟨(some 7), (.box (.c (.agg [(.v (.int .i64 0)), (.v (.int .i64 0)), (.v (.int .i64 0)), (.v (.int .i64 0))]))), none⟩, ⟨none, (.store 4 (.t 7) (.t 16)), none⟩, ⟨(some 8), (.mv (.t 17)), none⟩]) (.seq (.reg 2 false [⟨(some 19), (.mv (.t 0)), none⟩, ⟨(some 20), (.mv (.t 1)), none⟩, ⟨(some 21), (.call 10 [(.t 19), (.t 20)]), none⟩, ⟨(some 18), (.mv (.t 21)), none⟩, ⟨(some 22), (.ext (.t 18) 0), none⟩, ⟨(some 23), (.ext (.t 18) 1), none⟩, ⟨(some 9), (.box (.c (.agg [(.v (.int .i64 0)), (.v (.int .i64 0)), (.v (.int .i64 0)), (.v (.int .i64 0))]))), none⟩, ⟨none, (.store 4 (.t 9) (.t 22)), none⟩, ⟨(some 10), (.mv (.t 23)), none⟩]) (.seq (.reg 3 false [⟨(some 11), (.mv (.c (.v (.string (ByteArray.mk (Array.mk [])))))), none⟩]) (.seq (.seq (.reg 4 false [⟨(some 24), (.faddr 0 (.t 5)), none⟩, ⟨(some 25), (.load1 (.t 24)), none⟩, ⟨(some 26), (.bin .geq (.t 25) (.c (.v (.int .i64 0)))), none⟩, ⟨(some 27), (.mv (.t 26)), none⟩, ⟨(some 28), (.faddr 0 (.t 5)), (some (27, true))⟩, ⟨(some 29), (.load1 (.t 28)), (some (27, true))⟩, ⟨(some 30), (.ck [28] (.call 16 [])), (some (27, true))⟩, ⟨(some 31), (.len false (.t 30)), (some (27, true))⟩, ⟨(some 32), (.bin .lss (.t 29) (.t 31)), (some (27, true))⟩, ⟨(some 33), (.pick (.t 27) (.t 32) (.c (.v (.bool false)))), none⟩]) (.cond (.t 33) (.reg 5 false [⟨(some 35), (.faddr 0 (.t 5)), none⟩, ⟨(some 36), (.load1 (.t 35)), none⟩, ⟨(some 34), (.ck [35] (.call 16 [])), none⟩, ⟨(some 37), (.iaddr 1 (.t 34) (.t 36)), none⟩, ⟨(some 38), (.load1 (.t 37)), none⟩, ⟨(some 11), (.mv (.t 38)), none⟩]) .skip)) (.seq (.seq (.reg 6 false [⟨(some 39), (.loadN 4 (.t 5)), none⟩, ⟨(some 40), (.call 13 [(.t 39)]), none⟩, ⟨(some 41), (.mv (.t 40)), none⟩, ⟨(some 42), (.loadN 4 (.t 5)), (some (41, true))⟩, ⟨(some 44), (.loadN 4 (.t 5)), (some (41, true))⟩, ⟨(some 43), (.ck [5] (.call 15 [(.t 42)])), (some (41, true))⟩, ⟨(some 45), (.call 17 [(.t 44)]), (some (41, true))⟩, ⟨(some 46), (.bin .neq (.t 43) (.t 45)), (some (41, true))⟩, ⟨(some 47), (.pick (.t 41) (.t 46) (.c (.v (.bool false)))), none⟩]) (.cond (.t 47) (.seq (.reg 7 false [⟨(some 6), (.mv (.c (.v (.bool false)))), none⟩]) .ret) .skip)) (.seq (.reg 8 false [⟨(some 48), (.loadN 4 (.t 7)), none⟩, ⟨(some 49), (.loadN 4 (.t 9)), none⟩, ⟨(some 50), (.beq false true [.i, .i, .i, .i] (.t 48) (.t 49)), none⟩, ⟨(some 51), (.mv (.t 50)), none⟩, ⟨(some 52), (.mv (.t 8)), (some (51, true))⟩, ⟨(some 53), (.mv (.t 10)), (some (51, true))⟩, ⟨(some 54), (.beq false false [.b] (.t 52) (.t 53)), (some (51, true))⟩, ⟨(some 55), (.pick (.t 51) (.t 54) (.c (.v (.bool false)))), none⟩, ⟨(some 56), (.mv (.t 55)), none⟩, ⟨(some 57), (.loadN 4 (.t 5)), (some (56, true))⟩, ⟨(some 59), (.loadN 4 (.t 5)), (some (56, true))⟩, ⟨(some 58), (.ck [5] (.call 13 [(.t 57)])), (some (56, true))⟩, ⟨(some 60), (.call 18 [(.t 59)]), (some (56, true))⟩, ⟨(some 61), (.beq false false [.b] (.t 58) (.t 60)), (some (56, true))⟩, ⟨(some 62), (.pick (.t 56) (.t 61) (.c (.v (.bool false)))), none⟩, ⟨(some 63), (.mv (.t 62)), none⟩, ⟨(some 64), (.faddr 0 (.t 5)), (some (63, true))⟩, ⟨(some 65), (.load1 (.t 64)), (some (63, true))⟩, ⟨(some 66), (.call 14 [(.t 65)]), (some (63, true))⟩, ⟨(some 67), (.mv (.t 11)), (some (63, true))⟩, ⟨(some 68), (.bin .eql (.t 66) (.t 67)), (some (63, true))⟩, ⟨(some 69), (.pick (.t 63) (.t 68) (.c (.v (.bool false)))), none⟩, ⟨(some 70), (.mv (.t 69)), none⟩, ⟨(some 71), (.loadN 4 (.t 5)), (some (70, true))⟩, ⟨(some 72), (.loadN 4 (.t 7)), (some (70, true))⟩, ⟨(some 73), (.bslice 4 2 [(.v (.int .i64 0)), (.v (.int .i64 0)), (.v (.int .i64 0)), (.v (.int .i64 0)), (.v (.int .i64 0)), (.v (.int .i64 0)), (.v (.int .i64 0)), (.v (.int .i64 0))] [(0, (4, (.t 71))), (4, (4, (.t 72)))]), (some (70, true))⟩, ⟨(some 76), (.faddr 0 (.t 5)), (some (70, true))⟩, ⟨(some 77), (.load1 (.t 76)), (some (70, true))⟩, ⟨(some 79), (.faddr 1 (.t 5)), (some (70, true))⟩, ⟨(some 80), (.load1 (.t 79)), (some (70, true))⟩, ⟨(some 82), (.faddr 2 (.t 5)), (some (70, true))⟩, ⟨(some 83), (.load1 (.t 82)), (some (70, true))⟩, ⟨(some 85), (.faddr 3 (.t 5)), (some (70, true))⟩, ⟨(some 86), (.load1 (.t 85)), (some (70, true))⟩, ⟨(some 88), (.faddr 0 (.t 7)), (some (70, true))⟩, ⟨(some 89), (.load1 (.t 88)), (some (70, true))⟩, ⟨(some 91), (.faddr 1 (.t 7)), (some (70, true))⟩, ⟨(some 92), (.load1 (.t 91)), (some (70, true))⟩, ⟨(some 94), (.faddr 2 (.t 7)), (some (70, true))⟩, ⟨(some 95), (.load1 (.t 94)), (some (70, true))⟩, ⟨(some 97), (.faddr 3 (.t 7)), (some (70, true))⟩, ⟨(some 98), (.load1 (.t 97)), (some (70, true))⟩, ⟨(some 78), (.convi .u8 (.t 77)), (some (70, true))⟩, ⟨(some 81), (.convi .u8 (.t 80)), (some (70, true))⟩, ⟨(some 84), (.convi .u8 (.t 83)), (some (70, true))⟩, ⟨(some 87), (.convi .u8 (.t 86)), (some (70, true))⟩, ⟨(some 90), (.convi .u8 (.t 89)), (some (70, true))⟩, ⟨(some 93), (.convi .u8 (.t 92)), (some (70, true))⟩, ⟨(some 96), (.convi .u8 (.t 95)), (some (70, true))⟩, ⟨(some 99), (.convi .u8 (.t 98)), (some (70, true))⟩, ⟨(some 100), (.bslice 1 8 [(.v (.int .u8 0)), (.v (.int .u8 0)), (.v (.int .u8 0)), (.v (.int .u8 0)), (.v (.int .u8 0)), (.v (.int .u8 0)), (.v (.int .u8 0)), (.v (.int .u8 0))] [(0, (1, (.t 78))), (1, (1, (.t 81))), (2, (1, (.t 84))), (3, (1, (.t 87))), (4, (1, (.t 90))), (5, (1, (.t 93))), (6, (1, (.t 96))), (7, (1, (.t 99)))]), (some (70, true))⟩, ⟨(some 101), (.convbs (.t 100)), (some (70, true))⟩, ⟨(some 74), (.ck [76, 79, 82, 85, 88, 91, 94, 97, 100, 100] (.call 11 [(.t 73)])), (some (70, true))⟩, ⟨(some 75), (.convbs (.t 74)), (some (70, true))⟩, ⟨(some 102), (.bin .eql (.t 75) (.t 101)), (some (70, true))⟩, ⟨(some 103), (.pick (.t 70) (.t 102) (.c (.v (.bool false)))), none⟩, ⟨(some 6), (.mv (.t 103)), none⟩]) .ret)))))))⟩

def af10 : AFunc := ⟨2, [(.cellN 4 4), (.tmp 5)], (.seq (.reg 0 false [⟨(some 4), (.box (.c (.agg [(.v (.int .i64 0)), (.v (.int .i64 0)), (.v (.int .i64 0)), (.v (.int .i64 0))]))), none⟩, ⟨(some 5), (.mv (.c (.v (.bool false)))), none⟩]) (.seq (.seq (.reg 1 false [⟨(some 6), (.mv (.t 1)), none⟩, ⟨(some 7), (.bin .lss (.t 6) (.c (.v (.int .i64 0)))), none⟩, ⟨(some 8), (.mv (.t 7)), none⟩, ⟨(some 9), (.mv (.t 1)), (some (8, false))⟩, ⟨(some 10), (.bin .rem (.t 9) (.c (.v (.int .i64 4)))), (some (8, false))⟩, ⟨(some 11), (.bin .neq (.t 10) (.c (.v (.int .i64 0)))), (some (8, false))⟩, ⟨(some 12), (.pick (.t 8) (.c (.v (.bool true))) (.t 11)), none⟩, ⟨(some 13), (.mv (.t 12)), none⟩, ⟨(some 14), (.mv (.t 1)), (some (13, false))⟩, ⟨(some 15), (.mv (.t 0)), (some (13, false))⟩, ⟨(some 16), (.len false (.t 15)), (some (13, false))⟩, ⟨(some 17), (.bin .sub (.t 16) (.c (.v (.int .i64 4)))), (some (13, false))⟩, ⟨(some 18), (.bin .gtr (.t 14) (.t 17)), (some (13, false))⟩, ⟨(some 19), (.pick (.t 13) (.c (.v (.bool true))) (.t 18)), none⟩]) (.cond (.t 19) (.seq (.reg 2 false [⟨(some 20), (.build [(.v (.int .i64 0)), (.v (.int .i64 0)), (.v (.int .i64 0)), (.v (.int .i64 0))] []), none⟩, ⟨none, (.store 4 (.t 4) (.t 20)), none⟩, ⟨(some 5), (.mv (.c (.v (.bool false)))), none⟩]) .ret) .skip)) (.seq (.reg 3 false [⟨(some 21), (.mv (.t 0)), none⟩, ⟨(some 22), (.mv (.t 1)), none⟩, ⟨(some 23), (.iaddr 1 (.t 21) (.t 22)), none⟩, ⟨(some 24), (.load1 (.t 23)), none⟩, ⟨(some 25), (.convi .i64 (.t 24)), none⟩, ⟨(some 26), (.mv (.t 0)), none⟩, ⟨(some 27), (.mv (.t 1)), none⟩, ⟨(some 28), (.bin .add (.t 27) (.c (.v (.int .i64 1)))), none⟩, ⟨(some 29), (.iaddr 1 (.t 26) (.t 28)), none⟩, ⟨(some 30), (.load1 (.t 29)), none⟩, ⟨(some 31), (.convi .i64 (.t 30)), none⟩, ⟨(some 32), (.mv (.t 0)), none⟩, ⟨(some 33), (.mv (.t 1)), none⟩, ⟨(some 34), (.bin .add (.t 33) (.c (.v (.int .i64 2)))), none⟩, ⟨(some 35), (.iaddr 1 (.t 32) (.t 34)), none⟩, ⟨(some 36), (.load1 (.t 35)), none⟩, ⟨(some 37), (.convi .i64 (.t 36)), none⟩, ⟨(some 38), (.mv (.t 0)), none⟩, ⟨(some 39), (.mv (.t 1)), none⟩, ⟨(some 40), (.bin .add (.t 39) (.c (.v (.int .i64 3)))), none⟩, ⟨(some 41), (.iaddr 1 (.t 38) (.t 40)), none⟩, ⟨(some 42), (.load1 (.t 41)), none⟩, ⟨(some 43), (.convi .i64 (.t 42)), none⟩, ⟨(some 44), (.build [(.v (.int .i64 0)), (.v (.int .i64 0)), (.v (.int .i64 0)), (.v (.int .i64 0))] [(0, (1, (.t 25))), (1, (1, (.t 31))), (2, (1, (.t 37))), (3, (1, (.t 43)))]), none⟩, ⟨none, (.store 4 (.t 4) (.t 44)), none⟩, ⟨(some 5), (.mv (.c (.v (.bool true)))), none⟩]) .ret)))⟩

def af16 : AFunc := ⟨0, [(.tmp 0)], (.seq (.reg 0 false [⟨(some 0), (.mv (.c (.v (.slice none 0 0)))), none⟩]) (.seq (.reg 1 false [⟨(some 1), (.bslice 1 18 [(.v (.string (ByteArray.mk (Array.mk [])))), (.v (.string (ByteArray.mk (Array.mk [])))), (.v (.string (ByteArray.mk (Array.mk [])))), (.v (.string (ByteArray.mk (Array.mk [])))), (.v (.string (ByteArray.mk (Array.mk [])))), (.v (.string (ByteArray.mk (Array.mk [])))), (.v (.string (ByteArray.mk (Array.mk [])))), (.v (.string (ByteArray.mk (Array.mk [])))), (.v (.string (ByteArray.mk (Array.mk [])))), (.v (.string (ByteArray.mk (Array.mk [])))), (.v (.string (ByteArray.mk (Array.mk [])))), (.v (.string (ByteArray.mk (Array.mk [])))), (.v (.string (ByteArray.mk (Array.mk [])))), (.v (.string (ByteArray.mk (Array.mk [])))), (.v (.string (ByteArray.mk (Array.mk [])))), (.v (.string (ByteArray.mk (Array.mk [])))), (.v (.string (ByteArray.mk (Array.mk [])))), (.v (.string (ByteArray.mk (Array.mk []))))] [(0, (1, (.c (.v (.string (ByteArray.mk (Array.mk [110, 111, 112]))))))), (1, (1, (.c (.v (.string (ByteArray.mk (Array.mk [115, 101, 116]))))))), (2, (1, (.c (.v (.string (ByteArray.mk (Array.mk [97, 100, 100]))))))), (3, (1, (.c (.v (.string (ByteArray.mk (Array.mk [115, 117, 98]))))))), (4, (1, (.c (.v (.string (ByteArray.mk (Array.mk [109, 117, 108]))))))), (5, (1, (.c (.v (.string (ByteArray.mk (Array.mk [100, 105, 118]))))))), (6, (1, (.c (.v (.string (ByteArray.mk (Array.mk [108, 111, 97, 100]))))))), (7, (1, (.c (.v (.string (ByteArray.mk (Array.mk [115, 116, 111, 114, 101]))))))), (8, (1, (.c (.v (.string (ByteArray.mk (Array.mk [106, 109, 112]))))))), (9, (1, (.c (.v (.string (ByteArray.mk (Array.mk [106, 122]))))))), (10, (1, (.c (.v (.string (ByteArray.mk (Array.mk [119, 97, 105, 116]))))))), (11, (1, (.c (.v (.string (ByteArray.mk (Array.mk [115, 101, 110, 100]))))))), (12, (1, (.c (.v (.string (ByteArray.mk (Array.mk [114, 101, 99, 118]))))))), (13, (1, (.c (.v (.string (ByteArray.mk (Array.mk [105, 110]))))))), (14, (1, (.c (.v (.string (ByteArray.mk (Array.mk [116, 105, 109, 101]))))))), (15, (1, (.c (.v (.string (ByteArray.mk (Array.mk [99, 104, 97, 110, 103, 101]))))))), (16, (1, (.c (.v (.string (ByteArray.mk (Array.mk [115, 116, 111, 112, 97, 108, 108]))))))), (17, (1, (.c (.v (.string (ByteArray.mk (Array.mk [101, 110, 100])))))))]), none⟩, ⟨(some 0), (.mv (.t 1)), none⟩]) .ret))⟩

def af17 : AFunc := ⟨1, [(.tmp 2)], (.seq (.reg 0 false [⟨(some 1), (.box (.t 0)), none⟩, ⟨(some 2), (.mv (.c (.v (.int .u32 0)))), none⟩]) (.seq (.reg 1 false [⟨(some 3), (.faddr 2 (.t 1)), none⟩, ⟨(some 4), (.load1 (.t 3)), none⟩, ⟨(some 5), (.bin .mul (.c (.v (.int .i64 256))) (.t 4)), none⟩, ⟨(some 6), (.faddr 3 (.t 1)), none⟩, ⟨(some 7), (.load1 (.t 6)), none⟩, ⟨(some 8), (.bin .add (.t 5) (.t 7)), none⟩, ⟨(some 9), (.convi .u32 (.t 8)), none⟩, ⟨(some 2), (.mv (.t 9)), none⟩]) .ret))⟩

def af18 : AFunc := ⟨1, [(.tmp 2)], (.seq (.reg 0 false [⟨(some 1), (.box (.t 0)), none⟩, ⟨(some 2), (.mv (.c (.v (.bool false)))), none⟩]) (.seq (.seq (.reg 1 false [⟨(some 8), (.faddr 1 (.t 1)), none⟩, ⟨(some 9), (.load1 (.t 8)), none⟩, ⟨(some 10), (.faddr 2 (.t 1)), none⟩, ⟨(some 11), (.load1 (.t 10)), none⟩, ⟨(some 12), (.faddr 3 (.t 1)), none⟩, ⟨(some 13), (.load1 (.t 12)), none⟩, ⟨(some 14), (.bslice 1 3 [(.v (.int .i64 0)), (.v (.int .i64 0)), (.v (.int .i64 0))] [(0, (1, (.t 9))), (1, (1, (.t 11))), (2, (1, (.t 13)))]), none⟩, ⟨(some 15), (.len false (.t 14)), none⟩, ⟨(some 16), (.mv (.c (.v (.int .i64 0)))), none⟩]) (.block 0 (.loop (.seq (.reg 2 false [⟨(some 17), (.bin .lss (.t 16) (.t 15)), none⟩]) (.seq (.cond (.t 17) .skip (.exit 0)) (.seq (.block 1 (.seq (.reg 3 false [⟨(some 18), (.iaddr 1 (.t 14) (.t 16)), none⟩, ⟨(some 19), (.load1 (.t 18)), none⟩, ⟨(some 4), (.mv (.t 19)), none⟩]) (.seq (.reg 4 false [⟨(some 20), (.mv (.t 4)), none⟩, ⟨(some 21), (.bin .lss (.t 20) (.c (.v (.int .i64 0)))), none⟩, ⟨(some 22), (.mv (.t 21)), none⟩, ⟨(some 23), (.mv (.t 4)), (some (22, false))⟩, ⟨(some 24), (.bin .gtr (.t 23) (.c (.v (.int .i64 255)))), (some (22, false))⟩, ⟨(some 25), (.pick (.t 22) (.c (.v (.bool true))) (.t 24)), none⟩]) (.cond (.t 25) (.seq (.reg 5 false [⟨(some 2), (.mv (.c (.v (.bool false)))), none⟩]) .ret) .skip)))) (.reg 6 false [⟨(some 26), (.bin .add (.t 16) (.c (.v (.int .i64 1)))), none⟩, ⟨(some 16), (.mv (.t 26)), none⟩]))))))) (.seq (.reg 7 false [⟨(some 28), (.faddr 0 (.t 1)), none⟩, ⟨(some 29), (.load1 (.t 28)), none⟩, ⟨(some 30), (.call 21 [(.t 29)]), none⟩, ⟨(some 27), (.mv (.t 30)), none⟩, ⟨(some 31), (.ext (.t 27) 0), none⟩, ⟨(some 32), (.ext (.t 27) 1), none⟩, ⟨(some 33), (.ext (.t 27) 2), none⟩, ⟨(some 5), (.mv (.t 31)), none⟩, ⟨(some 6), (.mv (.t 32)), none⟩, ⟨(some 7), (.mv (.t 33)), none⟩]) (.seq (.reg 8 false [⟨(some 34), (.faddr 0 (.t 1)), none⟩, ⟨(some 35), (.load1 (.t 34)), none⟩, ⟨(some 36), (.bin .geq (.t 35) (.c (.v (.int .i64 0)))), none⟩, ⟨(some 37), (.mv (.t 36)), none⟩, ⟨(some 38), (.faddr 0 (.t 1)), (some (37, true))⟩, ⟨(some 39), (.load1 (.t 38)), (some (37, true))⟩, ⟨(some 40), (.bin .leq (.t 39) (.c (.v (.int .i64 17)))), (some (37, true))⟩, ⟨(some 41), (.pick (.t 37) (.t 40) (.c (.v (.bool false)))), none⟩, ⟨(some 42), (.mv (.t 41)), none⟩, ⟨(some 43), (.mv (.t 5)), (some (42, true))⟩, ⟨(some 44), (.un .not (.t 43)), (some (42, true))⟩, ⟨(some 45), (.mv (.t 44)), (some (42, true))⟩, ⟨(some 46), (.faddr 1 (.t 1)), (some (45, false))⟩, ⟨(some 47), (.load1 (.t 46)), (some (45, false))⟩, ⟨(some 48), (.bin .lss (.t 47) (.c (.v (.int .i64 8)))), (some (45, false))⟩, ⟨(some 49), (.pick (.t 45) (.c (.v (.bool true))) (.t 48)), (some (42, true))⟩, ⟨(some 50), (.pick (.t 42) (.t 49) (.c (.v (.bool false)))), none⟩, ⟨(some 51), (.mv (.t 50)), none⟩, ⟨(some 52), (.mv (.t 6)), (some (51, true))⟩, ⟨(some 53), (.un .not (.t 52)), (some (51, true))⟩, ⟨(some 54), (.mv (.t 53)), (some (51, true))⟩, ⟨(some 55), (.faddr 2 (.t 1)), (some (54, false))⟩, ⟨(some 56), (.load1 (.t 55)), (some (54, false))⟩, ⟨(some 57), (.bin .lss (.t 56) (.c (.v (.int .i64 8)))), (some (54, false))⟩, ⟨(some 58), (.pick (.t 54) (.c (.v (.bool true))) (.t 57)), (some (51, true))⟩, ⟨(some 59), (.pick (.t 51) (.t 58) (.c (.v (.bool false)))), none⟩, ⟨(some 60), (.mv (.t 59)), none⟩, ⟨(some 61), (.mv (.t 7)), (some (60, true))⟩, ⟨(some 62), (.un .not (.t 61)), (some (60, true))⟩, ⟨(some 63), (.mv (.t 62)), (some (60, true))⟩, ⟨(some 64), (.faddr 3 (.t 1)), (some (63, false))⟩, ⟨(some 65), (.load1 (.t 64)), (some (63, false))⟩, ⟨(some 66), (.bin .lss (.t 65) (.c (.v (.int .i64 8)))), (some (63, false))⟩, ⟨(some 67), (.pick (.t 63) (.c (.v (.bool true))) (.t 66)), (some (60, true))⟩, ⟨(some 68), (.pick (.t 60) (.t 67) (.c (.v (.bool false)))), none⟩, ⟨(some 2), (.mv (.t 68)), none⟩]) .ret))))⟩

def af21 : AFunc := ⟨1, [(.tmp 2), (.tmp 3), (.tmp 4)], (.seq (.reg 0 false [⟨(some 2), (.mv (.c (.v (.bool false)))), none⟩, ⟨(some 3), (.mv (.c (.v (.bool false)))), none⟩, ⟨(some 4), (.mv (.c (.v (.bool false)))), none⟩]) (.seq (.seq (.reg 1 false [⟨(some 5), (.mv (.t 0)), none⟩]) (.block 0 (.seq (.seq (.reg 2 false [⟨(some 7), (.bin .eql (.t 5) (.c (.v (.int .i64 1)))), none⟩, ⟨(some 6), (.mv (.t 7)), none⟩]) (.cond (.t 6) .skip (.seq (.reg 3 false [⟨(some 8), (.bin .eql (.t 5) (.c (.v (.int .i64 9)))), none⟩, ⟨(some 6), (.mv (.t 8)), none⟩]) (.cond (.t 6) .skip (.seq (.reg 4 false [⟨(some 9), (.bin .eql (.t 5) (.c (.v (.int .i64 10)))), none⟩, ⟨(some 6), (.mv (.t 9)), none⟩]) (.cond (.t 6) .skip (.seq (.reg 5 false [⟨(some 10), (.bin .eql (.t 5) (.c (.v (.int .i64 13)))), none⟩, ⟨(some 6), (.mv (.t 10)), none⟩]) (.cond (.t 6) .skip (.seq (.reg 6 false [⟨(some 11), (.bin .eql (.t 5) (.c (.v (.int .i64 14)))), none⟩, ⟨(some 6), (.mv (.t 11)), none⟩]) (.cond (.t 6) .skip (.reg 7 false [⟨(some 12), (.bin .eql (.t 5) (.c (.v (.int .i64 15)))), none⟩, ⟨(some 6), (.mv (.t 12)), none⟩]))))))))))) (.cond (.t 6) (.seq (.reg 8 false [⟨(some 2), (.mv (.c (.v (.bool true)))), none⟩, ⟨(some 3), (.mv (.c (.v (.bool false)))), none⟩, ⟨(some 4), (.mv (.c (.v (.bool false)))), none⟩]) .ret) (.seq (.seq (.reg 9 false [⟨(some 14), (.bin .eql (.t 5) (.c (.v (.int .i64 2)))), none⟩, ⟨(some 13), (.mv (.t 14)), none⟩]) (.cond (.t 13) .skip (.seq (.reg 10 false [⟨(some 15), (.bin .eql (.t 5) (.c (.v (.int .i64 3)))), none⟩, ⟨(some 13), (.mv (.t 15)), none⟩]) (.cond (.t 13) .skip (.seq (.reg 11 false [⟨(some 16), (.bin .eql (.t 5) (.c (.v (.int .i64 4)))), none⟩, ⟨(some 13), (.mv (.t 16)), none⟩]) (.cond (.t 13) .skip (.reg 12 false [⟨(some 17), (.bin .eql (.t 5) (.c (.v (.int .i64 5)))), none⟩, ⟨(some 13), (.mv (.t 17)), none⟩]))))))) (.cond (.t 13) (.seq (.reg 13 false [⟨(some 2), (.mv (.c (.v (.bool true)))), none⟩, ⟨(some 3), (.mv (.c (.v (.bool true)))), none⟩, ⟨(some 4), (.mv (.c (.v (.bool true)))), none⟩]) .ret) (.seq (.seq (.reg 14 false [⟨(some 19), (.bin .eql (.t 5) (.c (.v (.int .i64 6)))), none⟩, ⟨(some 18), (.mv (.t 19)), none⟩]) (.cond (.t 18) .skip (.reg 15 false [⟨(some 20), (.bin .eql (.t 5) (.c (.v (.int .i64 7)))), none⟩, ⟨(some 18), (.mv (.t 20)), none⟩]))) (.cond (.t 18) (.seq (.reg 16 false [⟨(some 2), (.mv (.c (.v (.bool true)))), none⟩, ⟨(some 3), (.mv (.c (.v (.bool true)))), none⟩, ⟨(some 4), (.mv (.c (.v (.bool false)))), none⟩]) .ret) (.seq (.seq (.reg 17 false [⟨(some 22), (.bin .eql (.t 5) (.c (.v (.int .i64 11)))), none⟩, ⟨(some 21), (.mv (.t 22)), none⟩]) (.cond (.t 21) .skip (.reg 18 false [⟨(some 23), (.bin .eql (.t 5) (.c (.v (.int .i64 12)))), none⟩, ⟨(some 21), (.mv (.t 23)), none⟩]))) (.cond (.t 21) (.seq (.reg 19 false [⟨(some 2), (.mv (.c (.v (.bool false)))), none⟩, ⟨(some 3), (.mv (.c (.v (.bool true)))), none⟩, ⟨(some 4), (.mv (.c (.v (.bool false)))), none⟩]) .ret) .skip)))))))))) (.seq (.reg 20 false [⟨(some 2), (.mv (.c (.v (.bool false)))), none⟩, ⟨(some 3), (.mv (.c (.v (.bool false)))), none⟩, ⟨(some 4), (.mv (.c (.v (.bool false)))), none⟩]) .ret)))⟩

theorem rfetch_ok {A : AProg} (hA : A.get 10 = some af10) (p : List UInt8) (pc : Int) (hl : p.length ≤ 2 ^ 60) (hpc : i64 pc)  : WpCallG A 10 [.fsl 1 (p.map encB), .v (.int .i64 pc)] [] (fun v H => v = .tup [.agg (encI (fetch p pc).1), .v (.bool (fetch p pc).2)] ∧ H = []) := by
  unfold i64 at hpc
  refine WpCallG.intro hA rfl rfl ?_
  unfold af10
  change WpG _ _ _ _ _
  refine WpG.seq ?_
  refine WpG.reg ?_
  refine G.box (g := 10) rfl rfl rfl ?_
  refine G.mv rfl ?_
  refine WpOpsG.nil ?_
  change WpG _ _ _ _ _
  refine WpG.seq ?_
  refine WpG.seq ?_
  refine WpG.reg ?_
  refine G.mv rfl ?_
  refine G.bin rfl rfl rfl ?_
  refine G.mv rfl ?_
  apply G.orS rfl rfl rfl rfl rfl rfl
  case hB =>
    intro hs1
    (try simp only [decide_eq_true_eq, decide_eq_false_iff_not, Bool.or_eq_true, Bool.and_eq_true, Bool.or_eq_false_iff, Bool.and_eq_false_iff, bne_iff_ne, beq_iff_eq, beq_eq_false_iff_ne, bne_eq_false_iff_eq, ne_eq, Bool.not_eq_true', Bool.not_eq_false', Int.not_lt, Int.not_le, Decidable.not_not, List.length_map, List.length_cons, List.length_nil] at hs1)
    refine G.mv rfl ?_
    refine G.remP rfl rfl (by omega) ?_
    refine G.bin rfl rfl rfl ?_
    refine WpOpsG.nil ?_
    exact ⟨rfl, (by repeat (first | exact LLe.refl _ | refine LLe.cons rfl ?_)), (by repeat (first | exact HLe.refl _ | refine HLe.cons rfl ?_)), rfl⟩
  refine G.mv rfl ?_
  apply G.orS rfl rfl rfl rfl rfl rfl
  case hB =>
    intro hs2
    (try simp only [decide_eq_true_eq, decide_eq_false_iff_not, Bool.or_eq_true, Bool.and_eq_true, Bool.or_eq_false_iff, Bool.and_eq_false_iff, bne_iff_ne, beq_iff_eq, beq_eq_false_iff_ne, bne_eq_false_iff_eq, ne_eq, Bool.not_eq_true', Bool.not_eq_false', Int.not_lt, Int.not_le, Decidable.not_not, List.length_map, List.length_cons, List.length_nil] at hs2)
    refine G.mv rfl ?_
    refine G.mv rfl ?_
    first | refine G.lenM rfl ?_ | refine G.lenOM rfl rfl ?_ | refine G.lenF rfl ?_ | refine G.lenO rfl rfl ?_ | refine G.lenNil rfl ?_
    first | refine G.subI rfl rfl (by omega) ?_ | refine G.bin rfl rfl rfl ?_
    refine G.bin rfl rfl rfl ?_
    refine WpOpsG.nil ?_
    exact ⟨rfl, (by repeat (first | exact LLe.refl _ | refine LLe.cons rfl ?_)), (by repeat (first | exact HLe.refl _ | refine HLe.cons rfl ?_)), rfl⟩
  refine WpOpsG.nil ?_
  change WpG _ _ _ _ _
  refine WpG.cond rfl (fun hq3 => ?_) (fun hq3 => ?_)
  · (try simp only [decide_eq_true_eq, decide_eq_false_iff_not, Bool.or_eq_true, Bool.and_eq_true, Bool.or_eq_false_iff, Bool.and_eq_false_iff, bne_iff_ne, beq_iff_eq, beq_eq_false_iff_ne, bne_eq_false_iff_eq, ne_eq, Bool.not_eq_true', Bool.not_eq_false', Int.not_lt, Int.not_le, Decidable.not_not, List.length_map, List.length_cons, List.length_nil] at hq3)
    refine WpG.seq ?_
    refine WpG.reg ?_
    refine G.build rfl ?_
    first | refine G.storeB rfl rfl rfl rfl rfl rfl ?_ | refine G.storeEM rfl rfl rfl (List.getElem?_eq_getElem (by first | omega | (simp only [List.length_map, List.length_append, List.length_cons, List.length_nil, List.length_replicate, List.length_take, List.length_drop, List.length_set]; omega))) rfl rfl rfl rfl rfl ?_
    refine G.mv rfl ?_
    refine WpOpsG.nil ?_
    change WpG _ _ _ _ _
    refine WpG.ret ?_
    refine ⟨_, [], rfl, (hasP_le (by repeat (first | exact trivial | refine ⟨rfl, ?_⟩))), rfl, rfl, rfl, ?_⟩
    have hf : fetch p pc = (⟨0, 0, 0, 0⟩, false) := by unfold fetch; rw [if_pos (by omega)]
    rw [hf]; exact ⟨rfl, rfl⟩
  · (try simp only [decide_eq_true_eq, decide_eq_false_iff_not, Bool.or_eq_true, Bool.and_eq_true, Bool.or_eq_false_iff, Bool.and_eq_false_iff, bne_iff_ne, beq_iff_eq, beq_eq_false_iff_ne, bne_eq_false_iff_eq, ne_eq, Bool.not_eq_true', Bool.not_eq_false', Int.not_lt, Int.not_le, Decidable.not_not, List.length_map, List.length_cons, List.length_nil] at hq3)
    refine WpG.skip ?_
    change WpG _ _ _ _ _
    refine WpG.seq ?_
    refine WpG.reg ?_
    refine G.mv rfl ?_
    refine G.mv rfl ?_
    first | refine G.iaddrN rfl rfl (List.getElem?_eq_getElem (by first | omega | (simp only [List.length_map, List.length_append, List.length_cons, List.length_nil, List.length_replicate, List.length_take, List.length_drop, List.length_set]; omega))) ?_ | refine G.iaddrM rfl rfl (by omega) (List.getElem?_eq_getElem (by first | omega | (simp only [List.length_map, List.length_append, List.length_cons, List.length_nil, List.length_replicate, List.length_take, List.length_drop, List.length_set]; omega))) ?_ | refine G.iaddrF rfl rfl (by omega) rfl ?_ | refine G.iaddrO rfl rfl rfl (by omega) (by first | omega | (simp only [List.length_map, List.length_append, List.length_cons, List.length_nil, List.length_replicate, List.length_take, List.length_drop, List.length_set]; omega)) ?_ | refine G.iaddrF rfl rfl (by omega) (List.getElem?_eq_getElem (by first | omega | (simp only [List.length_map, List.length_append, List.length_cons, List.length_nil, List.length_replicate, List.length_take, List.length_drop, List.length_set]; omega))) ?_
    first | refine G.load1B rfl rfl rfl ?_ | refine G.load1F rfl rfl ?_ | refine G.load1E rfl rfl (List.getElem?_eq_getElem (by first | omega | (simp only [List.length_map, List.length_append, List.length_cons, List.length_nil, List.length_replicate, List.length_take, List.length_drop, List.length_set]; omega))) rfl ?_ | refine G.load1EM rfl rfl (List.getElem?_eq_getElem (by first | omega | (simp only [List.length_map, List.length_append, List.length_cons, List.length_nil, List.length_replicate, List.length_take, List.length_drop, List.length_set]; omega))) rfl ?_
    first | refine G.conv64B rfl ?_ | refine G.conv64 rfl (by omega) ?_ | refine G.convi rfl ?_
    refine G.mv rfl ?_
    refine G.mv rfl ?_
    first | refine G.addI rfl rfl (by omega) ?_ | refine G.bin rfl rfl rfl ?_
    first | refine G.iaddrN rfl rfl (List.getElem?_eq_getElem (by first | omega | (simp only [List.length_map, List.length_append, List.length_cons, List.length_nil, List.length_replicate, List.length_take, List.length_drop, List.length_set]; omega))) ?_ | refine G.iaddrM rfl rfl (by omega) (List.getElem?_eq_getElem (by first | omega | (simp only [List.length_map, List.length_append, List.length_cons, List.length_nil, List.length_replicate, List.length_take, List.length_drop, List.length_set]; omega))) ?_ | refine G.iaddrF rfl rfl (by omega) rfl ?_ | refine G.iaddrO rfl rfl rfl (by omega) (by first | omega | (simp only [List.length_map, List.length_append, List.length_cons, List.length_nil, List.length_replicate, List.length_take, List.length_drop, List.length_set]; omega)) ?_ | refine G.iaddrF rfl rfl (by omega) (List.getElem?_eq_getElem (by first | omega | (simp only [List.length_map, List.length_append, List.length_cons, List.length_nil, List.length_replicate, List.length_take, List.length_drop, List.length_set]; omega))) ?_
    first | refine G.load1B rfl rfl rfl ?_ | refine G.load1F rfl rfl ?_ | refine G.load1E rfl rfl (List.getElem?_eq_getElem (by first | omega | (simp only [List.length_map, List.length_append, List.length_cons, List.length_nil, List.length_replicate, List.length_take, List.length_drop, List.length_set]; omega))) rfl ?_ | refine G.load1EM rfl rfl (List.getElem?_eq_getElem (by first | omega | (simp only [List.length_map, List.length_append, List.length_cons, List.length_nil, List.length_replicate, List.length_take, List.length_drop, List.length_set]; omega))) rfl ?_
    first | refine G.conv64B rfl ?_ | refine G.conv64 rfl (by omega) ?_ | refine G.convi rfl ?_
    refine G.mv rfl ?_
    refine G.mv rfl ?_
    first | refine G.addI rfl rfl (by omega) ?_ | refine G.bin rfl rfl rfl ?_
    first | refine G.iaddrN rfl rfl (List.getElem?_eq_getElem (by first | omega | (simp only [List.length_map, List.length_append, List.length_cons, List.length_nil, List.length_replicate, List.length_take, List.length_drop, List.length_set]; omega))) ?_ | refine G.iaddrM rfl rfl (by omega) (List.getElem?_eq_getElem (by first | omega | (simp only [List.length_map, List.length_append, List.length_cons, List.length_nil, List.length_replicate, List.length_take, List.length_drop, List.length_set]; omega))) ?_ | refine G.iaddrF rfl rfl (by omega) rfl ?_ | refine G.iaddrO rfl rfl rfl (by omega) (by first | omega | (simp only [List.length_map, List.length_append, List.length_cons, List.length_nil, List.length_replicate, List.length_take, List.length_drop, List.length_set]; omega)) ?_ | refine G.iaddrF rfl rfl (by omega) (List.getElem?_eq_getElem (by first | omega | (simp only [List.length_map, List.length_append, List.length_cons, List.length_nil, List.length_replicate, List.length_take, List.length_drop, List.length_set]; omega))) ?_
    first | refine G.load1B rfl rfl rfl ?_ | refine G.load1F rfl rfl ?_ | refine G.load1E rfl rfl (List.getElem?_eq_getElem (by first | omega | (simp only [List.length_map, List.length_append, List.length_cons, List.length_nil, List.length_replicate, List.length_take, List.length_drop, List.length_set]; omega))) rfl ?_ | refine G.load1EM rfl rfl (List.getElem?_eq_getElem (by first | omega | (simp only [List.length_map, List.length_append, List.length_cons, List.length_nil, List.length_replicate, List.length_take, List.length_drop, List.length_set]; omega))) rfl ?_
    first | refine G.conv64B rfl ?_ | refine G.conv64 rfl (by omega) ?_ | refine G.convi rfl ?_
    refine G.mv rfl ?_
    refine G.mv rfl ?_
    first | refine G.addI rfl rfl (by omega) ?_ | refine G.bin rfl rfl rfl ?_
    first | refine G.iaddrN rfl rfl (List.getElem?_eq_getElem (by first | omega | (simp only [List.length_map, List.length_append, List.length_cons, List.length_nil, List.length_replicate, List.length_take, List.length_drop, List.length_set]; omega))) ?_ | refine G.iaddrM rfl rfl (by omega) (List.getElem?_eq_getElem (by first | omega | (simp only [List.length_map, List.length_append, List.length_cons, List.length_nil, List.length_replicate, List.length_take, List.length_drop, List.length_set]; omega))) ?_ | refine G.iaddrF rfl rfl (by omega) rfl ?_ | refine G.iaddrO rfl rfl rfl (by omega) (by first | omega | (simp only [List.length_map, List.length_append, List.length_cons, List.length_nil, List.length_replicate, List.length_take, List.length_drop, List.length_set]; omega)) ?_ | refine G.iaddrF rfl rfl (by omega) (List.getElem?_eq_getElem (by first | omega | (simp only [List.length_map, List.length_append, List.length_cons, List.length_nil, List.length_replicate, List.length_take, List.length_drop, List.length_set]; omega))) ?_
    first | refine G.load1B rfl rfl rfl ?_ | refine G.load1F rfl rfl ?_ | refine G.load1E rfl rfl (List.getElem?_eq_getElem (by first | omega | (simp only [List.length_map, List.length_append, List.length_cons, List.length_nil, List.length_replicate, List.length_take, List.length_drop, List.length_set]; omega))) rfl ?_ | refine G.load1EM rfl rfl (List.getElem?_eq_getElem (by first | omega | (simp only [List.length_map, List.length_append, List.length_cons, List.length_nil, List.length_replicate, List.length_take, List.length_drop, List.length_set]; omega))) rfl ?_
    first | refine G.conv64B rfl ?_ | refine G.conv64 rfl (by omega) ?_ | refine G.convi rfl ?_
    refine G.build rfl ?_
    first | refine G.storeB rfl rfl rfl rfl rfl rfl ?_ | refine G.storeEM rfl rfl rfl (List.getElem?_eq_getElem (by first | omega | (simp only [List.length_map, List.length_append, List.length_cons, List.length_nil, List.length_replicate, List.length_take, List.length_drop, List.length_set]; omega))) rfl rfl rfl rfl rfl ?_
    refine G.mv rfl ?_
    refine WpOpsG.nil ?_
    change WpG _ _ _ _ _
    refine WpG.ret ?_
    refine ⟨_, [], rfl, (hasP_le (by repeat (first | exact trivial | refine ⟨rfl, ?_⟩))), rfl, rfl, rfl, ?_⟩
    have hf : ¬ (pc < 0 ∨ pc.tmod 4 ≠ 0 ∨ pc > p.length - 4) := by omega
    unfold fetch; rw [if_neg hf]
    refine ⟨?_, rfl⟩
    show GV.tup [.agg [_, _, _, _], .v (.bool true)] = _
    rw [getE (d := 0) _ (show pc.toNat = pc.toNat from rfl), getE (d := 0) _ (show (pc + 1).toNat = pc.toNat + 1 by omega), getE (d := 0) _ (show (pc + 2).toNat = pc.toNat + 2 by omega), getE (d := 0) _ (show (pc + 3).toNat = pc.toNat + 3 by omega)]
    rfl
theorem rregs_ok {A : AProg} (hA : A.get 21 = some af21) (op : Int)  : WpCallG A 21 [.v (.int .i64 op)] [] (fun v H => v = .tup [.v (.bool (regs op).1), .v (.bool (regs op).2.1), .v (.bool (regs op).2.2)] ∧ H = []) := by
  refine WpCallG.intro hA rfl rfl ?_
  unfold af21
  change WpG _ _ _ _ _
  refine WpG.seq ?_
  refine WpG.reg ?_
  refine G.mv rfl ?_
  refine G.mv rfl ?_
  refine G.mv rfl ?_
  refine WpOpsG.nil ?_
  change WpG _ _ _ _ _
  refine WpG.seq ?_
  refine WpG.seq ?_
  refine WpG.reg ?_
  refine G.mv rfl ?_
  refine WpOpsG.nil ?_
  change WpG _ _ _ _ _
  refine WpG.block ?_
  refine WpG.seqJ ([(6, .v (.bool (isA op))), (5, .v (.int .i64 op))]) ([]) ⟨rfl, rfl⟩ ?_ ?_
  · change WpG _ _ _ _ _
    refine WpG.seq ?_
    refine WpG.reg ?_
    refine G.bin rfl rfl rfl ?_
    refine G.mv rfl ?_
    refine WpOpsG.nil ?_
    change WpG _ _ _ _ _
    refine WpG.cond rfl (fun hq1 => ?_) (fun hq1 => ?_)
    · (try simp only [decide_eq_true_eq, decide_eq_false_iff_not, Bool.or_eq_true, Bool.and_eq_true, Bool.or_eq_false_iff, Bool.and_eq_false_iff, bne_iff_ne, beq_iff_eq, beq_eq_false_iff_ne, bne_eq_false_iff_eq, ne_eq, Bool.not_eq_true', Bool.not_eq_false', Int.not_lt, Int.not_le, Decidable.not_not, List.length_map, List.length_cons, List.length_nil] at hq1)
      refine WpG.skip ?_
      refine ⟨⟨?_, rfl, trivial⟩, trivial, rfl⟩
      show some (GV.v (.bool _)) = some (GV.v (.bool _))
      (try subst_vars)
      simp [isA, *]
    · (try simp only [decide_eq_true_eq, decide_eq_false_iff_not, Bool.or_eq_true, Bool.and_eq_true, Bool.or_eq_false_iff, Bool.and_eq_false_iff, bne_iff_ne, beq_iff_eq, beq_eq_false_iff_ne, bne_eq_false_iff_eq, ne_eq, Bool.not_eq_true', Bool.not_eq_false', Int.not_lt, Int.not_le, Decidable.not_not, List.length_map, List.length_cons, List.length_nil] at hq1)
      refine WpG.seq ?_
      refine WpG.reg ?_
      refine G.bin rfl rfl rfl ?_
      refine G.mv rfl ?_
      refine WpOpsG.nil ?_
      change WpG _ _ _ _ _
      refine WpG.cond rfl (fun hq2 => ?_) (fun hq2 => ?_)
      · (try simp only [decide_eq_true_eq, decide_eq_false_iff_not, Bool.or_eq_true, Bool.and_eq_true, Bool.or_eq_false_iff, Bool.and_eq_false_iff, bne_iff_ne, beq_iff_eq, beq_eq_false_iff_ne, bne_eq_false_iff_eq, ne_eq, Bool.not_eq_true', Bool.not_eq_false', Int.not_lt, Int.not_le, Decidable.not_not, List.length_map, List.length_cons, List.length_nil] at hq2)
        refine WpG.skip ?_
        refine ⟨⟨?_, rfl, trivial⟩, trivial, rfl⟩
        show some (GV.v (.bool _)) = some (GV.v (.bool _))
        (try subst_vars)
        simp [isA, *]
      · (try simp only [decide_eq_true_eq, decide_eq_false_iff_not, Bool.or_eq_true, Bool.and_eq_true, Bool.or_eq_false_iff, Bool.and_eq_false_iff, bne_iff_ne, beq_iff_eq, beq_eq_false_iff_ne, bne_eq_false_iff_eq, ne_eq, Bool.not_eq_true', Bool.not_eq_false', Int.not_lt, Int.not_le, Decidable.not_not, List.length_map, List.length_cons, List.length_nil] at hq2)
        refine WpG.seq ?_
        refine WpG.reg ?_
        refine G.bin rfl rfl rfl ?_
        refine G.mv rfl ?_
        refine WpOpsG.nil ?_
        change WpG _ _ _ _ _
        refine WpG.cond rfl (fun hq3 => ?_) (fun hq3 => ?_)
        · (try simp only [decide_eq_true_eq, decide_eq_false_iff_not, Bool.or_eq_true, Bool.and_eq_true, Bool.or_eq_false_iff, Bool.and_eq_false_iff, bne_iff_ne, beq_iff_eq, beq_eq_false_iff_ne, bne_eq_false_iff_eq, ne_eq, Bool.not_eq_true', Bool.not_eq_false', Int.not_lt, Int.not_le, Decidable.not_not, List.length_map, List.length_cons, List.length_nil] at hq3)
          refine WpG.skip ?_
          refine ⟨⟨?_, rfl, trivial⟩, trivial, rfl⟩
          show some (GV.v (.bool _)) = some (GV.v (.bool _))
          (try subst_vars)
          simp [isA, *]
        · (try simp only [decide_eq_true_eq, decide_eq_false_iff_not, Bool.or_eq_true, Bool.and_eq_true, Bool.or_eq_false_iff, Bool.and_eq_false_iff, bne_iff_ne, beq_iff_eq, beq_eq_false_iff_ne, bne_eq_false_iff_eq, ne_eq, Bool.not_eq_true', Bool.not_eq_false', Int.not_lt, Int.not_le, Decidable.not_not, List.length_map, List.length_cons, List.length_nil] at hq3)
          refine WpG.seq ?_
          refine WpG.reg ?_
          refine G.bin rfl rfl rfl ?_
          refine G.mv rfl ?_
          refine WpOpsG.nil ?_
          change WpG _ _ _ _ _
          refine WpG.cond rfl (fun hq4 => ?_) (fun hq4 => ?_)
          · (try simp only [decide_eq_true_eq, decide_eq_false_iff_not, Bool.or_eq_true, Bool.and_eq_true, Bool.or_eq_false_iff, Bool.and_eq_false_iff, bne_iff_ne, beq_iff_eq, beq_eq_false_iff_ne, bne_eq_false_iff_eq, ne_eq, Bool.not_eq_true', Bool.not_eq_false', Int.not_lt, Int.not_le, Decidable.not_not, List.length_map, List.length_cons, List.length_nil] at hq4)
            refine WpG.skip ?_
            refine ⟨⟨?_, rfl, trivial⟩, trivial, rfl⟩
            show some (GV.v (.bool _)) = some (GV.v (.bool _))
            (try subst_vars)
            simp [isA, *]
          · (try simp only [decide_eq_true_eq, decide_eq_false_iff_not, Bool.or_eq_true, Bool.and_eq_true, Bool.or_eq_false_iff, Bool.and_eq_false_iff, bne_iff_ne, beq_iff_eq, beq_eq_false_iff_ne, bne_eq_false_iff_eq, ne_eq, Bool.not_eq_true', Bool.not_eq_false', Int.not_lt, Int.not_le, Decidable.not_not, List.length_map, List.length_cons, List.length_nil] at hq4)
            refine WpG.seq ?_
            refine WpG.reg ?_
            refine G.bin rfl rfl rfl ?_
            refine G.mv rfl ?_
            refine WpOpsG.nil ?_
            change WpG _ _ _ _ _
            refine WpG.cond rfl (fun hq5 => ?_) (fun hq5 => ?_)
            · (try simp only [decide_eq_true_eq, decide_eq_false_iff_not, Bool.or_eq_true, Bool.and_eq_true, Bool.or_eq_false_iff, Bool.and_eq_false_iff, bne_iff_ne, beq_iff_eq, beq_eq_false_iff_ne, bne_eq_false_iff_eq, ne_eq, Bool.not_eq_true', Bool.not_eq_false', Int.not_lt, Int.not_le, Decidable.not_not, List.length_map, List.length_cons, List.length_nil] at hq5)
              refine WpG.skip ?_
              refine ⟨⟨?_, rfl, trivial⟩, trivial, rfl⟩
              show some (GV.v (.bool _)) = some (GV.v (.bool _))
              (try subst_vars)
              simp [isA, *]
            · (try simp only [decide_eq_true_eq, decide_eq_false_iff_not, Bool.or_eq_true, Bool.and_eq_true, Bool.or_eq_false_iff, Bool.and_eq_false_iff, bne_iff_ne, beq_iff_eq, beq_eq_false_iff_ne, bne_eq_false_iff_eq, ne_eq, Bool.not_eq_true', Bool.not_eq_false', Int.not_lt, Int.not_le, Decidable.not_not, List.length_map, List.length_cons, List.length_nil] at hq5)
              refine WpG.reg ?_
              refine G.bin rfl rfl rfl ?_
              refine G.mv rfl ?_
              refine WpOpsG.nil ?_
              refine ⟨⟨?_, rfl, trivial⟩, trivial, rfl⟩
              show some (GV.v (.bool _)) = some (GV.v (.bool _))
              (try subst_vars)
              simp [isA, *]
  change WpG _ _ _ _ _
  refine WpG.cond rfl (fun hq6 => ?_) (fun hq6 => ?_)
  · (try simp only [decide_eq_true_eq, decide_eq_false_iff_not, Bool.or_eq_true, Bool.and_eq_true, Bool.or_eq_false_iff, Bool.and_eq_false_iff, bne_iff_ne, beq_iff_eq, beq_eq_false_iff_ne, bne_eq_false_iff_eq, ne_eq, Bool.not_eq_true', Bool.not_eq_false', Int.not_lt, Int.not_le, Decidable.not_not, List.length_map, List.length_cons, List.length_nil] at hq6)
    refine WpG.seq ?_
    refine WpG.reg ?_
    refine G.mv rfl ?_
    refine G.mv rfl ?_
    refine G.mv rfl ?_
    refine WpOpsG.nil ?_
    change WpG _ _ _ _ _
    refine WpG.ret ?_
    refine ⟨_, [], rfl, (hasP_le (by repeat (first | exact trivial | refine ⟨rfl, ?_⟩))), rfl, rfl, rfl, ?_⟩
    refine ⟨?_, rfl⟩
    unfold regs
    simp [*]
    rfl
  · (try simp only [decide_eq_true_eq, decide_eq_false_iff_not, Bool.or_eq_true, Bool.and_eq_true, Bool.or_eq_false_iff, Bool.and_eq_false_iff, bne_iff_ne, beq_iff_eq, beq_eq_false_iff_ne, bne_eq_false_iff_eq, ne_eq, Bool.not_eq_true', Bool.not_eq_false', Int.not_lt, Int.not_le, Decidable.not_not, List.length_map, List.length_cons, List.length_nil] at hq6)
    refine WpG.seqJ ([(13, .v (.bool (isB op))), (5, .v (.int .i64 op))]) ([]) ⟨rfl, rfl⟩ ?_ ?_
    · change WpG _ _ _ _ _
      refine WpG.seq ?_
      refine WpG.reg ?_
      refine G.bin rfl rfl rfl ?_
      refine G.mv rfl ?_
      refine WpOpsG.nil ?_
      change WpG _ _ _ _ _
      refine WpG.cond rfl (fun hq7 => ?_) (fun hq7 => ?_)
      · (try simp only [decide_eq_true_eq, decide_eq_false_iff_not, Bool.or_eq_true, Bool.and_eq_true, Bool.or_eq_false_iff, Bool.and_eq_false_iff, bne_iff_ne, beq_iff_eq, beq_eq_false_iff_ne, bne_eq_false_iff_eq, ne_eq, Bool.not_eq_true', Bool.not_eq_false', Int.not_lt, Int.not_le, Decidable.not_not, List.length_map, List.length_cons, List.length_nil] at hq7)
        refine WpG.skip ?_
        refine ⟨⟨?_, rfl, trivial⟩, trivial, rfl⟩
        show some (GV.v (.bool _)) = some (GV.v (.bool _))
        (try subst_vars)
        simp [isB, *]
      · (try simp only [decide_eq_true_eq, decide_eq_false_iff_not, Bool.or_eq_true, Bool.and_eq_true, Bool.or_eq_false_iff, Bool.and_eq_false_iff, bne_iff_ne, beq_iff_eq, beq_eq_false_iff_ne, bne_eq_false_iff_eq, ne_eq, Bool.not_eq_true', Bool.not_eq_false', Int.not_lt, Int.not_le, Decidable.not_not, List.length_map, List.length_cons, List.length_nil] at hq7)
        refine WpG.seq ?_
        refine WpG.reg ?_
        refine G.bin rfl rfl rfl ?_
        refine G.mv rfl ?_
        refine WpOpsG.nil ?_
        change WpG _ _ _ _ _
        refine WpG.cond rfl (fun hq8 => ?_) (fun hq8 => ?_)
        · (try simp only [decide_eq_true_eq, decide_eq_false_iff_not, Bool.or_eq_true, Bool.and_eq_true, Bool.or_eq_false_iff, Bool.and_eq_false_iff, bne_iff_ne, beq_iff_eq, beq_eq_false_iff_ne, bne_eq_false_iff_eq, ne_eq, Bool.not_eq_true', Bool.not_eq_false', Int.not_lt, Int.not_le, Decidable.not_not, List.length_map, List.length_cons, List.length_nil] at hq8)
          refine WpG.skip ?_
          refine ⟨⟨?_, rfl, trivial⟩, trivial, rfl⟩
          show some (GV.v (.bool _)) = some (GV.v (.bool _))
          (try subst_vars)
          simp [isB, *]
        · (try simp only [decide_eq_true_eq, decide_eq_false_iff_not, Bool.or_eq_true, Bool.and_eq_true, Bool.or_eq_false_iff, Bool.and_eq_false_iff, bne_iff_ne, beq_iff_eq, beq_eq_false_iff_ne, bne_eq_false_iff_eq, ne_eq, Bool.not_eq_true', Bool.not_eq_false', Int.not_lt, Int.not_le, Decidable.not_not, List.length_map, List.length_cons, List.length_nil] at hq8)
          refine WpG.seq ?_
          refine WpG.reg ?_
          refine G.bin rfl rfl rfl ?_
          refine G.mv rfl ?_
          refine WpOpsG.nil ?_
          change WpG _ _ _ _ _
          refine WpG.cond rfl (fun hq9 => ?_) (fun hq9 => ?_)
          · (try simp only [decide_eq_true_eq, decide_eq_false_iff_not, Bool.or_eq_true, Bool.and_eq_true, Bool.or_eq_false_iff, Bool.and_eq_false_iff, bne_iff_ne, beq_iff_eq, beq_eq_false_iff_ne, bne_eq_false_iff_eq, ne_eq, Bool.not_eq_true', Bool.not_eq_false', Int.not_lt, Int.not_le, Decidable.not_not, List.length_map, List.length_cons, List.length_nil] at hq9)
            refine WpG.skip ?_
            refine ⟨⟨?_, rfl, trivial⟩, trivial, rfl⟩
            show some (GV.v (.bool _)) = some (GV.v (.bool _))
            (try subst_vars)
            simp [isB, *]
          · (try simp only [decide_eq_true_eq, decide_eq_false_iff_not, Bool.or_eq_true, Bool.and_eq_true, Bool.or_eq_false_iff, Bool.and_eq_false_iff, bne_iff_ne, beq_iff_eq, beq_eq_false_iff_ne, bne_eq_false_iff_eq, ne_eq, Bool.not_eq_true', Bool.not_eq_false', Int.not_lt, Int.not_le, Decidable.not_not, List.length_map, List.length_cons, List.length_nil] at hq9)
            refine WpG.reg ?_
            refine G.bin rfl rfl rfl ?_
            refine G.mv rfl ?_
            refine WpOpsG.nil ?_
            refine ⟨⟨?_, rfl, trivial⟩, trivial, rfl⟩
            show some (GV.v (.bool _)) = some (GV.v (.bool _))
            (try subst_vars)
            simp [isB, *]
    change WpG _ _ _ _ _
    refine WpG.cond rfl (fun hq10 => ?_) (fun hq10 => ?_)
    · (try simp only [decide_eq_true_eq, decide_eq_false_iff_not, Bool.or_eq_true, Bool.and_eq_true, Bool.or_eq_false_iff, Bool.and_eq_false_iff, bne_iff_ne, beq_iff_eq, beq_eq_false_iff_ne, bne_eq_false_iff_eq, ne_eq, Bool.not_eq_true', Bool.not_eq_false', Int.not_lt, Int.not_le, Decidable.not_not, List.length_map, List.length_cons, List.length_nil] at hq10)
      refine WpG.seq ?_
      refine WpG.reg ?_
      refine G.mv rfl ?_
      refine G.mv rfl ?_
      refine G.mv rfl ?_
      refine WpOpsG.nil ?_
      change WpG _ _ _ _ _
      refine WpG.ret ?_
      refine ⟨_, [], rfl, (hasP_le (by repeat (first | exact trivial | refine ⟨rfl, ?_⟩))), rfl, rfl, rfl, ?_⟩
      refine ⟨?_, rfl⟩
      unfold regs
      simp [*]
      rfl
    · (try simp only [decide_eq_true_eq, decide_eq_false_iff_not, Bool.or_eq_true, Bool.and_eq_true, Bool.or_eq_false_iff, Bool.and_eq_false_iff, bne_iff_ne, beq_iff_eq, beq_eq_false_iff_ne, bne_eq_false_iff_eq, ne_eq, Bool.not_eq_true', Bool.not_eq_false', Int.not_lt, Int.not_le, Decidable.not_not, List.length_map, List.length_cons, List.length_nil] at hq10)
      refine WpG.seqJ ([(18, .v (.bool (isC op))), (5, .v (.int .i64 op))]) ([]) ⟨rfl, rfl⟩ ?_ ?_
      · change WpG _ _ _ _ _
        refine WpG.seq ?_
        refine WpG.reg ?_
        refine G.bin rfl rfl rfl ?_
        refine G.mv rfl ?_
        refine WpOpsG.nil ?_
        change WpG _ _ _ _ _
        refine WpG.cond rfl (fun hq11 => ?_) (fun hq11 => ?_)
        · (try simp only [decide_eq_true_eq, decide_eq_false_iff_not, Bool.or_eq_true, Bool.and_eq_true, Bool.or_eq_false_iff, Bool.and_eq_false_iff, bne_iff_ne, beq_iff_eq, beq_eq_false_iff_ne, bne_eq_false_iff_eq, ne_eq, Bool.not_eq_true', Bool.not_eq_false', Int.not_lt, Int.not_le, Decidable.not_not, List.length_map, List.length_cons, List.length_nil] at hq11)
          refine WpG.skip ?_
          refine ⟨⟨?_, rfl, trivial⟩, trivial, rfl⟩
          show some (GV.v (.bool _)) = some (GV.v (.bool _))
          (try subst_vars)
          simp [isC, *]
        · (try simp only [decide_eq_true_eq, decide_eq_false_iff_not, Bool.or_eq_true, Bool.and_eq_true, Bool.or_eq_false_iff, Bool.and_eq_false_iff, bne_iff_ne, beq_iff_eq, beq_eq_false_iff_ne, bne_eq_false_iff_eq, ne_eq, Bool.not_eq_true', Bool.not_eq_false', Int.not_lt, Int.not_le, Decidable.not_not, List.length_map, List.length_cons, List.length_nil] at hq11)
          refine WpG.reg ?_
          refine G.bin rfl rfl rfl ?_
          refine G.mv rfl ?_
          refine WpOpsG.nil ?_
          refine ⟨⟨?_, rfl, trivial⟩, trivial, rfl⟩
          show some (GV.v (.bool _)) = some (GV.v (.bool _))
          (try subst_vars)
          simp [isC, *]
      change WpG _ _ _ _ _
      refine WpG.cond rfl (fun hq12 => ?_) (fun hq12 => ?_)
      · (try simp only [decide_eq_true_eq, decide_eq_false_iff_not, Bool.or_eq_true, Bool.and_eq_true, Bool.or_eq_false_iff, Bool.and_eq_false_iff, bne_iff_ne, beq_iff_eq, beq_eq_false_iff_ne, bne_eq_false_iff_eq, ne_eq, Bool.not_eq_true', Bool.not_eq_false', Int.not_lt, Int.not_le, Decidable.not_not, List.length_map, List.length_cons, List.length_nil] at hq12)
        refine WpG.seq ?_
        refine WpG.reg ?_
        refine G.mv rfl ?_
        refine G.mv rfl ?_
        refine G.mv rfl ?_
        refine WpOpsG.nil ?_
        change WpG _ _ _ _ _
        refine WpG.ret ?_
        refine ⟨_, [], rfl, (hasP_le (by repeat (first | exact trivial | refine ⟨rfl, ?_⟩))), rfl, rfl, rfl, ?_⟩
        refine ⟨?_, rfl⟩
        unfold regs
        simp [*]
        rfl
      · (try simp only [decide_eq_true_eq, decide_eq_false_iff_not, Bool.or_eq_true, Bool.and_eq_true, Bool.or_eq_false_iff, Bool.and_eq_false_iff, bne_iff_ne, beq_iff_eq, beq_eq_false_iff_ne, bne_eq_false_iff_eq, ne_eq, Bool.not_eq_true', Bool.not_eq_false', Int.not_lt, Int.not_le, Decidable.not_not, List.length_map, List.length_cons, List.length_nil] at hq12)
        refine WpG.seqJ ([(21, .v (.bool (isD op))), (5, .v (.int .i64 op))]) ([]) ⟨rfl, rfl⟩ ?_ ?_
        · change WpG _ _ _ _ _
          refine WpG.seq ?_
          refine WpG.reg ?_
          refine G.bin rfl rfl rfl ?_
          refine G.mv rfl ?_
          refine WpOpsG.nil ?_
          change WpG _ _ _ _ _
          refine WpG.cond rfl (fun hq13 => ?_) (fun hq13 => ?_)
          · (try simp only [decide_eq_true_eq, decide_eq_false_iff_not, Bool.or_eq_true, Bool.and_eq_true, Bool.or_eq_false_iff, Bool.and_eq_false_iff, bne_iff_ne, beq_iff_eq, beq_eq_false_iff_ne, bne_eq_false_iff_eq, ne_eq, Bool.not_eq_true', Bool.not_eq_false', Int.not_lt, Int.not_le, Decidable.not_not, List.length_map, List.length_cons, List.length_nil] at hq13)
            refine WpG.skip ?_
            refine ⟨⟨?_, rfl, trivial⟩, trivial, rfl⟩
            show some (GV.v (.bool _)) = some (GV.v (.bool _))
            (try subst_vars)
            simp [isD, *]
          · (try simp only [decide_eq_true_eq, decide_eq_false_iff_not, Bool.or_eq_true, Bool.and_eq_true, Bool.or_eq_false_iff, Bool.and_eq_false_iff, bne_iff_ne, beq_iff_eq, beq_eq_false_iff_ne, bne_eq_false_iff_eq, ne_eq, Bool.not_eq_true', Bool.not_eq_false', Int.not_lt, Int.not_le, Decidable.not_not, List.length_map, List.length_cons, List.length_nil] at hq13)
            refine WpG.reg ?_
            refine G.bin rfl rfl rfl ?_
            refine G.mv rfl ?_
            refine WpOpsG.nil ?_
            refine ⟨⟨?_, rfl, trivial⟩, trivial, rfl⟩
            show some (GV.v (.bool _)) = some (GV.v (.bool _))
            (try subst_vars)
            simp [isD, *]
        change WpG _ _ _ _ _
        refine WpG.cond rfl (fun hq14 => ?_) (fun hq14 => ?_)
        · (try simp only [decide_eq_true_eq, decide_eq_false_iff_not, Bool.or_eq_true, Bool.and_eq_true, Bool.or_eq_false_iff, Bool.and_eq_false_iff, bne_iff_ne, beq_iff_eq, beq_eq_false_iff_ne, bne_eq_false_iff_eq, ne_eq, Bool.not_eq_true', Bool.not_eq_false', Int.not_lt, Int.not_le, Decidable.not_not, List.length_map, List.length_cons, List.length_nil] at hq14)
          refine WpG.seq ?_
          refine WpG.reg ?_
          refine G.mv rfl ?_
          refine G.mv rfl ?_
          refine G.mv rfl ?_
          refine WpOpsG.nil ?_
          change WpG _ _ _ _ _
          refine WpG.ret ?_
          refine ⟨_, [], rfl, (hasP_le (by repeat (first | exact trivial | refine ⟨rfl, ?_⟩))), rfl, rfl, rfl, ?_⟩
          refine ⟨?_, rfl⟩
          unfold regs
          simp [*]
          rfl
        · (try simp only [decide_eq_true_eq, decide_eq_false_iff_not, Bool.or_eq_true, Bool.and_eq_true, Bool.or_eq_false_iff, Bool.and_eq_false_iff, bne_iff_ne, beq_iff_eq, beq_eq_false_iff_ne, bne_eq_false_iff_eq, ne_eq, Bool.not_eq_true', Bool.not_eq_false', Int.not_lt, Int.not_le, Decidable.not_not, List.length_map, List.length_cons, List.length_nil] at hq14)
          refine WpG.skip ?_
          change WpG _ _ _ _ _
          refine WpG.seq ?_
          refine WpG.reg ?_
          refine G.mv rfl ?_
          refine G.mv rfl ?_
          refine G.mv rfl ?_
          refine WpOpsG.nil ?_
          change WpG _ _ _ _ _
          refine WpG.ret ?_
          refine ⟨_, [], rfl, (hasP_le (by repeat (first | exact trivial | refine ⟨rfl, ?_⟩))), rfl, rfl, rfl, ?_⟩
          refine ⟨?_, rfl⟩
          unfold regs
          simp [*]
          rfl
theorem names_ok {A : AProg} (hA : A.get 16 = some af16)  : WpCallG A 16 [] [] (fun v H => v = .fsl 1 (namesL.map encS) ∧ H = []) := by
  refine WpCallG.intro hA rfl rfl ?_
  unfold af16
  change WpG _ _ _ _ _
  refine WpG.seq ?_
  refine WpG.reg ?_
  refine G.mv rfl ?_
  refine WpOpsG.nil ?_
  change WpG _ _ _ _ _
  refine WpG.seq ?_
  refine WpG.reg ?_
  refine G.bsliceF rfl rfl rfl ?_
  refine G.mv rfl ?_
  refine WpOpsG.nil ?_
  change WpG _ _ _ _ _
  refine WpG.ret ?_
  refine ⟨_, [], rfl, (hasP_le (by repeat (first | exact trivial | refine ⟨rfl, ?_⟩))), rfl, rfl, rfl, ?_⟩
  exact ⟨rfl, rfl⟩
theorem rimm_ok {A : AProg} (hA : A.get 17 = some af17) (x : Ins)  : WpCallG A 17 [.agg (encI x)] [] (fun v H => v = .v (.int .u32 (IntKind.u32.wrap (IntKind.i64.wrap (IntKind.i64.wrap (256 * x.b) + x.c)))) ∧ H = []) := by
  refine WpCallG.intro hA rfl rfl ?_
  unfold af17
  change WpG _ _ _ _ _
  refine WpG.seq ?_
  refine WpG.reg ?_
  refine G.box (g := 10) rfl rfl rfl ?_
  refine G.mv rfl ?_
  refine WpOpsG.nil ?_
  change WpG _ _ _ _ _
  refine WpG.seq ?_
  refine WpG.reg ?_
  first | refine G.faddrB rfl ?_ | refine G.faddrF rfl ?_ | refine G.faddrE rfl ?_
  first | refine G.load1B rfl rfl rfl ?_ | refine G.load1F rfl rfl ?_ | refine G.load1E rfl rfl (List.getElem?_eq_getElem (by first | omega | (simp only [List.length_map, List.length_append, List.length_cons, List.length_nil, List.length_replicate, List.length_take, List.length_drop, List.length_set]; omega))) rfl ?_ | refine G.load1EM rfl rfl (List.getElem?_eq_getElem (by first | omega | (simp only [List.length_map, List.length_append, List.length_cons, List.length_nil, List.length_replicate, List.length_take, List.length_drop, List.length_set]; omega))) rfl ?_
  refine G.bin rfl rfl rfl ?_
  first | refine G.faddrB rfl ?_ | refine G.faddrF rfl ?_ | refine G.faddrE rfl ?_
  first | refine G.load1B rfl rfl rfl ?_ | refine G.load1F rfl rfl ?_ | refine G.load1E rfl rfl (List.getElem?_eq_getElem (by first | omega | (simp only [List.length_map, List.length_append, List.length_cons, List.length_nil, List.length_replicate, List.length_take, List.length_drop, List.length_set]; omega))) rfl ?_ | refine G.load1EM rfl rfl (List.getElem?_eq_getElem (by first | omega | (simp only [List.length_map, List.length_append, List.length_cons, List.length_nil, List.length_replicate, List.length_take, List.length_drop, List.length_set]; omega))) rfl ?_
  refine G.bin rfl rfl rfl ?_
  refine G.convi rfl ?_
  refine G.mv rfl ?_
  refine WpOpsG.nil ?_
  change WpG _ _ _ _ _
  refine WpG.ret ?_
  refine ⟨_, [], rfl, (hasP_le (by repeat (first | exact trivial | refine ⟨rfl, ?_⟩))), rfl, rfl, rfl, ?_⟩
  exact ⟨rfl, rfl⟩
def byt (n : Int) : Prop := 0 ≤ n ∧ n ≤ 255
def L3 (x : Ins) : List Int := [x.a, x.b, x.c]
def encN (n : Int) : List GV := [.v (.int .i64 n)]
theorem and31 (n : Int) : andI .i64 n 31 = n % 32 := by
  unfold andI
  show IntKind.i64.wrap (BitVec.ofInt 64 n &&& BitVec.ofInt 64 31).toNat = _
  have h1 : (BitVec.ofInt 64 n &&& BitVec.ofInt 64 31).toNat = (n % 32).toNat := by
    rw [BitVec.toNat_and, BitVec.toNat_ofInt, BitVec.toNat_ofInt]
    have e : ((31 : Int) % ((2 ^ 64 : Nat) : Int)).toNat = 2 ^ 5 - 1 := by decide
    rw [e, Nat.and_two_pow_sub_one_eq_mod]
    have h2 : (n % ((2 ^ 64 : Nat) : Int)).toNat % 2 ^ 5 = (n % 32).toNat := by
      have h3 : (n % ((2 ^ 64 : Nat) : Int)) % 32 = n % 32 := by omega
      omega
    exact h2
  rw [h1, IntKind.wrap_i64]
  omega
theorem and7 (n : Int) : andI .i64 n 7 = n % 8 := by
  unfold andI
  show IntKind.i64.wrap (BitVec.ofInt 64 n &&& BitVec.ofInt 64 7).toNat = _
  have h1 : (BitVec.ofInt 64 n &&& BitVec.ofInt 64 7).toNat = (n % 8).toNat := by
    rw [BitVec.toNat_and, BitVec.toNat_ofInt, BitVec.toNat_ofInt]
    have e : ((7 : Int) % ((2 ^ 64 : Nat) : Int)).toNat = 2 ^ 3 - 1 := by decide
    rw [e, Nat.and_two_pow_sub_one_eq_mod]
    have h2 : (n % ((2 ^ 64 : Nat) : Int)).toNat % 2 ^ 3 = (n % 8).toNat := by
      have h3 : (n % ((2 ^ 64 : Nat) : Int)) % 8 = n % 8 := by omega
      omega
    exact h2
  rw [h1, IntKind.wrap_i64]
  omega
theorem right_byt (x : Ins) (h : right x = true) : byt x.a ∧ byt x.b ∧ byt x.c := by
  unfold right field at h
  simp only [Bool.and_eq_true, decide_eq_true_eq] at h
  unfold byt
  omega
theorem right_no (x : Ins) (i : Nat) (hi : i < 3) (hb : ¬ byt ((L3 x).getD i 0)) : right x = false := by
  cases hr : right x with
  | false => rfl
  | true =>
    exfalso
    obtain ⟨h1, h2, h3⟩ := right_byt x hr
    match i, hi, hb with
    | 0, _, hb => exact hb h1
    | 1, _, hb => exact hb h2
    | 2, _, hb => exact hb h3
theorem imm_eq (x : Ins) (h : right x = true) : IntKind.u32.wrap (IntKind.u32.wrap (IntKind.u32.wrap x.b * 256) + IntKind.u32.wrap x.c) = IntKind.u32.wrap (IntKind.i64.wrap (IntKind.i64.wrap (256 * x.b) + x.c)) := by
  obtain ⟨h1, h2, h3⟩ := right_byt x h
  unfold byt at h2 h3
  simp only [wrap_u32, IntKind.wrap_i64]
  omega
theorem b8_wrap (n : Int) : ((b8 n).toNat : Int) = IntKind.u8.wrap n := by rw [b8_val, wrap_u8]

theorem rright_ok {A : AProg} (hA : A.get 18 = some af18) (h21 : A.get 21 = some af21) (x : Ins)  : WpCallG A 18 [.agg (encI x)] [] (fun v H => v = .v (.bool (right x)) ∧ H = []) := by
  refine WpCallG.intro hA rfl rfl ?_
  unfold af18
  change WpG _ _ _ _ _
  refine WpG.seq ?_
  refine WpG.reg ?_
  refine G.box (g := 10) rfl rfl rfl ?_
  refine G.mv rfl ?_
  refine WpOpsG.nil ?_
  change WpG _ _ _ _ _
  refine WpG.seq ?_
  refine WpG.seq ?_
  refine WpG.reg ?_
  first | refine G.faddrB rfl ?_ | refine G.faddrF rfl ?_ | refine G.faddrE rfl ?_
  first | refine G.load1B rfl rfl rfl ?_ | refine G.load1F rfl rfl ?_ | refine G.load1E rfl rfl (List.getElem?_eq_getElem (by first | omega | (simp only [List.length_map, List.length_append, List.length_cons, List.length_nil, List.length_replicate, List.length_take, List.length_drop, List.length_set]; omega))) rfl ?_ | refine G.load1EM rfl rfl (List.getElem?_eq_getElem (by first | omega | (simp only [List.length_map, List.length_append, List.length_cons, List.length_nil, List.length_replicate, List.length_take, List.length_drop, List.length_set]; omega))) rfl ?_
  first | refine G.faddrB rfl ?_ | refine G.faddrF rfl ?_ | refine G.faddrE rfl ?_
  first | refine G.load1B rfl rfl rfl ?_ | refine G.load1F rfl rfl ?_ | refine G.load1E rfl rfl (List.getElem?_eq_getElem (by first | omega | (simp only [List.length_map, List.length_append, List.length_cons, List.length_nil, List.length_replicate, List.length_take, List.length_drop, List.length_set]; omega))) rfl ?_ | refine G.load1EM rfl rfl (List.getElem?_eq_getElem (by first | omega | (simp only [List.length_map, List.length_append, List.length_cons, List.length_nil, List.length_replicate, List.length_take, List.length_drop, List.length_set]; omega))) rfl ?_
  first | refine G.faddrB rfl ?_ | refine G.faddrF rfl ?_ | refine G.faddrE rfl ?_
  first | refine G.load1B rfl rfl rfl ?_ | refine G.load1F rfl rfl ?_ | refine G.load1E rfl rfl (List.getElem?_eq_getElem (by first | omega | (simp only [List.length_map, List.length_append, List.length_cons, List.length_nil, List.length_replicate, List.length_take, List.length_drop, List.length_set]; omega))) rfl ?_ | refine G.load1EM rfl rfl (List.getElem?_eq_getElem (by first | omega | (simp only [List.length_map, List.length_append, List.length_cons, List.length_nil, List.length_replicate, List.length_take, List.length_drop, List.length_set]; omega))) rfl ?_
  refine G.bsliceF rfl rfl rfl ?_
  first | refine G.lenM rfl ?_ | refine G.lenOM rfl rfl ?_ | refine G.lenF rfl ?_ | refine G.lenO rfl rfl ?_ | refine G.lenNil rfl ?_
  refine G.mv rfl ?_
  refine WpOpsG.nil ?_
  change WpG _ _ _ _ _
  refine WpG.block ?_
  refine WpG.loop (S := Nat) (fun i => [(1, .bptr 10 0), (2, .v (.bool false)), (14, .fsl 1 ((L3 x).map encN)), (15, .v (.int .i64 3)), (16, .v (.int .i64 i))]) (fun _ => [(10, .box (encI x))]) (fun i => i ≤ 3 ∧ ∀ j : Nat, j < i → byt ((L3 x).getD j 0)) (fun i => 3 - i) (fun s => ⟨rfl, rfl⟩) ?_ 0 ?_ (by repeat (first | exact trivial | refine ⟨rfl, ?_⟩)) (by repeat (first | exact trivial | refine ⟨rfl, ?_⟩)) rfl
  · rintro i ⟨hI, hJ⟩
    have h3 : (L3 x).length = 3 := rfl
    refine WpG.seq ?_
    refine WpG.reg ?_
    refine G.bin rfl rfl rfl ?_
    refine WpOpsG.nil ?_
    change WpG _ _ _ _ _
    refine WpG.seq ?_
    refine WpG.cond rfl (fun hq1 => ?_) (fun hq1 => ?_)
    · (try simp only [decide_eq_true_eq, decide_eq_false_iff_not, Bool.or_eq_true, Bool.and_eq_true, Bool.or_eq_false_iff, Bool.and_eq_false_iff, bne_iff_ne, beq_iff_eq, beq_eq_false_iff_ne, bne_eq_false_iff_eq, ne_eq, Bool.not_eq_true', Bool.not_eq_false', Int.not_lt, Int.not_le, Decidable.not_not, List.length_map, List.length_cons, List.length_nil] at hq1)
      refine WpG.skip ?_
      change WpG _ _ _ _ _
      refine WpG.seq ?_
      refine WpG.block ?_
      refine WpG.seq ?_
      refine WpG.reg ?_
      first | refine G.iaddrN rfl rfl (List.getElem?_eq_getElem (by first | omega | (simp only [List.length_map, List.length_append, List.length_cons, List.length_nil, List.length_replicate, List.length_take, List.length_drop, List.length_set]; omega))) ?_ | refine G.iaddrM rfl rfl (by omega) (List.getElem?_eq_getElem (by first | omega | (simp only [List.length_map, List.length_append, List.length_cons, List.length_nil, List.length_replicate, List.length_take, List.length_drop, List.length_set]; omega))) ?_ | refine G.iaddrF rfl rfl (by omega) rfl ?_ | refine G.iaddrO rfl rfl rfl (by omega) (by first | omega | (simp only [List.length_map, List.length_append, List.length_cons, List.length_nil, List.length_replicate, List.length_take, List.length_drop, List.length_set]; omega)) ?_ | refine G.iaddrF rfl rfl (by omega) (List.getElem?_eq_getElem (by first | omega | (simp only [List.length_map, List.length_append, List.length_cons, List.length_nil, List.length_replicate, List.length_take, List.length_drop, List.length_set]; omega))) ?_
      first | refine G.load1B rfl rfl rfl ?_ | refine G.load1F rfl rfl ?_ | refine G.load1E rfl rfl (List.getElem?_eq_getElem (by first | omega | (simp only [List.length_map, List.length_append, List.length_cons, List.length_nil, List.length_replicate, List.length_take, List.length_drop, List.length_set]; omega))) rfl ?_ | refine G.load1EM rfl rfl (List.getElem?_eq_getElem (by first | omega | (simp only [List.length_map, List.length_append, List.length_cons, List.length_nil, List.length_replicate, List.length_take, List.length_drop, List.length_set]; omega))) rfl ?_
      refine G.mv rfl ?_
      refine WpOpsG.nil ?_
      change WpG _ _ _ _ _
      refine WpG.seq ?_
      refine WpG.reg ?_
      refine G.mv rfl ?_
      refine G.bin rfl rfl rfl ?_
      refine G.mv rfl ?_
      apply G.orS rfl rfl rfl rfl rfl rfl
      case hB =>
        intro hs2
        (try simp only [decide_eq_true_eq, decide_eq_false_iff_not, Bool.or_eq_true, Bool.and_eq_true, Bool.or_eq_false_iff, Bool.and_eq_false_iff, bne_iff_ne, beq_iff_eq, beq_eq_false_iff_ne, bne_eq_false_iff_eq, ne_eq, Bool.not_eq_true', Bool.not_eq_false', Int.not_lt, Int.not_le, Decidable.not_not, List.length_map, List.length_cons, List.length_nil] at hs2)
        refine G.mv rfl ?_
        refine G.bin rfl rfl rfl ?_
        refine WpOpsG.nil ?_
        exact ⟨rfl, (by repeat (first | exact LLe.refl _ | refine LLe.cons rfl ?_)), (by repeat (first | exact HLe.refl _ | refine HLe.cons rfl ?_)), rfl⟩
      refine WpOpsG.nil ?_
      change WpG _ _ _ _ _
      refine WpG.cond rfl (fun hq3 => ?_) (fun hq3 => ?_)
      · (try simp only [decide_eq_true_eq, decide_eq_false_iff_not, Bool.or_eq_true, Bool.and_eq_true, Bool.or_eq_false_iff, Bool.and_eq_false_iff, bne_iff_ne, beq_iff_eq, beq_eq_false_iff_ne, bne_eq_false_iff_eq, ne_eq, Bool.not_eq_true', Bool.not_eq_false', Int.not_lt, Int.not_le, Decidable.not_not, List.length_map, List.length_cons, List.length_nil] at hq3)
        refine WpG.seq ?_
        refine WpG.reg ?_
        refine G.mv rfl ?_
        refine WpOpsG.nil ?_
        change WpG _ _ _ _ _
        refine WpG.ret ?_
        refine ⟨_, [], rfl, (hasP_le (by repeat (first | exact trivial | refine ⟨rfl, ?_⟩))), rfl, rfl, rfl, ?_⟩
        have hg : (L3 x).getD i 0 = (L3 x)[i]'(by rw [h3]; omega) := by rw [List.getD_eq_getElem?_getD, List.getElem?_eq_getElem (by rw [h3]; omega)]; rfl
        rw [right_no x i (by omega) (by rw [hg]; unfold byt; omega)]
        exact ⟨rfl, rfl⟩
      · (try simp only [decide_eq_true_eq, decide_eq_false_iff_not, Bool.or_eq_true, Bool.and_eq_true, Bool.or_eq_false_iff, Bool.and_eq_false_iff, bne_iff_ne, beq_iff_eq, beq_eq_false_iff_ne, bne_eq_false_iff_eq, ne_eq, Bool.not_eq_true', Bool.not_eq_false', Int.not_lt, Int.not_le, Decidable.not_not, List.length_map, List.length_cons, List.length_nil] at hq3)
        refine WpG.skip ?_
        change WpG _ _ _ _ _
        refine WpG.reg ?_
        first | refine G.addI rfl rfl (by omega) ?_ | refine G.bin rfl rfl rfl ?_
        refine G.mv rfl ?_
        refine WpOpsG.nil ?_
        have hg : (L3 x).getD i 0 = (L3 x)[i]'(by rw [h3]; omega) := by rw [List.getD_eq_getElem?_getD, List.getElem?_eq_getElem (by rw [h3]; omega)]; rfl
        refine ⟨i + 1, by omega, ⟨by omega, fun j hj => ?_⟩, ⟨rfl, rfl, rfl, rfl, rfl, trivial⟩, ⟨rfl, trivial⟩, rfl⟩
        by_cases c : j = i
        · subst c; rw [hg]; unfold byt; omega
        · exact hJ j (by omega)
    · (try simp only [decide_eq_true_eq, decide_eq_false_iff_not, Bool.or_eq_true, Bool.and_eq_true, Bool.or_eq_false_iff, Bool.and_eq_false_iff, bne_iff_ne, beq_iff_eq, beq_eq_false_iff_ne, bne_eq_false_iff_eq, ne_eq, Bool.not_eq_true', Bool.not_eq_false', Int.not_lt, Int.not_le, Decidable.not_not, List.length_map, List.length_cons, List.length_nil] at hq1)
      refine WpG.exit ?_
      change WpG _ _ _ _ _
      refine WpG.seq ?_
      refine WpG.reg ?_
      first | refine G.faddrB rfl ?_ | refine G.faddrF rfl ?_ | refine G.faddrE rfl ?_
      first | refine G.load1B rfl rfl rfl ?_ | refine G.load1F rfl rfl ?_ | refine G.load1E rfl rfl (List.getElem?_eq_getElem (by first | omega | (simp only [List.length_map, List.length_append, List.length_cons, List.length_nil, List.length_replicate, List.length_take, List.length_drop, List.length_set]; omega))) rfl ?_ | refine G.load1EM rfl rfl (List.getElem?_eq_getElem (by first | omega | (simp only [List.length_map, List.length_append, List.length_cons, List.length_nil, List.length_replicate, List.length_take, List.length_drop, List.length_set]; omega))) rfl ?_
      refine G.call0 rfl rfl (rregs_ok h21 _) ?_
      rintro _ _ ⟨rfl, rfl⟩
      refine ⟨rfl, ?_⟩
      change WpOpsG _ _ (_ :: _) _ _
      refine G.mv rfl ?_
      refine G.ext rfl rfl ?_
      refine G.ext rfl rfl ?_
      refine G.ext rfl rfl ?_
      refine G.mv rfl ?_
      refine G.mv rfl ?_
      refine G.mv rfl ?_
      refine WpOpsG.nil ?_
      change WpG _ _ _ _ _
      refine WpG.seq ?_
      refine WpG.reg ?_
      first | refine G.faddrB rfl ?_ | refine G.faddrF rfl ?_ | refine G.faddrE rfl ?_
      first | refine G.load1B rfl rfl rfl ?_ | refine G.load1F rfl rfl ?_ | refine G.load1E rfl rfl (List.getElem?_eq_getElem (by first | omega | (simp only [List.length_map, List.length_append, List.length_cons, List.length_nil, List.length_replicate, List.length_take, List.length_drop, List.length_set]; omega))) rfl ?_ | refine G.load1EM rfl rfl (List.getElem?_eq_getElem (by first | omega | (simp only [List.length_map, List.length_append, List.length_cons, List.length_nil, List.length_replicate, List.length_take, List.length_drop, List.length_set]; omega))) rfl ?_
      refine G.bin rfl rfl rfl ?_
      refine G.mv rfl ?_
      apply G.andS rfl rfl rfl rfl rfl rfl
      case hB =>
        intro hs4
        (try simp only [decide_eq_true_eq, decide_eq_false_iff_not, Bool.or_eq_true, Bool.and_eq_true, Bool.or_eq_false_iff, Bool.and_eq_false_iff, bne_iff_ne, beq_iff_eq, beq_eq_false_iff_ne, bne_eq_false_iff_eq, ne_eq, Bool.not_eq_true', Bool.not_eq_false', Int.not_lt, Int.not_le, Decidable.not_not, List.length_map, List.length_cons, List.length_nil] at hs4)
        first | refine G.faddrB rfl ?_ | refine G.faddrF rfl ?_ | refine G.faddrE rfl ?_
        first | refine G.load1B rfl rfl rfl ?_ | refine G.load1F rfl rfl ?_ | refine G.load1E rfl rfl (List.getElem?_eq_getElem (by first | omega | (simp only [List.length_map, List.length_append, List.length_cons, List.length_nil, List.length_replicate, List.length_take, List.length_drop, List.length_set]; omega))) rfl ?_ | refine G.load1EM rfl rfl (List.getElem?_eq_getElem (by first | omega | (simp only [List.length_map, List.length_append, List.length_cons, List.length_nil, List.length_replicate, List.length_take, List.length_drop, List.length_set]; omega))) rfl ?_
        refine G.bin rfl rfl rfl ?_
        refine WpOpsG.nil ?_
        exact ⟨rfl, (by repeat (first | exact LLe.refl _ | refine LLe.cons rfl ?_)), (by repeat (first | exact HLe.refl _ | refine HLe.cons rfl ?_)), rfl⟩
      refine G.mv rfl ?_
      apply G.andS rfl rfl rfl rfl rfl rfl
      case hB =>
        intro hs5
        (try simp only [decide_eq_true_eq, decide_eq_false_iff_not, Bool.or_eq_true, Bool.and_eq_true, Bool.or_eq_false_iff, Bool.and_eq_false_iff, bne_iff_ne, beq_iff_eq, beq_eq_false_iff_ne, bne_eq_false_iff_eq, ne_eq, Bool.not_eq_true', Bool.not_eq_false', Int.not_lt, Int.not_le, Decidable.not_not, List.length_map, List.length_cons, List.length_nil] at hs5)
        refine G.mv rfl ?_
        refine G.un rfl rfl ?_
        refine G.mv rfl ?_
        apply G.orS rfl rfl rfl rfl rfl rfl
        case hB =>
          intro hs6
          (try simp only [decide_eq_true_eq, decide_eq_false_iff_not, Bool.or_eq_true, Bool.and_eq_true, Bool.or_eq_false_iff, Bool.and_eq_false_iff, bne_iff_ne, beq_iff_eq, beq_eq_false_iff_ne, bne_eq_false_iff_eq, ne_eq, Bool.not_eq_true', Bool.not_eq_false', Int.not_lt, Int.not_le, Decidable.not_not, List.length_map, List.length_cons, List.length_nil] at hs6)
          first | refine G.faddrB rfl ?_ | refine G.faddrF rfl ?_ | refine G.faddrE rfl ?_
          first | refine G.load1B rfl rfl rfl ?_ | refine G.load1F rfl rfl ?_ | refine G.load1E rfl rfl (List.getElem?_eq_getElem (by first | omega | (simp only [List.length_map, List.length_append, List.length_cons, List.length_nil, List.length_replicate, List.length_take, List.length_drop, List.length_set]; omega))) rfl ?_ | refine G.load1EM rfl rfl (List.getElem?_eq_getElem (by first | omega | (simp only [List.length_map, List.length_append, List.length_cons, List.length_nil, List.length_replicate, List.length_take, List.length_drop, List.length_set]; omega))) rfl ?_
          refine G.bin rfl rfl rfl ?_
          refine WpOpsG.nil ?_
          exact ⟨rfl, (by repeat (first | exact LLe.refl _ | refine LLe.cons rfl ?_)), (by repeat (first | exact HLe.refl _ | refine HLe.cons rfl ?_)), rfl⟩
        refine WpOpsG.nil ?_
        exact ⟨rfl, (by repeat (first | exact LLe.refl _ | refine LLe.cons rfl ?_)), (by repeat (first | exact HLe.refl _ | refine HLe.cons rfl ?_)), rfl⟩
      refine G.mv rfl ?_
      apply G.andS rfl rfl rfl rfl rfl rfl
      case hB =>
        intro hs7
        (try simp only [decide_eq_true_eq, decide_eq_false_iff_not, Bool.or_eq_true, Bool.and_eq_true, Bool.or_eq_false_iff, Bool.and_eq_false_iff, bne_iff_ne, beq_iff_eq, beq_eq_false_iff_ne, bne_eq_false_iff_eq, ne_eq, Bool.not_eq_true', Bool.not_eq_false', Int.not_lt, Int.not_le, Decidable.not_not, List.length_map, List.length_cons, List.length_nil] at hs7)
        refine G.mv rfl ?_
        refine G.un rfl rfl ?_
        refine G.mv rfl ?_
        apply G.orS rfl rfl rfl rfl rfl rfl
        case hB =>
          intro hs8
          (try simp only [decide_eq_true_eq, decide_eq_false_iff_not, Bool.or_eq_true, Bool.and_eq_true, Bool.or_eq_false_iff, Bool.and_eq_false_iff, bne_iff_ne, beq_iff_eq, beq_eq_false_iff_ne, bne_eq_false_iff_eq, ne_eq, Bool.not_eq_true', Bool.not_eq_false', Int.not_lt, Int.not_le, Decidable.not_not, List.length_map, List.length_cons, List.length_nil] at hs8)
          first | refine G.faddrB rfl ?_ | refine G.faddrF rfl ?_ | refine G.faddrE rfl ?_
          first | refine G.load1B rfl rfl rfl ?_ | refine G.load1F rfl rfl ?_ | refine G.load1E rfl rfl (List.getElem?_eq_getElem (by first | omega | (simp only [List.length_map, List.length_append, List.length_cons, List.length_nil, List.length_replicate, List.length_take, List.length_drop, List.length_set]; omega))) rfl ?_ | refine G.load1EM rfl rfl (List.getElem?_eq_getElem (by first | omega | (simp only [List.length_map, List.length_append, List.length_cons, List.length_nil, List.length_replicate, List.length_take, List.length_drop, List.length_set]; omega))) rfl ?_
          refine G.bin rfl rfl rfl ?_
          refine WpOpsG.nil ?_
          exact ⟨rfl, (by repeat (first | exact LLe.refl _ | refine LLe.cons rfl ?_)), (by repeat (first | exact HLe.refl _ | refine HLe.cons rfl ?_)), rfl⟩
        refine WpOpsG.nil ?_
        exact ⟨rfl, (by repeat (first | exact LLe.refl _ | refine LLe.cons rfl ?_)), (by repeat (first | exact HLe.refl _ | refine HLe.cons rfl ?_)), rfl⟩
      refine G.mv rfl ?_
      apply G.andS rfl rfl rfl rfl rfl rfl
      case hB =>
        intro hs9
        (try simp only [decide_eq_true_eq, decide_eq_false_iff_not, Bool.or_eq_true, Bool.and_eq_true, Bool.or_eq_false_iff, Bool.and_eq_false_iff, bne_iff_ne, beq_iff_eq, beq_eq_false_iff_ne, bne_eq_false_iff_eq, ne_eq, Bool.not_eq_true', Bool.not_eq_false', Int.not_lt, Int.not_le, Decidable.not_not, List.length_map, List.length_cons, List.length_nil] at hs9)
        refine G.mv rfl ?_
        refine G.un rfl rfl ?_
        refine G.mv rfl ?_
        apply G.orS rfl rfl rfl rfl rfl rfl
        case hB =>
          intro hs10
          (try simp only [decide_eq_true_eq, decide_eq_false_iff_not, Bool.or_eq_true, Bool.and_eq_true, Bool.or_eq_false_iff, Bool.and_eq_false_iff, bne_iff_ne, beq_iff_eq, beq_eq_false_iff_ne, bne_eq_false_iff_eq, ne_eq, Bool.not_eq_true', Bool.not_eq_false', Int.not_lt, Int.not_le, Decidable.not_not, List.length_map, List.length_cons, List.length_nil] at hs10)
          first | refine G.faddrB rfl ?_ | refine G.faddrF rfl ?_ | refine G.faddrE rfl ?_
          first | refine G.load1B rfl rfl rfl ?_ | refine G.load1F rfl rfl ?_ | refine G.load1E rfl rfl (List.getElem?_eq_getElem (by first | omega | (simp only [List.length_map, List.length_append, List.length_cons, List.length_nil, List.length_replicate, List.length_take, List.length_drop, List.length_set]; omega))) rfl ?_ | refine G.load1EM rfl rfl (List.getElem?_eq_getElem (by first | omega | (simp only [List.length_map, List.length_append, List.length_cons, List.length_nil, List.length_replicate, List.length_take, List.length_drop, List.length_set]; omega))) rfl ?_
          refine G.bin rfl rfl rfl ?_
          refine WpOpsG.nil ?_
          exact ⟨rfl, (by repeat (first | exact LLe.refl _ | refine LLe.cons rfl ?_)), (by repeat (first | exact HLe.refl _ | refine HLe.cons rfl ?_)), rfl⟩
        refine WpOpsG.nil ?_
        exact ⟨rfl, (by repeat (first | exact LLe.refl _ | refine LLe.cons rfl ?_)), (by repeat (first | exact HLe.refl _ | refine HLe.cons rfl ?_)), rfl⟩
      refine G.mv rfl ?_
      refine WpOpsG.nil ?_
      change WpG _ _ _ _ _
      refine WpG.ret ?_
      refine ⟨_, [], rfl, (hasP_le (by repeat (first | exact trivial | refine ⟨rfl, ?_⟩))), rfl, rfl, rfl, ?_⟩
      have ba : byt x.a := hJ 0 (by omega)
      have bb : byt x.b := hJ 1 (by omega)
      have bc : byt x.c := hJ 2 (by omega)
      unfold byt at ba bb bc
      refine ⟨?_, rfl⟩
      show GV.v (.bool _) = GV.v (.bool (right x))
      congr 2
      unfold right field
      simp [ba.1, ba.2, bb.1, bb.2, bc.1, bc.2]
  · exact ⟨by omega, fun j h => by omega⟩
theorem same_ok {A : AProg} (hA : A.get 8 = some af8) (h10 : A.get 10 = some af10) (h11 : A.get 11 = some af11) (h12 : A.get 12 = some af12) (h13 : A.get 13 = some af13) (h14 : A.get 14 = some af14) (h15 : A.get 15 = some af15) (h16 : A.get 16 = some af16) (h17 : A.get 17 = some af17) (h18 : A.get 18 = some af18) (h19 : A.get 19 = some af19) (h20 : A.get 20 = some af20) (h21 : A.get 21 = some af21) (p : List UInt8) (pc : Int) (x : Ins) (hl : p.length ≤ 2 ^ 60) (hpc : i64 pc)  : WpCallG A 8 [.fsl 1 (p.map encB), .v (.int .i64 pc), .agg (encI x)] [] (fun v H => v = .v (.bool true) ∧ H = []) := by
  have hnl : (namesL.length : Int) = 18 := rfl
  have hnl2 : namesL.length = 18 := rfl
  refine WpCallG.intro hA rfl rfl ?_
  unfold af8
  change WpG _ _ _ _ _
  refine WpG.seq ?_
  refine WpG.reg ?_
  refine G.box (g := 10) rfl rfl rfl ?_
  refine G.mv rfl ?_
  refine WpOpsG.nil ?_
  change WpG _ _ _ _ _
  refine WpG.seq ?_
  refine WpG.reg ?_
  refine G.mv rfl ?_
  refine G.mv rfl ?_
  refine G.call0 rfl rfl (fetch_ok h12 p pc hl hpc) ?_
  rintro _ _ ⟨rfl, rfl⟩
  refine ⟨rfl, ?_⟩
  change WpOpsG _ _ (_ :: _) _ _
  refine G.mv rfl ?_
  refine G.ext rfl rfl ?_
  refine G.ext rfl rfl ?_
  refine G.box (g := 11) rfl rfl rfl ?_
  first | refine G.storeB rfl rfl rfl rfl rfl rfl ?_ | refine G.storeEM rfl rfl rfl (List.getElem?_eq_getElem (by first | omega | (simp only [List.length_map, List.length_append, List.length_cons, List.length_nil, List.length_replicate, List.length_take, List.length_drop, List.length_set]; omega))) rfl rfl rfl rfl rfl ?_
  refine G.mv rfl ?_
  refine WpOpsG.nil ?_
  change WpG _ _ _ _ _
  refine WpG.seq ?_
  refine WpG.reg ?_
  refine G.mv rfl ?_
  refine G.mv rfl ?_
  refine G.call0 rfl rfl (rfetch_ok h10 p pc hl hpc) ?_
  rintro _ _ ⟨rfl, rfl⟩
  refine ⟨rfl, ?_⟩
  change WpOpsG _ _ (_ :: _) _ _
  refine G.mv rfl ?_
  refine G.ext rfl rfl ?_
  refine G.ext rfl rfl ?_
  refine G.box (g := 12) rfl rfl rfl ?_
  first | refine G.storeB rfl rfl rfl rfl rfl rfl ?_ | refine G.storeEM rfl rfl rfl (List.getElem?_eq_getElem (by first | omega | (simp only [List.length_map, List.length_append, List.length_cons, List.length_nil, List.length_replicate, List.length_take, List.length_drop, List.length_set]; omega))) rfl rfl rfl rfl rfl ?_
  refine G.mv rfl ?_
  refine WpOpsG.nil ?_
  change WpG _ _ _ _ _
  refine WpG.seq ?_
  refine WpG.reg ?_
  refine G.mv rfl ?_
  refine WpOpsG.nil ?_
  change WpG _ _ _ _ _
  refine WpG.seqJ ([(5, .bptr 10 0), (6, .v (.bool false)), (7, .bptr 11 0), (8, .v (.bool (fetch p pc).2)), (9, .bptr 12 0), (10, .v (.bool (fetch p pc).2)), (11, .v (.string (nameOf x.op)))]) ([(10, .box (encI x)), (11, .box (encI (fetch p pc).1)), (12, .box (encI (fetch p pc).1))]) ⟨rfl, rfl⟩ ?_ ?_
  · change WpG _ _ _ _ _
    refine WpG.seq ?_
    refine WpG.reg ?_
    first | refine G.faddrB rfl ?_ | refine G.faddrF rfl ?_ | refine G.faddrE rfl ?_
    first | refine G.load1B rfl rfl rfl ?_ | refine G.load1F rfl rfl ?_ | refine G.load1E rfl rfl (List.getElem?_eq_getElem (by first | omega | (simp only [List.length_map, List.length_append, List.length_cons, List.length_nil, List.length_replicate, List.length_take, List.length_drop, List.length_set]; omega))) rfl ?_ | refine G.load1EM rfl rfl (List.getElem?_eq_getElem (by first | omega | (simp only [List.length_map, List.length_append, List.length_cons, List.length_nil, List.length_replicate, List.length_take, List.length_drop, List.length_set]; omega))) rfl ?_
    refine G.bin rfl rfl rfl ?_
    refine G.mv rfl ?_
    apply G.andS rfl rfl rfl rfl rfl rfl
    case hB =>
      intro hs1
      (try simp only [decide_eq_true_eq, decide_eq_false_iff_not, Bool.or_eq_true, Bool.and_eq_true, Bool.or_eq_false_iff, Bool.and_eq_false_iff, bne_iff_ne, beq_iff_eq, beq_eq_false_iff_ne, bne_eq_false_iff_eq, ne_eq, Bool.not_eq_true', Bool.not_eq_false', Int.not_lt, Int.not_le, Decidable.not_not, List.length_map, List.length_cons, List.length_nil] at hs1)
      first | refine G.faddrB rfl ?_ | refine G.faddrF rfl ?_ | refine G.faddrE rfl ?_
      first | refine G.load1B rfl rfl rfl ?_ | refine G.load1F rfl rfl ?_ | refine G.load1E rfl rfl (List.getElem?_eq_getElem (by first | omega | (simp only [List.length_map, List.length_append, List.length_cons, List.length_nil, List.length_replicate, List.length_take, List.length_drop, List.length_set]; omega))) rfl ?_ | refine G.load1EM rfl rfl (List.getElem?_eq_getElem (by first | omega | (simp only [List.length_map, List.length_append, List.length_cons, List.length_nil, List.length_replicate, List.length_take, List.length_drop, List.length_set]; omega))) rfl ?_
      refine G.ckcall0 rfl rfl rfl (names_ok h16) ?_
      rintro _ _ ⟨rfl, rfl⟩
      refine ⟨rfl, ?_⟩
      change WpOpsG _ _ (_ :: _) _ _
      first | refine G.lenM rfl ?_ | refine G.lenOM rfl rfl ?_ | refine G.lenF rfl ?_ | refine G.lenO rfl rfl ?_ | refine G.lenNil rfl ?_
      refine G.bin rfl rfl rfl ?_
      refine WpOpsG.nil ?_
      exact ⟨rfl, (by repeat (first | exact LLe.refl _ | refine LLe.cons rfl ?_)), (by repeat (first | exact HLe.refl _ | refine HLe.cons rfl ?_)), rfl⟩
    refine WpOpsG.nil ?_
    change WpG _ _ _ _ _
    refine WpG.cond rfl (fun hq2 => ?_) (fun hq2 => ?_)
    · (try simp only [decide_eq_true_eq, decide_eq_false_iff_not, Bool.or_eq_true, Bool.and_eq_true, Bool.or_eq_false_iff, Bool.and_eq_false_iff, bne_iff_ne, beq_iff_eq, beq_eq_false_iff_ne, bne_eq_false_iff_eq, ne_eq, Bool.not_eq_true', Bool.not_eq_false', Int.not_lt, Int.not_le, Decidable.not_not, List.length_map, List.length_cons, List.length_nil] at hq2)
      refine WpG.reg ?_
      first | refine G.faddrB rfl ?_ | refine G.faddrF rfl ?_ | refine G.faddrE rfl ?_
      first | refine G.load1B rfl rfl rfl ?_ | refine G.load1F rfl rfl ?_ | refine G.load1E rfl rfl (List.getElem?_eq_getElem (by first | omega | (simp only [List.length_map, List.length_append, List.length_cons, List.length_nil, List.length_replicate, List.length_take, List.length_drop, List.length_set]; omega))) rfl ?_ | refine G.load1EM rfl rfl (List.getElem?_eq_getElem (by first | omega | (simp only [List.length_map, List.length_append, List.length_cons, List.length_nil, List.length_replicate, List.length_take, List.length_drop, List.length_set]; omega))) rfl ?_
      refine G.ckcall0 rfl rfl rfl (names_ok h16) ?_
      rintro _ _ ⟨rfl, rfl⟩
      refine ⟨rfl, ?_⟩
      change WpOpsG _ _ (_ :: _) _ _
      first | refine G.iaddrN rfl rfl (List.getElem?_eq_getElem (by first | omega | (simp only [List.length_map, List.length_append, List.length_cons, List.length_nil, List.length_replicate, List.length_take, List.length_drop, List.length_set]; omega))) ?_ | refine G.iaddrM rfl rfl (by omega) (List.getElem?_eq_getElem (by first | omega | (simp only [List.length_map, List.length_append, List.length_cons, List.length_nil, List.length_replicate, List.length_take, List.length_drop, List.length_set]; omega))) ?_ | refine G.iaddrF rfl rfl (by omega) rfl ?_ | refine G.iaddrO rfl rfl rfl (by omega) (by first | omega | (simp only [List.length_map, List.length_append, List.length_cons, List.length_nil, List.length_replicate, List.length_take, List.length_drop, List.length_set]; omega)) ?_ | refine G.iaddrF rfl rfl (by omega) (List.getElem?_eq_getElem (by first | omega | (simp only [List.length_map, List.length_append, List.length_cons, List.length_nil, List.length_replicate, List.length_take, List.length_drop, List.length_set]; omega))) ?_
      first | refine G.load1B rfl rfl rfl ?_ | refine G.load1F rfl rfl ?_ | refine G.load1E rfl rfl (List.getElem?_eq_getElem (by first | omega | (simp only [List.length_map, List.length_append, List.length_cons, List.length_nil, List.length_replicate, List.length_take, List.length_drop, List.length_set]; omega))) rfl ?_ | refine G.load1EM rfl rfl (List.getElem?_eq_getElem (by first | omega | (simp only [List.length_map, List.length_append, List.length_cons, List.length_nil, List.length_replicate, List.length_take, List.length_drop, List.length_set]; omega))) rfl ?_
      refine G.mv rfl ?_
      refine WpOpsG.nil ?_
      refine ⟨⟨rfl, rfl, rfl, rfl, rfl, rfl, ?_, trivial⟩, ⟨rfl, rfl, rfl, trivial⟩, rfl⟩
      show some (GV.v (.string _)) = some (GV.v (.string (nameOf x.op)))
      first | (unfold nameOf; rw [if_pos (by omega)]; done) | (unfold nameOf; rw [if_pos (by omega)]; rfl) | (unfold nameOf; rw [if_neg (by omega), ← getE (l := namesL) (n := x.op.toNat) (d := ⟨#[]⟩) (by show _ < 18; omega) rfl]; done) | (unfold nameOf; rw [if_neg (by omega), ← getE (l := namesL) (n := x.op.toNat) (d := ⟨#[]⟩) (by show _ < 18; omega) rfl]; rfl)
    · (try simp only [decide_eq_true_eq, decide_eq_false_iff_not, Bool.or_eq_true, Bool.and_eq_true, Bool.or_eq_false_iff, Bool.and_eq_false_iff, bne_iff_ne, beq_iff_eq, beq_eq_false_iff_ne, bne_eq_false_iff_eq, ne_eq, Bool.not_eq_true', Bool.not_eq_false', Int.not_lt, Int.not_le, Decidable.not_not, List.length_map, List.length_cons, List.length_nil] at hq2)
      refine WpG.skip ?_
      refine ⟨⟨rfl, rfl, rfl, rfl, rfl, rfl, ?_, trivial⟩, ⟨rfl, rfl, rfl, trivial⟩, rfl⟩
      show some (GV.v (.string _)) = some (GV.v (.string (nameOf x.op)))
      first | (unfold nameOf; rw [if_pos (by omega)]; done) | (unfold nameOf; rw [if_pos (by omega)]; rfl) | (unfold nameOf; rw [if_neg (by omega), ← getE (l := namesL) (n := x.op.toNat) (d := ⟨#[]⟩) (by show _ < 18; omega) rfl]; done) | (unfold nameOf; rw [if_neg (by omega), ← getE (l := namesL) (n := x.op.toNat) (d := ⟨#[]⟩) (by show _ < 18; omega) rfl]; rfl)
  change WpG _ _ _ _ _
  refine WpG.seq ?_
  refine WpG.seq ?_
  refine WpG.reg ?_
  first | refine G.loadNB rfl rfl rfl ?_ | refine G.loadNF rfl rfl ?_ | refine G.loadNEM rfl rfl (List.getElem?_eq_getElem (by first | omega | (simp only [List.length_map, List.length_append, List.length_cons, List.length_nil, List.length_replicate, List.length_take, List.length_drop, List.length_set]; omega))) rfl ?_
  refine G.call0 rfl rfl (right_ok h13 h19 h20 x) ?_
  rintro _ _ ⟨rfl, rfl⟩
  refine ⟨rfl, ?_⟩
  change WpOpsG _ _ (_ :: _) _ _
  refine G.mv rfl ?_
  apply G.andS rfl rfl rfl rfl rfl rfl
  case hB =>
    intro hs3
    (try simp only [decide_eq_true_eq, decide_eq_false_iff_not, Bool.or_eq_true, Bool.and_eq_true, Bool.or_eq_false_iff, Bool.and_eq_false_iff, bne_iff_ne, beq_iff_eq, beq_eq_false_iff_ne, bne_eq_false_iff_eq, ne_eq, Bool.not_eq_true', Bool.not_eq_false', Int.not_lt, Int.not_le, Decidable.not_not, List.length_map, List.length_cons, List.length_nil] at hs3)
    first | refine G.loadNB rfl rfl rfl ?_ | refine G.loadNF rfl rfl ?_ | refine G.loadNEM rfl rfl (List.getElem?_eq_getElem (by first | omega | (simp only [List.length_map, List.length_append, List.length_cons, List.length_nil, List.length_replicate, List.length_take, List.length_drop, List.length_set]; omega))) rfl ?_
    first | refine G.loadNB rfl rfl rfl ?_ | refine G.loadNF rfl rfl ?_ | refine G.loadNEM rfl rfl (List.getElem?_eq_getElem (by first | omega | (simp only [List.length_map, List.length_append, List.length_cons, List.length_nil, List.length_replicate, List.length_take, List.length_drop, List.length_set]; omega))) rfl ?_
    refine G.ckcall0 rfl rfl rfl (imm_ok h15 x) ?_
    rintro _ _ ⟨rfl, rfl⟩
    refine ⟨rfl, ?_⟩
    change WpOpsG _ _ (_ :: _) _ _
    refine G.call0 rfl rfl (rimm_ok h17 x) ?_
    rintro _ _ ⟨rfl, rfl⟩
    refine ⟨rfl, ?_⟩
    change WpOpsG _ _ (_ :: _) _ _
    refine G.bin rfl rfl rfl ?_
    refine WpOpsG.nil ?_
    exact ⟨rfl, (by repeat (first | exact LLe.refl _ | refine LLe.cons rfl ?_)), (by repeat (first | exact HLe.refl _ | refine HLe.cons rfl ?_)), rfl⟩
  refine WpOpsG.nil ?_
  change WpG _ _ _ _ _
  refine WpG.cond rfl (fun hq4 => ?_) (fun hq4 => ?_)
  · (try simp only [decide_eq_true_eq, decide_eq_false_iff_not, Bool.or_eq_true, Bool.and_eq_true, Bool.or_eq_false_iff, Bool.and_eq_false_iff, bne_iff_ne, beq_iff_eq, beq_eq_false_iff_ne, bne_eq_false_iff_eq, ne_eq, Bool.not_eq_true', Bool.not_eq_false', Int.not_lt, Int.not_le, Decidable.not_not, List.length_map, List.length_cons, List.length_nil] at hq4)
    exfalso
    exact hq4.2 (imm_eq x hq4.1)
  · (try simp only [decide_eq_true_eq, decide_eq_false_iff_not, Bool.or_eq_true, Bool.and_eq_true, Bool.or_eq_false_iff, Bool.and_eq_false_iff, bne_iff_ne, beq_iff_eq, beq_eq_false_iff_ne, bne_eq_false_iff_eq, ne_eq, Bool.not_eq_true', Bool.not_eq_false', Int.not_lt, Int.not_le, Decidable.not_not, List.length_map, List.length_cons, List.length_nil] at hq4)
    refine WpG.skip ?_
    change WpG _ _ _ _ _
    refine WpG.seq ?_
    refine WpG.reg ?_
    first | refine G.loadNB rfl rfl rfl ?_ | refine G.loadNF rfl rfl ?_ | refine G.loadNEM rfl rfl (List.getElem?_eq_getElem (by first | omega | (simp only [List.length_map, List.length_append, List.length_cons, List.length_nil, List.length_replicate, List.length_take, List.length_drop, List.length_set]; omega))) rfl ?_
    first | refine G.loadNB rfl rfl rfl ?_ | refine G.loadNF rfl rfl ?_ | refine G.loadNEM rfl rfl (List.getElem?_eq_getElem (by first | omega | (simp only [List.length_map, List.length_append, List.length_cons, List.length_nil, List.length_replicate, List.length_take, List.length_drop, List.length_set]; omega))) rfl ?_
    refine G.beq rfl rfl rfl ?_
    refine G.mv rfl ?_
    apply G.andS rfl rfl rfl rfl rfl rfl
    case hB =>
      intro hs5
      (try simp only [decide_eq_true_eq, decide_eq_false_iff_not, Bool.or_eq_true, Bool.and_eq_true, Bool.or_eq_false_iff, Bool.and_eq_false_iff, bne_iff_ne, beq_iff_eq, beq_eq_false_iff_ne, bne_eq_false_iff_eq, ne_eq, Bool.not_eq_true', Bool.not_eq_false', Int.not_lt, Int.not_le, Decidable.not_not, List.length_map, List.length_cons, List.length_nil] at hs5)
      refine G.mv rfl ?_
      refine G.mv rfl ?_
      refine G.beq rfl rfl rfl ?_
      refine WpOpsG.nil ?_
      exact ⟨rfl, (by repeat (first | exact LLe.refl _ | refine LLe.cons rfl ?_)), (by repeat (first | exact HLe.refl _ | refine HLe.cons rfl ?_)), rfl⟩
    refine G.mv rfl ?_
    apply G.andS rfl rfl rfl rfl rfl rfl
    case hB =>
      intro hs6
      (try simp only [decide_eq_true_eq, decide_eq_false_iff_not, Bool.or_eq_true, Bool.and_eq_true, Bool.or_eq_false_iff, Bool.and_eq_false_iff, bne_iff_ne, beq_iff_eq, beq_eq_false_iff_ne, bne_eq_false_iff_eq, ne_eq, Bool.not_eq_true', Bool.not_eq_false', Int.not_lt, Int.not_le, Decidable.not_not, List.length_map, List.length_cons, List.length_nil] at hs6)
      first | refine G.loadNB rfl rfl rfl ?_ | refine G.loadNF rfl rfl ?_ | refine G.loadNEM rfl rfl (List.getElem?_eq_getElem (by first | omega | (simp only [List.length_map, List.length_append, List.length_cons, List.length_nil, List.length_replicate, List.length_take, List.length_drop, List.length_set]; omega))) rfl ?_
      first | refine G.loadNB rfl rfl rfl ?_ | refine G.loadNF rfl rfl ?_ | refine G.loadNEM rfl rfl (List.getElem?_eq_getElem (by first | omega | (simp only [List.length_map, List.length_append, List.length_cons, List.length_nil, List.length_replicate, List.length_take, List.length_drop, List.length_set]; omega))) rfl ?_
      refine G.ckcall0 rfl rfl rfl (right_ok h13 h19 h20 x) ?_
      rintro _ _ ⟨rfl, rfl⟩
      refine ⟨rfl, ?_⟩
      change WpOpsG _ _ (_ :: _) _ _
      refine G.call0 rfl rfl (rright_ok h18 h21 x) ?_
      rintro _ _ ⟨rfl, rfl⟩
      refine ⟨rfl, ?_⟩
      change WpOpsG _ _ (_ :: _) _ _
      refine G.beq rfl rfl rfl ?_
      refine WpOpsG.nil ?_
      exact ⟨rfl, (by repeat (first | exact LLe.refl _ | refine LLe.cons rfl ?_)), (by repeat (first | exact HLe.refl _ | refine HLe.cons rfl ?_)), rfl⟩
    refine G.mv rfl ?_
    apply G.andS rfl rfl rfl rfl rfl rfl
    case hB =>
      intro hs7
      (try simp only [decide_eq_true_eq, decide_eq_false_iff_not, Bool.or_eq_true, Bool.and_eq_true, Bool.or_eq_false_iff, Bool.and_eq_false_iff, bne_iff_ne, beq_iff_eq, beq_eq_false_iff_ne, bne_eq_false_iff_eq, ne_eq, Bool.not_eq_true', Bool.not_eq_false', Int.not_lt, Int.not_le, Decidable.not_not, List.length_map, List.length_cons, List.length_nil] at hs7)
      first | refine G.faddrB rfl ?_ | refine G.faddrF rfl ?_ | refine G.faddrE rfl ?_
      first | refine G.load1B rfl rfl rfl ?_ | refine G.load1F rfl rfl ?_ | refine G.load1E rfl rfl (List.getElem?_eq_getElem (by first | omega | (simp only [List.length_map, List.length_append, List.length_cons, List.length_nil, List.length_replicate, List.length_take, List.length_drop, List.length_set]; omega))) rfl ?_ | refine G.load1EM rfl rfl (List.getElem?_eq_getElem (by first | omega | (simp only [List.length_map, List.length_append, List.length_cons, List.length_nil, List.length_replicate, List.length_take, List.length_drop, List.length_set]; omega))) rfl ?_
      refine G.call0 rfl rfl (name_ok h14 _) ?_
      rintro _ _ ⟨rfl, rfl⟩
      refine ⟨rfl, ?_⟩
      change WpOpsG _ _ (_ :: _) _ _
      refine G.mv rfl ?_
      refine G.bin rfl rfl rfl ?_
      refine WpOpsG.nil ?_
      exact ⟨rfl, (by repeat (first | exact LLe.refl _ | refine LLe.cons rfl ?_)), (by repeat (first | exact HLe.refl _ | refine HLe.cons rfl ?_)), rfl⟩
    refine G.mv rfl ?_
    apply G.andS rfl rfl rfl rfl rfl rfl
    case hB =>
      intro hs8
      (try simp only [decide_eq_true_eq, decide_eq_false_iff_not, Bool.or_eq_true, Bool.and_eq_true, Bool.or_eq_false_iff, Bool.and_eq_false_iff, bne_iff_ne, beq_iff_eq, beq_eq_false_iff_ne, bne_eq_false_iff_eq, ne_eq, Bool.not_eq_true', Bool.not_eq_false', Int.not_lt, Int.not_le, Decidable.not_not, List.length_map, List.length_cons, List.length_nil] at hs8)
      first | refine G.loadNB rfl rfl rfl ?_ | refine G.loadNF rfl rfl ?_ | refine G.loadNEM rfl rfl (List.getElem?_eq_getElem (by first | omega | (simp only [List.length_map, List.length_append, List.length_cons, List.length_nil, List.length_replicate, List.length_take, List.length_drop, List.length_set]; omega))) rfl ?_
      first | refine G.loadNB rfl rfl rfl ?_ | refine G.loadNF rfl rfl ?_ | refine G.loadNEM rfl rfl (List.getElem?_eq_getElem (by first | omega | (simp only [List.length_map, List.length_append, List.length_cons, List.length_nil, List.length_replicate, List.length_take, List.length_drop, List.length_set]; omega))) rfl ?_
      refine G.bsliceF rfl rfl rfl ?_
      first | refine G.faddrB rfl ?_ | refine G.faddrF rfl ?_ | refine G.faddrE rfl ?_
      first | refine G.load1B rfl rfl rfl ?_ | refine G.load1F rfl rfl ?_ | refine G.load1E rfl rfl (List.getElem?_eq_getElem (by first | omega | (simp only [List.length_map, List.length_append, List.length_cons, List.length_nil, List.length_replicate, List.length_take, List.length_drop, List.length_set]; omega))) rfl ?_ | refine G.load1EM rfl rfl (List.getElem?_eq_getElem (by first | omega | (simp only [List.length_map, List.length_append, List.length_cons, List.length_nil, List.length_replicate, List.length_take, List.length_drop, List.length_set]; omega))) rfl ?_
      first | refine G.faddrB rfl ?_ | refine G.faddrF rfl ?_ | refine G.faddrE rfl ?_
      first | refine G.load1B rfl rfl rfl ?_ | refine G.load1F rfl rfl ?_ | refine G.load1E rfl rfl (List.getElem?_eq_getElem (by first | omega | (simp only [List.length_map, List.length_append, List.length_cons, List.length_nil, List.length_replicate, List.length_take, List.length_drop, List.length_set]; omega))) rfl ?_ | refine G.load1EM rfl rfl (List.getElem?_eq_getElem (by first | omega | (simp only [List.length_map, List.length_append, List.length_cons, List.length_nil, List.length_replicate, List.length_take, List.length_drop, List.length_set]; omega))) rfl ?_
      first | refine G.faddrB rfl ?_ | refine G.faddrF rfl ?_ | refine G.faddrE rfl ?_
      first | refine G.load1B rfl rfl rfl ?_ | refine G.load1F rfl rfl ?_ | refine G.load1E rfl rfl (List.getElem?_eq_getElem (by first | omega | (simp only [List.length_map, List.length_append, List.length_cons, List.length_nil, List.length_replicate, List.length_take, List.length_drop, List.length_set]; omega))) rfl ?_ | refine G.load1EM rfl rfl (List.getElem?_eq_getElem (by first | omega | (simp only [List.length_map, List.length_append, List.length_cons, List.length_nil, List.length_replicate, List.length_take, List.length_drop, List.length_set]; omega))) rfl ?_
      first | refine G.faddrB rfl ?_ | refine G.faddrF rfl ?_ | refine G.faddrE rfl ?_
      first | refine G.load1B rfl rfl rfl ?_ | refine G.load1F rfl rfl ?_ | refine G.load1E rfl rfl (List.getElem?_eq_getElem (by first | omega | (simp only [List.length_map, List.length_append, List.length_cons, List.length_nil, List.length_replicate, List.length_take, List.length_drop, List.length_set]; omega))) rfl ?_ | refine G.load1EM rfl rfl (List.getElem?_eq_getElem (by first | omega | (simp only [List.length_map, List.length_append, List.length_cons, List.length_nil, List.length_replicate, List.length_take, List.length_drop, List.length_set]; omega))) rfl ?_
      first | refine G.faddrB rfl ?_ | refine G.faddrF rfl ?_ | refine G.faddrE rfl ?_
      first | refine G.load1B rfl rfl rfl ?_ | refine G.load1F rfl rfl ?_ | refine G.load1E rfl rfl (List.getElem?_eq_getElem (by first | omega | (simp only [List.length_map, List.length_append, List.length_cons, List.length_nil, List.length_replicate, List.length_take, List.length_drop, List.length_set]; omega))) rfl ?_ | refine G.load1EM rfl rfl (List.getElem?_eq_getElem (by first | omega | (simp only [List.length_map, List.length_append, List.length_cons, List.length_nil, List.length_replicate, List.length_take, List.length_drop, List.length_set]; omega))) rfl ?_
      first | refine G.faddrB rfl ?_ | refine G.faddrF rfl ?_ | refine G.faddrE rfl ?_
      first | refine G.load1B rfl rfl rfl ?_ | refine G.load1F rfl rfl ?_ | refine G.load1E rfl rfl (List.getElem?_eq_getElem (by first | omega | (simp only [List.length_map, List.length_append, List.length_cons, List.length_nil, List.length_replicate, List.length_take, List.length_drop, List.length_set]; omega))) rfl ?_ | refine G.load1EM rfl rfl (List.getElem?_eq_getElem (by first | omega | (simp only [List.length_map, List.length_append, List.length_cons, List.length_nil, List.length_replicate, List.length_take, List.length_drop, List.length_set]; omega))) rfl ?_
      first | refine G.faddrB rfl ?_ | refine G.faddrF rfl ?_ | refine G.faddrE rfl ?_
      first | refine G.load1B rfl rfl rfl ?_ | refine G.load1F rfl rfl ?_ | refine G.load1E rfl rfl (List.getElem?_eq_getElem (by first | omega | (simp only [List.length_map, List.length_append, List.length_cons, List.length_nil, List.length_replicate, List.length_take, List.length_drop, List.length_set]; omega))) rfl ?_ | refine G.load1EM rfl rfl (List.getElem?_eq_getElem (by first | omega | (simp only [List.length_map, List.length_append, List.length_cons, List.length_nil, List.length_replicate, List.length_take, List.length_drop, List.length_set]; omega))) rfl ?_
      first | refine G.faddrB rfl ?_ | refine G.faddrF rfl ?_ | refine G.faddrE rfl ?_
      first | refine G.load1B rfl rfl rfl ?_ | refine G.load1F rfl rfl ?_ | refine G.load1E rfl rfl (List.getElem?_eq_getElem (by first | omega | (simp only [List.length_map, List.length_append, List.length_cons, List.length_nil, List.length_replicate, List.length_take, List.length_drop, List.length_set]; omega))) rfl ?_ | refine G.load1EM rfl rfl (List.getElem?_eq_getElem (by first | omega | (simp only [List.length_map, List.length_append, List.length_cons, List.length_nil, List.length_replicate, List.length_take, List.length_drop, List.length_set]; omega))) rfl ?_
      first | refine G.convU .u8 rfl (by rw [wrap_u8]; omega) ?_ | refine G.convi rfl ?_
      first | refine G.convU .u8 rfl (by rw [wrap_u8]; omega) ?_ | refine G.convi rfl ?_
      first | refine G.convU .u8 rfl (by rw [wrap_u8]; omega) ?_ | refine G.convi rfl ?_
      first | refine G.convU .u8 rfl (by rw [wrap_u8]; omega) ?_ | refine G.convi rfl ?_
      first | refine G.convU .u8 rfl (by rw [wrap_u8]; omega) ?_ | refine G.convi rfl ?_
      first | refine G.convU .u8 rfl (by rw [wrap_u8]; omega) ?_ | refine G.convi rfl ?_
      first | refine G.convU .u8 rfl (by rw [wrap_u8]; omega) ?_ | refine G.convi rfl ?_
      first | refine G.convU .u8 rfl (by rw [wrap_u8]; omega) ?_ | refine G.convi rfl ?_
      refine G.bsliceF rfl rfl rfl ?_
      refine G.convbs rfl rfl rfl (fun _ h => by cases h) ?_
      refine G.ckcall0 rfl rfl rfl ((bytes_ok h11 [x, (fetch p pc).1] (by show 2 ≤ _; omega)).fz1) ?_
      rintro _ _ ⟨rfl, rfl⟩
      refine ⟨rfl, ?_⟩
      change WpOpsG _ _ (_ :: _) _ _
      refine G.convbs rfl rfl rfl (fun _ h => by cases h) ?_
      refine G.bin rfl rfl rfl ?_
      refine WpOpsG.nil ?_
      exact ⟨rfl, (by repeat (first | exact LLe.refl _ | refine LLe.cons rfl ?_)), (by repeat (first | exact HLe.refl _ | refine HLe.cons rfl ?_)), rfl⟩
    refine G.mv rfl ?_
    refine WpOpsG.nil ?_
    change WpG _ _ _ _ _
    refine WpG.ret ?_
    refine ⟨_, [], rfl, (hasP_le (by repeat (first | exact trivial | refine ⟨rfl, ?_⟩))), rfl, rfl, rfl, ?_⟩
    refine ⟨?_, rfl⟩
    show GV.v (.bool _) = GV.v (.bool true)
    simp only [b8_wrap]
    simp
theorem isaTells_ok {A : AProg} (hA : A.get 4 = some af4) (h8 : A.get 8 = some af8) (h9 : WpCallG A 9 [] [] (fun v H => v = .v (.bool true) ∧ H = [])) (h10 : A.get 10 = some af10) (h11 : A.get 11 = some af11) (h12 : A.get 12 = some af12) (h13 : A.get 13 = some af13) (h14 : A.get 14 = some af14) (h15 : A.get 15 = some af15) (h16 : A.get 16 = some af16) (h17 : A.get 17 = some af17) (h18 : A.get 18 = some af18) (h19 : A.get 19 = some af19) (h20 : A.get 20 = some af20) (h21 : A.get 21 = some af21) (p : List UInt8) (pc : Int) (x : Ins) (hl : p.length ≤ 2 ^ 60) (hpc : i64 pc)  : WpCallG A 4 [.fsl 1 (p.map encB), .v (.int .i64 pc), .agg (encI x)] [] (fun v H => v = .v (.bool true) ∧ H = []) := by
  unfold i64 at hpc
  have ha := and31 pc
  have hb := and7 pc
  refine WpCallG.intro hA rfl rfl ?_
  unfold af4
  change WpG _ _ _ _ _
  refine WpG.seq ?_
  refine WpG.reg ?_
  refine G.box (g := 10) rfl rfl rfl ?_
  refine G.mv rfl ?_
  refine WpOpsG.nil ?_
  change WpG _ _ _ _ _
  refine WpG.seq ?_
  refine WpG.reg ?_
  refine G.mv rfl ?_
  refine G.mv rfl ?_
  refine G.andK rfl rfl ?_
  refine G.call0 rfl rfl (rfetch_ok h10 p _ hl (by unfold i64; omega)) ?_
  rintro _ _ ⟨rfl, rfl⟩
  refine ⟨rfl, ?_⟩
  change WpOpsG _ _ (_ :: _) _ _
  refine G.mv rfl ?_
  refine G.ext rfl rfl ?_
  refine G.ext rfl rfl ?_
  refine G.box (g := 11) rfl rfl rfl ?_
  first | refine G.storeB rfl rfl rfl rfl rfl rfl ?_ | refine G.storeEM rfl rfl rfl (List.getElem?_eq_getElem (by first | omega | (simp only [List.length_map, List.length_append, List.length_cons, List.length_nil, List.length_replicate, List.length_take, List.length_drop, List.length_set]; omega))) rfl rfl rfl rfl rfl ?_
  refine G.mv rfl ?_
  refine WpOpsG.nil ?_
  change WpG _ _ _ _ _
  refine WpG.seq ?_
  refine WpG.reg ?_
  refine G.mv rfl ?_
  refine G.mv rfl ?_
  first | refine G.loadNB rfl rfl rfl ?_ | refine G.loadNF rfl rfl ?_ | refine G.loadNEM rfl rfl (List.getElem?_eq_getElem (by first | omega | (simp only [List.length_map, List.length_append, List.length_cons, List.length_nil, List.length_replicate, List.length_take, List.length_drop, List.length_set]; omega))) rfl ?_
  refine G.call0 rfl rfl (same_ok h8 h10 h11 h12 h13 h14 h15 h16 h17 h18 h19 h20 h21 p pc x hl (by unfold i64; omega)) ?_
  rintro _ _ ⟨rfl, rfl⟩
  refine ⟨rfl, ?_⟩
  change WpOpsG _ _ (_ :: _) _ _
  refine G.mv rfl ?_
  apply G.andS rfl rfl rfl rfl rfl rfl
  case hB =>
    intro hs1
    (try simp only [decide_eq_true_eq, decide_eq_false_iff_not, Bool.or_eq_true, Bool.and_eq_true, Bool.or_eq_false_iff, Bool.and_eq_false_iff, bne_iff_ne, beq_iff_eq, beq_eq_false_iff_ne, bne_eq_false_iff_eq, ne_eq, Bool.not_eq_true', Bool.not_eq_false', Int.not_lt, Int.not_le, Decidable.not_not, List.length_map, List.length_cons, List.length_nil] at hs1)
    refine G.mv rfl ?_
    refine G.mv rfl ?_
    refine G.andK rfl rfl ?_
    first | refine G.loadNB rfl rfl rfl ?_ | refine G.loadNF rfl rfl ?_ | refine G.loadNEM rfl rfl (List.getElem?_eq_getElem (by first | omega | (simp only [List.length_map, List.length_append, List.length_cons, List.length_nil, List.length_replicate, List.length_take, List.length_drop, List.length_set]; omega))) rfl ?_
    refine G.call0 rfl rfl (same_ok h8 h10 h11 h12 h13 h14 h15 h16 h17 h18 h19 h20 h21 p _ (fetch p (andI .i64 pc 31)).1 hl (by unfold i64; omega)) ?_
    rintro _ _ ⟨rfl, rfl⟩
    refine ⟨rfl, ?_⟩
    change WpOpsG _ _ (_ :: _) _ _
    refine WpOpsG.nil ?_
    exact ⟨rfl, (by repeat (first | exact LLe.refl _ | refine LLe.cons rfl ?_)), (by repeat (first | exact HLe.refl _ | refine HLe.cons rfl ?_)), rfl⟩
  refine G.mv rfl ?_
  apply G.andS rfl rfl rfl rfl rfl rfl
  case hB =>
    intro hs2
    (try simp only [decide_eq_true_eq, decide_eq_false_iff_not, Bool.or_eq_true, Bool.and_eq_true, Bool.or_eq_false_iff, Bool.and_eq_false_iff, bne_iff_ne, beq_iff_eq, beq_eq_false_iff_ne, bne_eq_false_iff_eq, ne_eq, Bool.not_eq_true', Bool.not_eq_false', Int.not_lt, Int.not_le, Decidable.not_not, List.length_map, List.length_cons, List.length_nil] at hs2)
    refine G.mv rfl ?_
    refine G.mv rfl ?_
    refine G.andK rfl rfl ?_
    first | refine G.mulI rfl rfl (by omega) ?_ | refine G.bin rfl rfl rfl ?_
    first | refine G.faddrB rfl ?_ | refine G.faddrF rfl ?_ | refine G.faddrE rfl ?_
    first | refine G.load1B rfl rfl rfl ?_ | refine G.load1F rfl rfl ?_ | refine G.load1E rfl rfl (List.getElem?_eq_getElem (by first | omega | (simp only [List.length_map, List.length_append, List.length_cons, List.length_nil, List.length_replicate, List.length_take, List.length_drop, List.length_set]; omega))) rfl ?_ | refine G.load1EM rfl rfl (List.getElem?_eq_getElem (by first | omega | (simp only [List.length_map, List.length_append, List.length_cons, List.length_nil, List.length_replicate, List.length_take, List.length_drop, List.length_set]; omega))) rfl ?_
    refine G.andK rfl rfl ?_
    first | refine G.faddrB rfl ?_ | refine G.faddrF rfl ?_ | refine G.faddrE rfl ?_
    first | refine G.load1B rfl rfl rfl ?_ | refine G.load1F rfl rfl ?_ | refine G.load1E rfl rfl (List.getElem?_eq_getElem (by first | omega | (simp only [List.length_map, List.length_append, List.length_cons, List.length_nil, List.length_replicate, List.length_take, List.length_drop, List.length_set]; omega))) rfl ?_ | refine G.load1EM rfl rfl (List.getElem?_eq_getElem (by first | omega | (simp only [List.length_map, List.length_append, List.length_cons, List.length_nil, List.length_replicate, List.length_take, List.length_drop, List.length_set]; omega))) rfl ?_
    refine G.andK rfl rfl ?_
    first | refine G.faddrB rfl ?_ | refine G.faddrF rfl ?_ | refine G.faddrE rfl ?_
    first | refine G.load1B rfl rfl rfl ?_ | refine G.load1F rfl rfl ?_ | refine G.load1E rfl rfl (List.getElem?_eq_getElem (by first | omega | (simp only [List.length_map, List.length_append, List.length_cons, List.length_nil, List.length_replicate, List.length_take, List.length_drop, List.length_set]; omega))) rfl ?_ | refine G.load1EM rfl rfl (List.getElem?_eq_getElem (by first | omega | (simp only [List.length_map, List.length_append, List.length_cons, List.length_nil, List.length_replicate, List.length_take, List.length_drop, List.length_set]; omega))) rfl ?_
    refine G.andK rfl rfl ?_
    first | refine G.faddrB rfl ?_ | refine G.faddrF rfl ?_ | refine G.faddrE rfl ?_
    first | refine G.load1B rfl rfl rfl ?_ | refine G.load1F rfl rfl ?_ | refine G.load1E rfl rfl (List.getElem?_eq_getElem (by first | omega | (simp only [List.length_map, List.length_append, List.length_cons, List.length_nil, List.length_replicate, List.length_take, List.length_drop, List.length_set]; omega))) rfl ?_ | refine G.load1EM rfl rfl (List.getElem?_eq_getElem (by first | omega | (simp only [List.length_map, List.length_append, List.length_cons, List.length_nil, List.length_replicate, List.length_take, List.length_drop, List.length_set]; omega))) rfl ?_
    refine G.andK rfl rfl ?_
    refine G.build rfl ?_
    refine G.call0 rfl rfl (same_ok h8 h10 h11 h12 h13 h14 h15 h16 h17 h18 h19 h20 h21 p _ ⟨_, _, _, _⟩ hl (by unfold i64; omega)) ?_
    rintro _ _ ⟨rfl, rfl⟩
    refine ⟨rfl, ?_⟩
    change WpOpsG _ _ (_ :: _) _ _
    refine WpOpsG.nil ?_
    exact ⟨rfl, (by repeat (first | exact LLe.refl _ | refine LLe.cons rfl ?_)), (by repeat (first | exact HLe.refl _ | refine HLe.cons rfl ?_)), rfl⟩
  refine G.mv rfl ?_
  apply G.andS rfl rfl rfl rfl rfl rfl
  case hB =>
    intro hs3
    (try simp only [decide_eq_true_eq, decide_eq_false_iff_not, Bool.or_eq_true, Bool.and_eq_true, Bool.or_eq_false_iff, Bool.and_eq_false_iff, bne_iff_ne, beq_iff_eq, beq_eq_false_iff_ne, bne_eq_false_iff_eq, ne_eq, Bool.not_eq_true', Bool.not_eq_false', Int.not_lt, Int.not_le, Decidable.not_not, List.length_map, List.length_cons, List.length_nil] at hs3)
    refine G.call0 rfl rfl (h9) ?_
    rintro _ _ ⟨rfl, rfl⟩
    refine ⟨rfl, ?_⟩
    change WpOpsG _ _ (_ :: _) _ _
    refine WpOpsG.nil ?_
    exact ⟨rfl, (by repeat (first | exact LLe.refl _ | refine LLe.cons rfl ?_)), (by repeat (first | exact HLe.refl _ | refine HLe.cons rfl ?_)), rfl⟩
  refine G.mv rfl ?_
  refine WpOpsG.nil ?_
  change WpG _ _ _ _ _
  refine WpG.ret ?_
  refine ⟨_, [], rfl, (hasP_le (by repeat (first | exact trivial | refine ⟨rfl, ?_⟩))), rfl, rfl, rfl, ?_⟩
  refine ⟨?_, rfl⟩
  show GV.v (.bool _) = GV.v (.bool true)
  simp
end Go.AM.L15
