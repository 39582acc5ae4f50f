/-
  JOINED: IlsL, O1, O2
-/
import Derived.Test.YtihhinbjhiankaaGreatDoorLawSetBP3
import Derived.Test.YtihhinbjhiankaaGreatDoorLawSetBP4
import Derived.Test.YtihhinbjhiankaaGreatDoorLawSetBP10
import Derived.Test.YtihhinbjhiankaaGreatDoorLawSetBP9
import Derived.Test.YtihhinbjhiankaaGreatDoorLawSetBP11
namespace Go.Proofs.YtihhinbjhiankaaGreatDoor.Al
open Go

def il315 : IFn := ⟨101, [(.t 4)], (.seq (.region [⟨(some 4), (.mv (.c (.bool false))), none, []⟩] false) (.seq (.region [⟨(some 13), (.call (.f 326) []), none, []⟩, ⟨(some 5), (.mv (.t 13)), none, [0, 0, 0]⟩] false) (.seq (.seq (.region [⟨(some 14), (.mv (.t 0)), none, []⟩, ⟨(some 15), (.len (.t 14)), none, [0]⟩, ⟨(some 16), (.bin false .gtr (.t 15) (.c (.int .i64 20000))), none, [1]⟩] false) (.cond (.t 16) (.seq (.region [⟨(some 17), (.mv (.t 5)), none, []⟩, ⟨(some 4), (.mv (.t 17)), none, [0, 0]⟩] false) .ret) .skip)) (.seq (.region [⟨(some 19), (.mv (.t 0)), none, []⟩, ⟨(some 20), (.call (.f 327) [(.t 19)]), none, [0]⟩, ⟨(some 18), (.mv (.t 20)), none, [1]⟩, ⟨(some 21), (.extract (.t 18) 0), none, [2]⟩, ⟨(some 22), (.extract (.t 18) 1), none, [2]⟩, ⟨(some 6), (.mv (.t 21)), none, [3, 1, 0, 1, 2, 3]⟩, ⟨(some 7), (.mv (.t 22)), none, [4, 5, 0, 1, 2, 3, 4, 5]⟩] false) (.seq (.seq (.region [⟨(some 23), (.mv (.t 7)), none, []⟩, ⟨(some 24), (.bin false .neq (.t 23) (.c (.int .i64 0))), none, [0]⟩] false) (.cond (.t 24) (.seq (.region [⟨(some 25), (.mv (.t 5)), none, []⟩, ⟨(some 26), (.mv (.t 25)), none, [0]⟩, ⟨(some 27), (.mv (.t 6)), (some (26, true)), [1]⟩, ⟨(some 28), (.len (.t 27)), (some (26, true)), [2, 1]⟩, ⟨(some 29), (.bin false .eql (.t 28) (.c (.int .i64 0))), (some (26, true)), [3, 1]⟩, ⟨(some 30), (.pick (.t 26) (.t 29) (.c (.bool false))), none, [1, 4]⟩, ⟨(some 4), (.mv (.t 30)), none, [5, 1, 0, 1, 2, 3, 4, 5]⟩] false) .ret) .skip)) (.seq (.region [⟨(some 31), (.bslice 1 0 (.int .u8 0) []), none, []⟩, ⟨(some 32), (.mv (.t 0)), none, []⟩, ⟨(some 33), (.append 1 1 (.t 31) (.t 32)), none, [0, 1]⟩, ⟨(some 8), (.mv (.t 33)), none, [2, 2, 0, 1, 2]⟩] false) (.seq (.region [⟨(some 34), (.mv (.t 8)), none, []⟩, ⟨(some 35), (.mv (.t 1)), none, []⟩, ⟨(some 36), (.bslice 1 1 (.int .u8 0) [(0, (.t 35))]), none, [1]⟩, ⟨(some 37), (.append 1 1 (.t 34) (.t 36)), none, [0, 2]⟩, ⟨(some 8), (.mv (.t 37)), none, [3, 3, 0, 1, 2, 3]⟩] false) (.seq (.region [⟨(some 39), (.mv (.t 8)), none, []⟩, ⟨(some 40), (.call (.f 327) [(.t 39)]), none, [0]⟩, ⟨(some 38), (.mv (.t 40)), none, [1]⟩, ⟨(some 41), (.extract (.t 38) 0), none, [2]⟩, ⟨(some 42), (.extract (.t 38) 1), none, [2]⟩, ⟨(some 9), (.mv (.t 41)), none, [3, 1, 0, 1, 2, 3]⟩, ⟨(some 10), (.mv (.t 42)), none, [4, 5, 0, 1, 2, 3, 4, 5]⟩] false) (.seq (.region [⟨(some 44), (.mv (.t 0)), none, []⟩, ⟨(some 45), (.mv (.t 0)), none, []⟩, ⟨(some 46), (.len (.t 45)), none, [1]⟩, ⟨(some 47), (.bin false .sub (.t 46) (.c (.int .i64 1))), none, [2]⟩, ⟨(some 48), (.slice 1 (.t 44) none (some (.t 47)) none), none, [0, 3]⟩, ⟨(some 49), (.call (.f 327) [(.t 48)]), none, [4]⟩, ⟨(some 43), (.mv (.t 49)), none, [5]⟩, ⟨(some 50), (.extract (.t 43) 0), none, [6]⟩, ⟨(some 51), (.extract (.t 43) 1), none, [6]⟩, ⟨(some 11), (.mv (.t 50)), none, [7, 5, 0, 1, 2, 3, 4, 5, 6, 7]⟩, ⟨(some 12), (.mv (.t 51)), none, [8, 9, 0, 1, 2, 3, 4, 5, 6, 7, 8, 9]⟩] false) (.seq (.region [⟨(some 52), (.mv (.t 5)), none, []⟩, ⟨(some 53), (.mv (.t 52)), none, [0]⟩, ⟨(some 54), (.mv (.t 6)), (some (53, true)), [1]⟩, ⟨(some 55), (.call (.f 101) [(.t 54)]), (some (53, true)), [2, 1, 1]⟩, ⟨(some 56), (.pick (.t 53) (.t 55) (.c (.bool false))), none, [1, 3]⟩, ⟨(some 57), (.mv (.t 56)), none, [4, 3]⟩, ⟨(some 58), (.mv (.t 6)), (some (57, true)), [5]⟩, ⟨(some 59), (.len (.t 58)), (some (57, true)), [6, 5]⟩, ⟨(some 60), (.bin false .gtr (.t 59) (.c (.int .i64 0))), (some (57, true)), [7, 5]⟩, ⟨(some 61), (.pick (.t 57) (.t 60) (.c (.bool false))), none, [5, 8]⟩, ⟨(some 62), (.mv (.t 61)), none, [9, 5]⟩, ⟨(some 63), (.mv (.t 6)), (some (62, true)), [10]⟩, ⟨(some 64), (.call (.f 329) [(.t 63)]), (some (62, true)), [11, 10, 10]⟩, ⟨(some 65), (.pick (.t 62) (.t 64) (.c (.bool false))), none, [10, 12]⟩, ⟨(some 66), (.mv (.t 65)), none, [13, 12]⟩, ⟨(some 67), (.mv (.t 6)), (some (66, true)), [14]⟩, ⟨(some 68), (.call (.f 103) [(.t 67)]), (some (66, true)), [15, 14, 14]⟩, ⟨(some 69), (.bin false .leq (.t 68) (.c (.int .i64 64))), (some (66, true)), [16, 14]⟩, ⟨(some 70), (.pick (.t 66) (.t 69) (.c (.bool false))), none, [14, 17]⟩, ⟨(some 71), (.mv (.t 70)), none, [18, 16]⟩, ⟨(some 72), (.mv (.t 6)), (some (71, true)), [19]⟩, ⟨(some 73), (.call (.f 331) [(.t 72)]), (some (71, true)), [20, 19, 19]⟩, ⟨(some 74), (.convS (.t 73)), (some (71, true)), [21, 19]⟩, ⟨(some 75), (.mv (.t 0)), (some (71, true)), [19]⟩, ⟨(some 76), (.convS (.t 75)), (some (71, true)), [23, 19]⟩, ⟨(some 77), (.bin false .eql (.t 74) (.t 76)), (some (71, true)), [22, 24, 19]⟩, ⟨(some 78), (.pick (.t 71) (.t 77) (.c (.bool false))), none, [19, 25]⟩, ⟨(some 79), (.mv (.t 78)), none, [26, 21]⟩, ⟨(some 80), (.mv (.t 6)), (some (79, true)), [27]⟩, ⟨(some 81), (.len (.t 80)), (some (79, true)), [28, 27]⟩, ⟨(some 82), (.bin false .eql (.t 81) (.c (.int .i64 1))), (some (79, true)), [29, 27]⟩, ⟨(some 83), (.mv (.t 82)), (some (79, true)), [30, 27, 27]⟩, ⟨(some 84), (.mv (.t 6)), (some (83, false)), [31]⟩, ⟨(some 85), (.call (.f 104) [(.t 84)]), (some (83, false)), [32, 31, 31]⟩, ⟨(some 86), (.mv (.t 6)), (some (83, false)), [31]⟩, ⟨(some 87), (.len (.t 86)), (some (83, false)), [34, 31]⟩, ⟨(some 88), (.call (.f 109) [(.t 87)]), (some (83, false)), [35, 33, 31]⟩, ⟨(some 89), (.bin false .sub (.t 88) (.c (.int .i64 1))), (some (83, false)), [36, 31]⟩, ⟨(some 90), (.bin false .gtr (.t 85) (.t 89)), (some (83, false)), [33, 37, 31]⟩, ⟨(some 91), (.pick (.t 83) (.c (.bool true)) (.t 90)), (some (79, true)), [31, 38, 27]⟩, ⟨(some 92), (.pick (.t 79) (.t 91) (.c (.bool false))), none, [27, 39]⟩, ⟨(some 93), (.mv (.t 92)), none, [40, 36]⟩, ⟨(some 94), (.mv (.t 10)), (some (93, true)), [41]⟩, ⟨(some 95), (.bin false .eql (.t 94) (.c (.int .i64 2))), (some (93, true)), [42, 41]⟩, ⟨(some 96), (.pick (.t 93) (.t 95) (.c (.bool false))), none, [41, 43]⟩, ⟨(some 97), (.mv (.t 96)), none, [44, 41]⟩, ⟨(some 98), (.mv (.t 12)), (some (97, true)), [45]⟩, ⟨(some 99), (.bin false .eql (.t 98) (.c (.int .i64 1))), (some (97, true)), [46, 45]⟩, ⟨(some 100), (.pick (.t 97) (.t 99) (.c (.bool false))), none, [45, 47]⟩, ⟨(some 4), (.mv (.t 100)), none, [48, 45, 0, 1, 2, 3, 4, 5, 6, 7, 8, 9, 10, 11, 12, 13, 14, 15, 16, 17, 18, 19, 20, 21, 22, 23, 24, 25, 26, 27, 28, 29, 30, 31, 32, 33, 34, 35, 36, 37, 38, 39, 40, 41, 42, 43, 44, 45, 46, 47, 48]⟩] true) .ret))))))))))⟩
theorem told315 : trFn seat 315 = some il315 := by kernel_rfl

def il316 : IFn := ⟨61, [(.t 2)], (.seq (.region [⟨(some 2), (.mv (.c (.bool false))), none, []⟩] false) (.seq (.region [⟨(some 8), (.call (.f 326) []), none, []⟩, ⟨(some 3), (.mv (.t 8)), none, [0, 0, 0]⟩] false) (.seq (.seq (.region [⟨(some 9), (.mv (.t 0)), none, []⟩, ⟨(some 10), (.call (.f 100) [(.t 9)]), none, [0]⟩, ⟨(some 11), (.un .not (.t 10)), none, [1]⟩, ⟨(some 12), (.mv (.t 11)), none, [2, 1]⟩, ⟨(some 13), (.mv (.t 0)), (some (12, false)), [3]⟩, ⟨(some 14), (.call (.f 101) [(.t 13)]), (some (12, false)), [4, 3, 3]⟩, ⟨(some 15), (.un .not (.t 14)), (some (12, false)), [5, 3]⟩, ⟨(some 16), (.pick (.t 12) (.c (.bool true)) (.t 15)), none, [3, 6]⟩] false) (.cond (.t 16) (.seq (.region [⟨(some 17), (.mv (.t 3)), none, []⟩, ⟨(some 2), (.mv (.t 17)), none, [0, 0]⟩] false) .ret) .skip)) (.seq (.region [⟨(some 19), (.mv (.t 0)), none, []⟩, ⟨(some 20), (.call (.f 107) [(.t 19)]), none, [0]⟩, ⟨(some 18), (.mv (.t 20)), none, [1]⟩, ⟨(some 21), (.extract (.t 18) 0), none, [2]⟩, ⟨(some 22), (.extract (.t 18) 1), none, [2]⟩, ⟨(some 4), (.mv (.t 21)), none, [3, 1, 0, 1, 2, 3]⟩, ⟨(some 5), (.mv (.t 22)), none, [4, 5, 0, 1, 2, 3, 4, 5]⟩] false) (.seq (.seq (.region [⟨(some 23), (.mv (.t 5)), none, []⟩, ⟨(some 24), (.bin false .neq (.t 23) (.c (.int .i64 0))), none, [0]⟩] false) (.cond (.t 24) (.seq (.region [⟨(some 25), (.mv (.t 3)), none, []⟩, ⟨(some 2), (.mv (.t 25)), none, [0, 0]⟩] false) .ret) .skip)) (.seq (.region [⟨(some 26), (.bslice 8 0 (.agg [(.int .i64 0), (.list true []), (.list true []), (.int .i64 0), (.list true []), (.list true []), (.list true []), (.list true [])]) []), none, []⟩, ⟨(some 27), (.mv (.t 0)), none, []⟩, ⟨(some 28), (.append 8 160 (.t 26) (.t 27)), none, [0, 1]⟩, ⟨(some 6), (.mv (.t 28)), none, [2, 2, 0, 1, 2]⟩] false) (.seq (.seq (.region [⟨(some 29), (.mv (.t 0)), none, []⟩, ⟨(some 30), (.call (.f 104) [(.t 29)]), none, [0]⟩, ⟨(some 31), (.bin false .add (.t 30) (.c (.int .i64 1))), none, [1]⟩, ⟨(some 7), (.mv (.t 31)), none, [2, 1, 0, 1, 2]⟩] false) (.block 0 (.loop (.seq (.seq (.region [⟨(some 32), (.mv (.t 7)), none, []⟩, ⟨(some 33), (.mv (.t 6)), none, []⟩, ⟨(some 34), (.len (.t 33)), none, [1]⟩, ⟨(some 35), (.bin false .lss (.t 32) (.t 34)), none, [0, 2]⟩] false) (.cond (.t 35) .skip (.exit 0))) (.seq (.block 1 (.region [⟨(some 38), (.mv (.t 6)), none, []⟩, ⟨(some 39), (.mv (.t 7)), none, []⟩, ⟨(some 40), (.build [(.int .i64 0), (.list true []), (.list true []), (.int .i64 0), (.list true []), (.list true []), (.list true []), (.list true [])] []), none, []⟩, ⟨(some 41), (.iaddr 8 (.t 38) (.t 39)), none, [0, 1, 0, 1, 2]⟩, ⟨none, (.store 8 (.t 41) (.t 40)), none, [3, 2, 0, 1, 2]⟩] false)) (.region [⟨(some 36), (.mv (.t 7)), none, []⟩, ⟨(some 37), (.bin false .add (.t 36) (.c (.int .i64 1))), none, [0]⟩, ⟨(some 7), (.mv (.t 37)), none, [1, 0, 1]⟩] false)))))) (.seq (.region [⟨(some 42), (.mv (.t 3)), none, []⟩, ⟨(some 43), (.mv (.t 42)), none, [0]⟩, ⟨(some 44), (.mv (.t 4)), (some (43, true)), [1]⟩, ⟨(some 45), (.call (.f 331) [(.t 44)]), (some (43, true)), [2, 1, 1]⟩, ⟨(some 46), (.convS (.t 45)), (some (43, true)), [3, 1]⟩, ⟨(some 47), (.mv (.t 0)), (some (43, true)), [1]⟩, ⟨(some 48), (.call (.f 331) [(.t 47)]), (some (43, true)), [5, 3, 1]⟩, ⟨(some 49), (.convS (.t 48)), (some (43, true)), [6, 1]⟩, ⟨(some 50), (.bin false .eql (.t 46) (.t 49)), (some (43, true)), [4, 7, 1]⟩, ⟨(some 51), (.pick (.t 43) (.t 50) (.c (.bool false))), none, [1, 8]⟩, ⟨(some 52), (.mv (.t 51)), none, [9, 6]⟩, ⟨(some 53), (.mv (.t 6)), (some (52, true)), [10]⟩, ⟨(some 54), (.call (.f 331) [(.t 53)]), (some (52, true)), [11, 10, 10]⟩, ⟨(some 55), (.convS (.t 54)), (some (52, true)), [12, 10]⟩, ⟨(some 56), (.mv (.t 0)), (some (52, true)), [10]⟩, ⟨(some 57), (.call (.f 331) [(.t 56)]), (some (52, true)), [14, 12, 10]⟩, ⟨(some 58), (.convS (.t 57)), (some (52, true)), [15, 10]⟩, ⟨(some 59), (.bin false .eql (.t 55) (.t 58)), (some (52, true)), [13, 16, 10]⟩, ⟨(some 60), (.pick (.t 52) (.t 59) (.c (.bool false))), none, [10, 17]⟩, ⟨(some 2), (.mv (.t 60)), none, [18, 15, 0, 1, 2, 3, 4, 5, 6, 7, 8, 9, 10, 11, 12, 13, 14, 15, 16, 17, 18]⟩] true) .ret))))))))⟩
theorem told316 : trFn seat 316 = some il316 := by kernel_rfl

def il317 : IFn := ⟨72, [(.t 2)], (.seq (.region [⟨(some 2), (.mv (.c (.bool false))), none, []⟩] false) (.seq (.region [⟨(some 9), (.call (.f 326) []), none, []⟩, ⟨(some 3), (.mv (.t 9)), none, [0, 0, 0]⟩] false) (.seq (.seq (.region [⟨(some 10), (.mv (.t 0)), none, []⟩, ⟨(some 11), (.call (.f 100) [(.t 10)]), none, [0]⟩, ⟨(some 12), (.un .not (.t 11)), none, [1]⟩, ⟨(some 13), (.mv (.t 12)), none, [2, 1]⟩, ⟨(some 14), (.mv (.t 0)), (some (13, false)), [3]⟩, ⟨(some 15), (.call (.f 101) [(.t 14)]), (some (13, false)), [4, 3, 3]⟩, ⟨(some 16), (.un .not (.t 15)), (some (13, false)), [5, 3]⟩, ⟨(some 17), (.pick (.t 13) (.c (.bool true)) (.t 16)), none, [3, 6]⟩] false) (.cond (.t 17) (.seq (.region [⟨(some 18), (.mv (.t 3)), none, []⟩, ⟨(some 2), (.mv (.t 18)), none, [0, 0]⟩] false) .ret) .skip)) (.seq (.region [⟨(some 4), (.mv (.c (.list true []))), none, []⟩] false) (.seq (.region [⟨(some 5), (.mv (.c (.bool false))), none, []⟩] false) (.seq (.seq (.region [⟨(some 6), (.mv (.c (.int .i64 0))), none, []⟩] false) (.block 0 (.loop (.seq (.seq (.region [⟨(some 19), (.mv (.t 6)), none, []⟩, ⟨(some 20), (.mv (.t 0)), none, []⟩, ⟨(some 21), (.len (.t 20)), none, [1]⟩, ⟨(some 22), (.bin false .lss (.t 19) (.t 21)), none, [0, 2]⟩] false) (.cond (.t 22) .skip (.exit 0))) (.seq (.block 1 (.seq (.region [⟨(some 25), (.mv (.t 4)), none, []⟩, ⟨(some 26), (.mv (.t 0)), none, []⟩, ⟨(some 27), (.mv (.t 6)), none, []⟩, ⟨(some 28), (.iaddr 8 (.t 26) (.t 27)), none, [1, 2]⟩, ⟨(some 29), (.faddr 5 (.t 28)), none, [3]⟩, ⟨(some 30), (.faddr 2 (.t 29)), none, [4]⟩, ⟨(some 31), (.load false 1 (.t 30)), none, [5]⟩, ⟨(some 32), (.append 1 8 (.t 25) (.t 31)), none, [0, 6]⟩, ⟨(some 4), (.mv (.t 32)), none, [7, 7, 0, 1, 2, 3, 4, 5, 6, 7]⟩] false) (.region [⟨(some 33), (.mv (.t 5)), none, []⟩, ⟨(some 34), (.mv (.t 33)), none, [0]⟩, ⟨(some 35), (.mv (.t 0)), (some (34, false)), [1]⟩, ⟨(some 36), (.mv (.t 6)), (some (34, false)), [1]⟩, ⟨(some 37), (.iaddr 8 (.t 35) (.t 36)), (some (34, false)), [2, 3, 1]⟩, ⟨(some 38), (.faddr 0 (.t 37)), (some (34, false)), [4, 1]⟩, ⟨(some 39), (.load false 1 (.t 38)), (some (34, false)), [5, 1]⟩, ⟨(some 40), (.bin false .eql (.t 39) (.c (.int .i64 2))), (some (34, false)), [6, 1]⟩, ⟨(some 41), (.pick (.t 34) (.c (.bool true)) (.t 40)), none, [1, 7]⟩, ⟨(some 5), (.mv (.t 41)), none, [8, 1, 0, 1, 2, 3, 4, 5, 6, 7, 8]⟩] false))) (.region [⟨(some 23), (.mv (.t 6)), none, []⟩, ⟨(some 24), (.bin false .add (.t 23) (.c (.int .i64 1))), none, [0]⟩, ⟨(some 6), (.mv (.t 24)), none, [1, 0, 1]⟩] false)))))) (.seq (.region [⟨(some 43), (.mv (.t 0)), none, []⟩, ⟨(some 44), (.call (.f 107) [(.t 43)]), none, [0]⟩, ⟨(some 42), (.mv (.t 44)), none, [1]⟩, ⟨(some 45), (.extract (.t 42) 0), none, [2]⟩, ⟨(some 46), (.extract (.t 42) 1), none, [2]⟩, ⟨(some 7), (.mv (.t 45)), none, [3, 1, 0, 1, 2, 3]⟩, ⟨(some 8), (.mv (.t 46)), none, [4, 5, 0, 1, 2, 3, 4, 5]⟩] false) (.seq (.region [⟨(some 47), (.mv (.t 3)), none, []⟩, ⟨(some 48), (.mv (.t 47)), none, [0]⟩, ⟨(some 49), (.mv (.t 5)), (some (48, true)), [1]⟩, ⟨(some 50), (.mv (.t 49)), (some (48, true)), [2, 1, 1]⟩, ⟨(some 51), (.mv (.t 0)), (some (50, false)), [3]⟩, ⟨(some 52), (.call (.f 329) [(.t 51)]), (some (50, false)), [4, 3, 3]⟩, ⟨(some 53), (.pick (.t 50) (.c (.bool true)) (.t 52)), (some (48, true)), [3, 5, 1]⟩, ⟨(some 54), (.pick (.t 48) (.t 53) (.c (.bool false))), none, [1, 6]⟩, ⟨(some 55), (.mv (.t 54)), none, [7, 5]⟩, ⟨(some 56), (.mv (.t 8)), (some (55, true)), [8]⟩, ⟨(some 57), (.bin false .neq (.t 56) (.c (.int .i64 0))), (some (55, true)), [9, 8]⟩, ⟨(some 58), (.mv (.t 57)), (some (55, true)), [10, 8, 8]⟩, ⟨(some 59), (.mv (.t 7)), (some (58, false)), [11]⟩, ⟨(some 60), (.call (.f 329) [(.t 59)]), (some (58, false)), [12, 11, 11]⟩, ⟨(some 61), (.mv (.t 0)), (some (58, false)), [11]⟩, ⟨(some 62), (.call (.f 329) [(.t 61)]), (some (58, false)), [14, 13, 11]⟩, ⟨(some 63), (.bin true .eql (.t 60) (.t 62)), (some (58, false)), [13, 15, 11]⟩, ⟨(some 64), (.pick (.t 58) (.c (.bool true)) (.t 63)), (some (55, true)), [11, 16, 8]⟩, ⟨(some 65), (.pick (.t 55) (.t 64) (.c (.bool false))), none, [8, 17]⟩, ⟨(some 66), (.mv (.t 65)), none, [18, 15]⟩, ⟨(some 67), (.mv (.t 0)), (some (66, true)), [19]⟩, ⟨(some 68), (.mv (.t 4)), (some (66, true)), [19]⟩, ⟨(some 69), (.call (.f 333) [(.t 67), (.t 68)]), (some (66, true)), [20, 21, 19, 19]⟩, ⟨(some 70), (.call (.f 329) [(.t 69)]), (some (66, true)), [22, 22, 19]⟩, ⟨(some 71), (.pick (.t 66) (.t 70) (.c (.bool false))), none, [19, 23]⟩, ⟨(some 2), (.mv (.t 71)), none, [24, 23, 0, 1, 2, 3, 4, 5, 6, 7, 8, 9, 10, 11, 12, 13, 14, 15, 16, 17, 18, 19, 20, 21, 22, 23, 24]⟩] false) .ret))))))))⟩
theorem told317 : trFn seat 317 = some il317 := by kernel_rfl

def il326 : IFn := ⟨56, [(.t 0)], (.seq (.region [⟨(some 0), (.mv (.c (.bool false))), none, []⟩] false) (.seq (.region [⟨(some 9), (.bslice 1 1 (.int .u8 0) [(0, (.c (.int .u8 7)))]), none, []⟩, ⟨(some 10), (.build [(.list true []), (.list true []), (.int .i64 0), (.list true [])] [(0, (1, (.t 9))), (2, (1, (.c (.int .i64 1))))]), none, [0]⟩, ⟨(some 11), (.build [(.int .i64 0), (.list true []), (.list true []), (.int .i64 0), (.list true []), (.list true []), (.list true []), (.list true [])] [(0, (1, (.c (.int .i64 1)))), (1, (4, (.t 10)))]), none, [1]⟩, ⟨(some 1), (.alloc [(.int .i64 0), (.list true []), (.list true []), (.int .i64 0), (.list true []), (.list true []), (.list true []), (.list true [])]), none, []⟩, ⟨none, (.store 8 (.t 1) (.t 11)), none, [3, 2, 0, 1, 2, 3]⟩] false) (.seq (.region [⟨(some 12), (.load true 8 (.t 1)), none, []⟩, ⟨(some 13), (.build [(.int .i64 0), (.list true []), (.list true []), (.int .i64 0), (.list true []), (.list true []), (.list true []), (.list true [])] []), none, []⟩, ⟨(some 14), (.load true 8 (.t 1)), none, []⟩, ⟨(some 15), (.bslice 8 3 (.agg [(.int .i64 0), (.list true []), (.list true []), (.int .i64 0), (.list true []), (.list true []), (.list true []), (.list true [])]) [(0, (.t 12)), (1, (.t 13)), (2, (.t 14))]), none, [0, 1, 2]⟩, ⟨(some 2), (.mv (.t 15)), none, [3, 0, 1, 2, 3]⟩] false) (.seq (.region [⟨(some 17), (.mv (.t 2)), none, []⟩, ⟨(some 18), (.call (.f 331) [(.t 17)]), none, [0]⟩, ⟨(some 19), (.call (.f 327) [(.t 18)]), none, [1, 1]⟩, ⟨(some 16), (.mv (.t 19)), none, [2]⟩, ⟨(some 20), (.extract (.t 16) 0), none, [3]⟩, ⟨(some 21), (.extract (.t 16) 1), none, [3]⟩, ⟨(some 3), (.mv (.t 20)), none, [4, 2, 0, 1, 2, 3, 4]⟩, ⟨(some 4), (.mv (.t 21)), none, [5, 6, 0, 1, 2, 3, 4, 5, 6]⟩] false) (.seq (.region [⟨(some 23), (.bslice 1 1 (.int .u8 0) [(0, (.c (.int .u8 0)))]), none, []⟩, ⟨(some 24), (.call (.f 327) [(.t 23)]), none, [0]⟩, ⟨(some 22), (.mv (.t 24)), none, [1]⟩, ⟨(some 25), (.extract (.t 22) 0), none, [2]⟩, ⟨(some 26), (.extract (.t 22) 1), none, [2]⟩, ⟨(some 5), (.mv (.t 25)), none, [3, 1, 0, 1, 2, 3]⟩, ⟨(some 6), (.mv (.t 26)), none, [4, 5, 0, 1, 2, 3, 4, 5]⟩] false) (.seq (.region [⟨(some 28), (.bslice 1 2 (.int .u8 0) [(0, (.c (.int .u8 1))), (1, (.c (.int .u8 0)))]), none, []⟩, ⟨(some 29), (.call (.f 327) [(.t 28)]), none, [0]⟩, ⟨(some 27), (.mv (.t 29)), none, [1]⟩, ⟨(some 30), (.extract (.t 27) 0), none, [2]⟩, ⟨(some 31), (.extract (.t 27) 1), none, [2]⟩, ⟨(some 7), (.mv (.t 30)), none, [3, 1, 0, 1, 2, 3]⟩, ⟨(some 8), (.mv (.t 31)), none, [4, 5, 0, 1, 2, 3, 4, 5]⟩] false) (.seq (.region [⟨(some 32), (.call (.f 331) [(.c (.list true []))]), none, []⟩, ⟨(some 33), (.convS (.t 32)), none, [0]⟩, ⟨(some 34), (.bin false .eql (.t 33) (.c (.str [0]))), none, [1]⟩, ⟨(some 35), (.mv (.t 34)), none, [2, 0]⟩, ⟨(some 36), (.mv (.t 4)), (some (35, true)), [3]⟩, ⟨(some 37), (.bin false .eql (.t 36) (.c (.int .i64 0))), (some (35, true)), [4, 3]⟩, ⟨(some 38), (.pick (.t 35) (.t 37) (.c (.bool false))), none, [3, 5]⟩, ⟨(some 39), (.mv (.t 38)), none, [6, 3]⟩, ⟨(some 40), (.mv (.t 3)), (some (39, true)), [7]⟩, ⟨(some 41), (.mv (.t 2)), (some (39, true)), [7]⟩, ⟨(some 42), (.call (.f 106) [(.t 40), (.t 41)]), (some (39, true)), [8, 9, 7, 7]⟩, ⟨(some 43), (.pick (.t 39) (.t 42) (.c (.bool false))), none, [7, 10]⟩, ⟨(some 44), (.mv (.t 43)), none, [11, 10]⟩, ⟨(some 45), (.mv (.t 6)), (some (44, true)), [12]⟩, ⟨(some 46), (.bin false .eql (.t 45) (.c (.int .i64 5))), (some (44, true)), [13, 12]⟩, ⟨(some 47), (.pick (.t 44) (.t 46) (.c (.bool false))), none, [12, 14]⟩, ⟨(some 48), (.mv (.t 47)), none, [15, 12]⟩, ⟨(some 49), (.mv (.t 8)), (some (48, true)), [16]⟩, ⟨(some 50), (.bin false .eql (.t 49) (.c (.int .i64 6))), (some (48, true)), [17, 16]⟩, ⟨(some 51), (.pick (.t 48) (.t 50) (.c (.bool false))), none, [16, 18]⟩, ⟨(some 52), (.mv (.t 51)), none, [19, 16]⟩, ⟨(some 53), (.mv (.t 2)), (some (52, true)), [20]⟩, ⟨(some 54), (.call (.f 329) [(.t 53)]), (some (52, true)), [21, 20, 20]⟩, ⟨(some 55), (.pick (.t 52) (.t 54) (.c (.bool false))), none, [20, 22]⟩, ⟨(some 0), (.mv (.t 55)), none, [23, 22, 0, 1, 2, 3, 4, 5, 6, 7, 8, 9, 10, 11, 12, 13, 14, 15, 16, 17, 18, 19, 20, 21, 22, 23]⟩] false) .ret)))))))⟩
theorem told326 : trFn seat 326 = some il326 := by kernel_rfl

def il327 : IFn := ⟨59, [(.cell 2 false 1), (.cell 3 false 1)], (.seq (.region [⟨(some 2), (.alloc [(.list true [])]), none, []⟩, ⟨(some 3), (.alloc [(.int .i64 0)]), none, []⟩] false) (.seq (.region [⟨(some 11), (.mv (.t 0)), none, []⟩, ⟨(some 12), (.call (.f 192) [(.t 11)]), none, [0]⟩, ⟨(some 10), (.mv (.t 12)), none, [1]⟩, ⟨(some 13), (.extract (.t 10) 0), none, [2]⟩, ⟨(some 14), (.extract (.t 10) 1), none, [2]⟩, ⟨(some 15), (.extract (.t 10) 2), none, [2]⟩, ⟨(some 4), (.mv (.t 13)), none, [3, 1, 0, 1, 2, 3]⟩, ⟨(some 5), (.mv (.t 14)), none, [4, 6, 0, 1, 2, 3, 4, 6]⟩, ⟨(some 6), (.mv (.t 15)), none, [5, 7, 0, 1, 2, 3, 4, 5, 6, 7]⟩] false) (.seq (.block 0 (.seq (.region [⟨(some 17), (.mv (.t 6)), none, []⟩, ⟨(some 18), (.bin false .neq (.t 17) (.c (.int .i64 0))), none, [0]⟩, ⟨(some 16), (.mv (.t 18)), none, [1]⟩] false) (.cond (.t 16) (.seq (.region [⟨(some 19), (.mv (.t 6)), none, []⟩, ⟨none, (.store 1 (.t 2) (.c (.list true []))), none, []⟩, ⟨none, (.store 1 (.t 3) (.t 19)), none, [0, 1, 0, 1]⟩] false) .ret) (.seq (.region [⟨(some 21), (.mv (.t 5)), none, []⟩, ⟨(some 22), (.len (.t 21)), none, [0]⟩, ⟨(some 23), (.bin false .gtr (.t 22) (.c (.int .i64 0))), none, [1]⟩, ⟨(some 20), (.mv (.t 23)), none, [2]⟩] false) (.cond (.t 20) (.seq (.region [⟨none, (.store 1 (.t 2) (.c (.list true []))), none, []⟩, ⟨none, (.store 1 (.t 3) (.c (.int .i64 2))), none, [0, 0]⟩] false) .ret) (.seq (.region [⟨(some 25), (.mv (.t 4)), none, []⟩, ⟨(some 26), (.len (.t 25)), none, [0]⟩, ⟨(some 27), (.bin false .eql (.t 26) (.c (.int .i64 0))), none, [1]⟩, ⟨(some 24), (.mv (.t 27)), none, [2]⟩] false) (.cond (.t 24) (.seq (.region [⟨none, (.store 1 (.t 2) (.c (.list true []))), none, []⟩, ⟨none, (.store 1 (.t 3) (.c (.int .i64 5))), none, [0, 0]⟩] false) .ret) .skip))))))) (.seq (.region [⟨(some 7), (.alloc [(.list true [])]), none, []⟩] false) (.seq (.seq (.region [⟨(some 28), (.mv (.t 4)), none, []⟩, ⟨(some 29), (.call (.f 343) [(.t 28)]), none, [0]⟩] false) (.block 1 (.rangeFunc (.t 29) [30, 31] (.seq (.region [⟨(some 8), (.alloc [(.int .i64 0), (.list true []), (.list true []), (.int .i64 0), (.list true []), (.list true []), (.list true []), (.list true [])]), none, []⟩, ⟨none, (.store 8 (.t 8) (.t 30)), none, [0, 0]⟩] false) (.region [⟨(some 9), (.mv (.t 31)), none, []⟩] false)) (.block 2 (.seq (.seq (.region [⟨(some 32), (.mv (.t 9)), none, []⟩, ⟨(some 33), (.bin false .neq (.t 32) (.c (.int .i64 0))), none, [0]⟩] false) (.cond (.t 33) (.seq (.region [⟨(some 34), (.mv (.t 9)), none, []⟩, ⟨none, (.store 1 (.t 2) (.c (.list true []))), none, []⟩, ⟨none, (.store 1 (.t 3) (.t 34)), none, [0, 1, 0, 1]⟩] false) .ret) .skip)) (.region [⟨(some 35), (.load false 1 (.t 7)), none, []⟩, ⟨(some 36), (.load true 8 (.t 8)), none, []⟩, ⟨(some 37), (.bslice 8 1 (.agg [(.int .i64 0), (.list true []), (.list true []), (.int .i64 0), (.list true []), (.list true []), (.list true []), (.list true [])]) [(0, (.t 36))]), none, [1]⟩, ⟨(some 38), (.append 8 160 (.t 35) (.t 37)), none, [0, 2]⟩, ⟨none, (.store 1 (.t 7) (.t 38)), none, [3, 3, 0, 1, 2, 3]⟩] false)))))) (.seq (.seq (.region [⟨(some 39), (.load false 1 (.t 7)), none, []⟩, ⟨(some 40), (.load false 1 (.t 7)), none, []⟩, ⟨(some 41), (.len (.t 40)), none, [1]⟩, ⟨(some 42), (.bin false .sub (.t 41) (.c (.int .i64 1))), none, [2]⟩, ⟨(some 43), (.iaddr 8 (.t 39) (.t 42)), none, [0, 3]⟩, ⟨(some 44), (.faddr 0 (.t 43)), none, [4]⟩, ⟨(some 45), (.load false 1 (.t 44)), none, [5]⟩, ⟨(some 46), (.bin false .eql (.t 45) (.c (.int .i64 0))), none, [6]⟩] false) (.cond (.t 46) (.seq (.region [⟨none, (.store 1 (.t 2) (.c (.list true []))), none, []⟩, ⟨none, (.store 1 (.t 3) (.c (.int .i64 6))), none, [0, 0]⟩] false) .ret) .skip)) (.seq (.block 3 (.loop (.seq (.seq (.region [⟨(some 47), (.load false 1 (.t 7)), none, []⟩, ⟨(some 48), (.len (.t 47)), none, [0]⟩, ⟨(some 49), (.call (.f 125) [(.t 48)]), none, [1]⟩, ⟨(some 50), (.un .not (.t 49)), none, [2]⟩] false) (.cond (.t 50) .skip (.exit 3))) (.block 4 (.region [⟨(some 51), (.load false 1 (.t 7)), none, []⟩, ⟨(some 52), (.build [(.int .i64 0), (.list true []), (.list true []), (.int .i64 0), (.list true []), (.list true []), (.list true []), (.list true [])] []), none, []⟩, ⟨(some 53), (.bslice 8 1 (.agg [(.int .i64 0), (.list true []), (.list true []), (.int .i64 0), (.list true []), (.list true []), (.list true []), (.list true [])]) [(0, (.t 52))]), none, [1]⟩, ⟨(some 54), (.append 8 160 (.t 51) (.t 53)), none, [0, 2]⟩, ⟨none, (.store 1 (.t 7) (.t 54)), none, [3, 3, 0, 1, 2, 3]⟩] false))))) (.seq (.seq (.region [⟨(some 55), (.load false 1 (.t 7)), none, []⟩, ⟨(some 56), (.call (.f 329) [(.t 55)]), none, [0]⟩, ⟨(some 57), (.un .not (.t 56)), none, [1]⟩] false) (.cond (.t 57) (.seq (.region [⟨none, (.store 1 (.t 2) (.c (.list true []))), none, []⟩, ⟨none, (.store 1 (.t 3) (.c (.int .i64 8))), none, [0, 0]⟩] false) .ret) .skip)) (.seq (.region [⟨(some 58), (.load false 1 (.t 7)), none, []⟩, ⟨none, (.store 1 (.t 2) (.t 58)), none, [0, 0]⟩, ⟨none, (.store 1 (.t 3) (.c (.int .i64 0))), none, [1, 0, 1]⟩] false) .ret)))))))))⟩
theorem told327 : trFn seat 327 = some il327 := by kernel_rfl

def il329 : IFn := ⟨20, [(.t 2)], (.seq (.region [⟨(some 1), (.box (.t 0)), none, []⟩, ⟨(some 2), (.mv (.c (.bool false))), none, []⟩] false) (.seq (.region [⟨(some 5), (.load false 1 (.t 1)), none, []⟩, ⟨(some 6), (.call (.f 344) [(.t 5)]), none, [0]⟩, ⟨none, (.store 1 (.t 1) (.t 6)), none, [1, 1, 0, 1]⟩] false) (.seq (.seq (.region [⟨(some 7), (.load false 1 (.t 1)), none, []⟩, ⟨(some 8), (.len (.t 7)), none, [0]⟩, ⟨(some 9), (.mv (.c (.int .i64 0))), none, []⟩] false) (.block 0 (.loop (.seq (.region [⟨(some 10), (.bin false .lss (.t 9) (.t 8)), none, []⟩] false) (.seq (.cond (.t 10) .skip (.exit 0)) (.seq (.block 1 (.seq (.region [⟨(some 11), (.mv (.t 9)), none, []⟩, ⟨(some 12), (.iaddr 8 (.t 7) (.t 9)), none, []⟩, ⟨(some 13), (.load true 8 (.t 12)), none, [1]⟩, ⟨(some 3), (.alloc [(.int .i64 0)]), none, []⟩, ⟨(some 4), (.alloc [(.int .i64 0), (.list true []), (.list true []), (.int .i64 0), (.list true []), (.list true []), (.list true []), (.list true [])]), none, []⟩, ⟨none, (.store 1 (.t 3) (.t 11)), none, [3, 0, 0, 1, 2, 3, 4]⟩, ⟨none, (.store 8 (.t 4) (.t 13)), none, [4, 2, 5, 0, 1, 2, 3, 4, 5]⟩] false) (.seq (.region [⟨(some 14), (.faddr 5 (.t 4)), none, []⟩, ⟨(some 15), (.faddr 2 (.t 14)), none, [0]⟩, ⟨(some 16), (.load false 1 (.t 15)), none, [1]⟩, ⟨(some 17), (.mkfunc 345 [] [(.t 1), (.t 3)]), none, []⟩, ⟨(some 18), (.call (.f 162) [(.t 16), (.t 17)]), none, [2, 3]⟩] false) (.cond (.t 18) (.seq (.region [⟨(some 2), (.mv (.c (.bool false))), none, []⟩] false) .ret) .skip)))) (.region [⟨(some 19), (.bin false .add (.t 9) (.c (.int .i64 1))), none, []⟩, ⟨(some 9), (.mv (.t 19)), none, [0]⟩] false))))))) (.seq (.region [⟨(some 2), (.mv (.c (.bool true))), none, []⟩] false) .ret))))⟩
theorem told329 : trFn seat 329 = some il329 := by kernel_rfl

def il331 : IFn := ⟨24, [(.t 2)], (.seq (.region [⟨(some 2), (.mv (.c (.list true []))), none, []⟩] false) (.seq (.region [⟨(some 6), (.mv (.t 0)), none, []⟩, ⟨(some 7), (.call (.f 344) [(.t 6)]), none, [0]⟩, ⟨(some 0), (.mv (.t 7)), none, [1, 1, 0, 1]⟩] false) (.seq (.region [⟨(some 3), (.mv (.c (.list true []))), none, []⟩] false) (.seq (.seq (.region [⟨(some 8), (.mv (.t 0)), none, []⟩, ⟨(some 9), (.mv (.t 0)), none, []⟩, ⟨(some 10), (.call (.f 104) [(.t 9)]), none, [1]⟩, ⟨(some 11), (.bin false .add (.t 10) (.c (.int .i64 1))), none, [2]⟩, ⟨(some 12), (.slice 8 (.t 8) none (some (.t 11)) none), none, [0, 3]⟩, ⟨(some 13), (.len (.t 12)), none, [4]⟩, ⟨(some 14), (.mv (.c (.int .i64 0))), none, []⟩] false) (.block 0 (.loop (.seq (.region [⟨(some 15), (.bin false .lss (.t 14) (.t 13)), none, []⟩] false) (.seq (.cond (.t 15) .skip (.exit 0)) (.seq (.block 1 (.seq (.region [⟨(some 16), (.iaddr 8 (.t 12) (.t 14)), none, []⟩, ⟨(some 17), (.load true 8 (.t 16)), none, [0]⟩, ⟨(some 5), (.alloc [(.int .i64 0), (.list true []), (.list true []), (.int .i64 0), (.list true []), (.list true []), (.list true []), (.list true [])]), none, []⟩, ⟨none, (.store 8 (.t 5) (.t 17)), none, [2, 1, 0, 1, 2]⟩] false) (.region [⟨(some 18), (.mv (.t 3)), none, []⟩, ⟨(some 19), (.load true 8 (.t 5)), none, []⟩, ⟨(some 20), (.call (.f 188) [(.t 18), (.t 19)]), none, [0, 1]⟩, ⟨(some 3), (.mv (.t 20)), none, [2, 2, 0, 1, 2]⟩] false))) (.region [⟨(some 21), (.bin false .add (.t 14) (.c (.int .i64 1))), none, []⟩, ⟨(some 14), (.mv (.t 21)), none, [0]⟩] false))))))) (.seq (.region [⟨(some 22), (.mv (.t 3)), none, []⟩, ⟨(some 23), (.call (.f 198) [(.c (.list true [])), (.t 22)]), none, [0]⟩, ⟨(some 2), (.mv (.t 23)), none, [1, 1, 0, 1]⟩] false) .ret)))))⟩
theorem told331 : trFn seat 331 = some il331 := by kernel_rfl

def il333 : IFn := ⟨42, [(.t 4)], (.seq (.region [⟨(some 4), (.mv (.c (.list true []))), none, []⟩] false) (.seq (.region [⟨(some 6), (.mv (.t 0)), none, []⟩, ⟨(some 7), (.call (.f 348) [(.t 6)]), none, [0]⟩, ⟨(some 8), (.call (.f 129) [(.t 7)]), none, [1, 1]⟩, ⟨(some 0), (.mv (.t 8)), none, [2, 2, 0, 1, 2]⟩] false) (.seq (.seq (.region [⟨(some 9), (.mv (.t 0)), none, []⟩, ⟨(some 10), (.len (.t 9)), none, [0]⟩, ⟨(some 11), (.mv (.c (.int .i64 0))), none, []⟩] false) (.block 0 (.loop (.seq (.region [⟨(some 12), (.bin false .lss (.t 11) (.t 10)), none, []⟩] false) (.seq (.cond (.t 12) .skip (.exit 0)) (.seq (.block 1 (.seq (.region [⟨(some 13), (.mv (.t 11)), none, []⟩, ⟨(some 5), (.mv (.t 13)), none, [0, 0]⟩] false) (.seq (.seq (.region [⟨(some 14), (.mv (.t 5)), none, []⟩, ⟨(some 15), (.bin false .rem (.t 14) (.c (.int .i64 2))), none, [0]⟩, ⟨(some 16), (.bin false .eql (.t 15) (.c (.int .i64 0))), none, [1]⟩, ⟨(some 17), (.mv (.t 16)), none, [2]⟩, ⟨(some 18), (.mv (.t 1)), (some (17, true)), [3]⟩, ⟨(some 19), (.mv (.t 5)), (some (17, true)), [3]⟩, ⟨(some 20), (.bin false .quo (.t 19) (.c (.int .i64 2))), (some (17, true)), [5, 3]⟩, ⟨(some 21), (.call (.f 204) [(.t 18), (.t 20)]), (some (17, true)), [4, 6, 3, 3]⟩, ⟨(some 22), (.pick (.t 17) (.t 21) (.c (.bool false))), none, [3, 7]⟩] false) (.cond (.t 22) (.region [⟨(some 23), (.mv (.t 0)), none, []⟩, ⟨(some 24), (.mv (.t 5)), none, []⟩, ⟨(some 25), (.build [(.int .i64 0), (.list true []), (.list true []), (.int .i64 0), (.list true []), (.list true []), (.list true []), (.list true [])] []), none, []⟩, ⟨(some 26), (.iaddr 8 (.t 23) (.t 24)), none, [0, 1, 0, 1, 2]⟩, ⟨none, (.store 8 (.t 26) (.t 25)), none, [3, 2, 0, 1, 2]⟩] false) .skip)) (.region [⟨(some 27), (.mv (.t 0)), none, []⟩, ⟨(some 28), (.mv (.t 5)), none, []⟩, ⟨(some 29), (.mv (.t 0)), none, []⟩, ⟨(some 30), (.mv (.t 5)), none, []⟩, ⟨(some 31), (.iaddr 8 (.t 29) (.t 30)), none, [2, 3]⟩, ⟨(some 32), (.faddr 5 (.t 31)), none, [4]⟩, ⟨(some 33), (.faddr 2 (.t 32)), none, [5]⟩, ⟨(some 34), (.load false 1 (.t 33)), none, [6]⟩, ⟨(some 35), (.mv (.t 1)), none, []⟩, ⟨(some 36), (.call (.f 186) [(.t 34), (.t 35)]), none, [7, 8]⟩, ⟨(some 37), (.iaddr 8 (.t 27) (.t 28)), none, [0, 1, 0, 1, 2, 3, 4, 5, 6, 7, 8, 9]⟩, ⟨(some 38), (.faddr 5 (.t 37)), none, [10, 0, 1, 2, 3, 4, 5, 6, 7, 8, 9]⟩, ⟨(some 39), (.faddr 2 (.t 38)), none, [11, 0, 1, 2, 3, 4, 5, 6, 7, 8, 9]⟩, ⟨none, (.store 1 (.t 39) (.t 36)), none, [12, 9, 9, 0, 1, 2, 3, 4, 5, 6, 7, 8, 9]⟩] false)))) (.region [⟨(some 40), (.bin false .add (.t 11) (.c (.int .i64 1))), none, []⟩, ⟨(some 11), (.mv (.t 40)), none, [0]⟩] false))))))) (.seq (.region [⟨(some 41), (.mv (.t 0)), none, []⟩, ⟨(some 4), (.mv (.t 41)), none, [0, 0]⟩] false) .ret))))⟩
theorem told333 : trFn seat 333 = some il333 := by kernel_rfl

def il343 : IFn := ⟨4, [(.t 2)], (.seq (.region [⟨(some 1), (.box (.t 0)), none, []⟩, ⟨(some 2), (.mv (.c .nilfunc)), none, []⟩] false) (.seq (.region [⟨(some 3), (.mkfunc 352 [] [(.t 1)]), none, []⟩, ⟨(some 2), (.mv (.t 3)), none, [0, 0]⟩] false) .ret))⟩
theorem told343 : trFn seat 343 = some il343 := by kernel_rfl

def il344 : IFn := ⟨6, [(.t 2)], (.seq (.region [⟨(some 2), (.mv (.c (.list true []))), none, []⟩] false) (.seq (.seq (.region [⟨(some 3), (.mv (.t 0)), none, []⟩, ⟨(some 4), (.call (.f 101) [(.t 3)]), none, [0]⟩] false) (.cond (.t 4) (.seq (.region [⟨(some 5), (.mv (.t 0)), none, []⟩, ⟨(some 2), (.mv (.t 5)), none, [0, 0]⟩] false) .ret) .skip)) (.seq (.region [⟨(some 2), (.mv (.c (.list true []))), none, []⟩] false) .ret)))⟩
theorem told344 : trFn seat 344 = some il344 := by kernel_rfl

def il345 : IFn := ⟨10, [(.t 4)], (.seq (.region [⟨(some 4), (.mv (.c (.bool false))), none, []⟩] false) (.seq (.region [⟨(some 5), (.load false 1 (.t 1)), none, []⟩, ⟨(some 6), (.load false 1 (.t 2)), none, []⟩, ⟨(some 7), (.mv (.t 0)), none, []⟩, ⟨(some 8), (.call (.f 346) [(.t 5), (.t 6), (.t 7)]), none, [0, 1, 2]⟩, ⟨(some 9), (.un .not (.t 8)), none, [3]⟩, ⟨(some 4), (.mv (.t 9)), none, [4, 3, 0, 1, 2, 3, 4]⟩] false) .ret))⟩
theorem told345 : trFn seat 345 = some il345 := by kernel_rfl

def il346 : IFn := ⟨56, [(.t 6)], (.seq (.region [⟨(some 6), (.mv (.c (.bool false))), none, []⟩] false) (.seq (.seq (.region [⟨(some 9), (.mv (.t 2)), none, []⟩, ⟨(some 10), (.bin false .mul (.c (.int .i64 2)) (.t 9)), none, [0]⟩, ⟨(some 11), (.mv (.t 1)), none, []⟩, ⟨(some 12), (.mv (.t 0)), none, []⟩, ⟨(some 13), (.len (.t 12)), none, [3]⟩, ⟨(some 14), (.call (.f 255) [(.t 10), (.t 11), (.t 13)]), none, [1, 2, 4]⟩, ⟨(some 15), (.un .not (.t 14)), none, [5]⟩, ⟨(some 16), (.mv (.t 15)), none, [6, 5]⟩, ⟨(some 17), (.mv (.t 0)), (some (16, false)), [7]⟩, ⟨(some 18), (.mv (.t 2)), (some (16, false)), [7]⟩, ⟨(some 19), (.bin false .mul (.c (.int .i64 2)) (.t 18)), (some (16, false)), [9, 7]⟩, ⟨(some 20), (.iaddr 8 (.t 17) (.t 19)), (some (16, false)), [8, 10, 7]⟩, ⟨(some 21), (.faddr 0 (.t 20)), (some (16, false)), [11, 7]⟩, ⟨(some 22), (.load false 1 (.t 21)), (some (16, false)), [12, 7]⟩, ⟨(some 23), (.bin false .eql (.t 22) (.c (.int .i64 0))), (some (16, false)), [13, 7]⟩, ⟨(some 24), (.pick (.t 16) (.c (.bool true)) (.t 23)), none, [7, 14]⟩] false) (.cond (.t 24) (.seq (.region [⟨(some 6), (.mv (.c (.bool false))), none, []⟩] false) .ret) .skip)) (.seq (.seq (.region [⟨(some 25), (.mv (.t 2)), none, []⟩, ⟨(some 26), (.bin false .mul (.c (.int .i64 2)) (.t 25)), none, [0]⟩, ⟨(some 27), (.mv (.t 0)), none, []⟩, ⟨(some 28), (.len (.t 27)), none, [2]⟩, ⟨(some 29), (.call (.f 263) [(.t 26), (.t 28)]), none, [1, 3]⟩, ⟨(some 30), (.len (.t 29)), none, [4]⟩, ⟨(some 31), (.mv (.c (.int .i64 0))), none, []⟩] false) (.block 0 (.loop (.seq (.region [⟨(some 32), (.bin false .lss (.t 31) (.t 30)), none, []⟩] false) (.seq (.cond (.t 32) .skip (.exit 0)) (.seq (.block 1 (.seq (.region [⟨(some 33), (.iaddr 1 (.t 29) (.t 31)), none, []⟩, ⟨(some 34), (.load false 1 (.t 33)), none, [0]⟩, ⟨(some 8), (.mv (.t 34)), none, [1, 0, 1]⟩] false) (.seq (.seq (.region [⟨(some 35), (.mv (.t 8)), none, []⟩, ⟨(some 36), (.mv (.t 1)), none, []⟩, ⟨(some 37), (.bin false .eql (.t 35) (.t 36)), none, [0, 1]⟩] false) (.cond (.t 37) (.exit 0) .skip)) (.seq (.region [⟨(some 38), (.mv (.t 0)), none, []⟩, ⟨(some 39), (.mv (.t 8)), none, []⟩, ⟨(some 40), (.iaddr 8 (.t 38) (.t 39)), none, [0, 1]⟩, ⟨(some 41), (.faddr 0 (.t 40)), none, [2]⟩, ⟨(some 42), (.load false 1 (.t 41)), none, [3]⟩, ⟨(some 43), (.bin false .eql (.t 42) (.c (.int .i64 2))), none, [4]⟩, ⟨(some 44), (.mv (.t 43)), none, [5]⟩, ⟨(some 45), (.mv (.t 0)), (some (44, true)), [6]⟩, ⟨(some 46), (.mv (.t 8)), (some (44, true)), [6]⟩, ⟨(some 47), (.iaddr 8 (.t 45) (.t 46)), (some (44, true)), [7, 8, 6]⟩, ⟨(some 48), (.faddr 5 (.t 47)), (some (44, true)), [9, 6]⟩, ⟨(some 49), (.faddr 2 (.t 48)), (some (44, true)), [10, 6]⟩, ⟨(some 50), (.load false 1 (.t 49)), (some (44, true)), [11, 6]⟩, ⟨(some 51), (.mv (.t 2)), (some (44, true)), [6]⟩, ⟨(some 52), (.call (.f 204) [(.t 50), (.t 51)]), (some (44, true)), [12, 13, 6, 6]⟩, ⟨(some 53), (.un .not (.t 52)), (some (44, true)), [14, 6]⟩, ⟨(some 54), (.pick (.t 44) (.t 53) (.c (.bool false))), none, [6, 15]⟩] false) (.cond (.t 54) (.seq (.region [⟨(some 6), (.mv (.c (.bool false))), none, []⟩] false) .ret) .skip))))) (.region [⟨(some 55), (.bin false .add (.t 31) (.c (.int .i64 1))), none, []⟩, ⟨(some 31), (.mv (.t 55)), none, [0]⟩] false))))))) (.seq (.region [⟨(some 6), (.mv (.c (.bool true))), none, []⟩] false) .ret))))⟩
theorem told346 : trFn seat 346 = some il346 := by kernel_rfl

def il348 : IFn := ⟨6, [(.t 2)], (.seq (.region [⟨(some 2), (.mv (.c (.list true []))), none, []⟩] false) (.seq (.seq (.region [⟨(some 3), (.mv (.t 0)), none, []⟩, ⟨(some 4), (.call (.f 101) [(.t 3)]), none, [0]⟩] false) (.cond (.t 4) (.seq (.region [⟨(some 5), (.mv (.t 0)), none, []⟩, ⟨(some 2), (.mv (.t 5)), none, [0, 0]⟩] false) .ret) .skip)) (.seq (.region [⟨(some 2), (.mv (.c (.list true []))), none, []⟩] false) .ret)))⟩
theorem told348 : trFn seat 348 = some il348 := by kernel_rfl

def il352 : IFn := ⟨42, [], (.seq (.region [⟨(some 3), (.mv (.c (.int .i64 0))), none, []⟩] false) (.block 0 (.loop (.seq (.seq (.region [⟨(some 8), (.load false 1 (.t 1)), none, []⟩, ⟨(some 9), (.len (.t 8)), none, [0]⟩, ⟨(some 10), (.bin false .gtr (.t 9) (.c (.int .i64 0))), none, [1]⟩] false) (.cond (.t 10) .skip (.exit 0))) (.seq (.block 1 (.seq (.seq (.region [⟨(some 13), (.mv (.t 3)), none, []⟩, ⟨(some 14), (.bin false .eql (.t 13) (.c (.int .i64 127))), none, [0]⟩] false) (.cond (.t 14) (.seq (.region [⟨(some 15), (.mv (.t 0)), none, []⟩, ⟨(some 16), (.build [(.int .i64 0), (.list true []), (.list true []), (.int .i64 0), (.list true []), (.list true []), (.list true []), (.list true [])] []), none, []⟩, ⟨(some 17), (.call (.t 15) [(.t 16), (.c (.int .i64 10))]), none, [0, 1]⟩] false) .ret) .skip)) (.seq (.region [⟨(some 19), (.load false 1 (.t 1)), none, []⟩, ⟨(some 20), (.call (.f 189) [(.t 19)]), none, [0]⟩, ⟨(some 18), (.mv (.t 20)), none, [1]⟩, ⟨(some 21), (.extract (.t 18) 0), none, [2]⟩, ⟨(some 22), (.extract (.t 18) 1), none, [2]⟩, ⟨(some 23), (.extract (.t 18) 2), none, [2]⟩, ⟨(some 4), (.alloc [(.int .i64 0), (.list true []), (.list true []), (.int .i64 0), (.list true []), (.list true []), (.list true []), (.list true [])]), none, []⟩, ⟨none, (.store 8 (.t 4) (.t 21)), none, [6, 3, 1, 0, 1, 2, 3, 6]⟩, ⟨(some 5), (.mv (.t 22)), none, [4, 7, 0, 1, 2, 3, 4, 6, 7]⟩, ⟨(some 6), (.mv (.t 23)), none, [5, 8, 0, 1, 2, 3, 4, 5, 6, 7, 8]⟩] false) (.seq (.seq (.region [⟨(some 24), (.build [(.int .i64 0), (.int .i64 0)] [(0, (1, (.c (.int .i64 2)))), (1, (1, (.c (.int .i64 1))))]), none, []⟩, ⟨(some 25), (.mv (.t 3)), none, []⟩, ⟨(some 26), (.bin false .rem (.t 25) (.c (.int .i64 2))), none, [1]⟩, ⟨(some 27), (.idxA false 2 1 (.t 24) (.t 26)), none, [0, 2]⟩, ⟨(some 7), (.mv (.t 27)), none, [3, 0, 1, 2, 3]⟩] false) (.seq (.region [⟨(some 28), (.mv (.t 6)), none, []⟩, ⟨(some 29), (.bin false .eql (.t 28) (.c (.int .i64 0))), none, [0]⟩, ⟨(some 30), (.mv (.t 29)), none, [1]⟩, ⟨(some 31), (.faddr 0 (.t 4)), (some (30, true)), [2]⟩, ⟨(some 32), (.load false 1 (.t 31)), (some (30, true)), [3, 2]⟩, ⟨(some 33), (.mv (.t 7)), (some (30, true)), [2]⟩, ⟨(some 34), (.bin false .eql (.t 32) (.t 33)), (some (30, true)), [4, 5, 2]⟩, ⟨(some 35), (.pick (.t 30) (.t 34) (.c (.bool false))), none, [2, 6]⟩] false) (.cond (.t 35) (.region [⟨(some 6), (.mv (.c (.int .i64 7))), none, []⟩] false) .skip))) (.seq (.seq (.region [⟨(some 36), (.mv (.t 0)), none, []⟩, ⟨(some 37), (.load true 8 (.t 4)), none, []⟩, ⟨(some 38), (.mv (.t 6)), none, []⟩, ⟨(some 39), (.call (.t 36) [(.t 37), (.t 38)]), none, [0, 1, 2]⟩, ⟨(some 40), (.un .not (.t 39)), none, [3]⟩] false) (.cond (.t 40) .ret .skip)) (.region [⟨(some 41), (.mv (.t 5)), none, []⟩, ⟨none, (.store 1 (.t 1) (.t 41)), none, [0, 0]⟩] false)))))) (.region [⟨(some 11), (.mv (.t 3)), none, []⟩, ⟨(some 12), (.bin false .add (.t 11) (.c (.int .i64 1))), none, [0]⟩, ⟨(some 3), (.mv (.t 12)), none, [1, 0, 1]⟩] false))))))⟩
theorem told352 : trFn seat 352 = some il352 := by kernel_rfl

end Go.Proofs.YtihhinbjhiankaaGreatDoor.Al

set_option linter.unusedSimpArgs false
set_option linter.unusedVariables false
namespace Go.Proofs.YtihhinbjhiankaaGreatDoor.Al
open Go
attribute [local go_sem] W_mv W_pick W_alloc W_box W_build W_bslice W_load W_store W_bin W_isnil W_un W_convI W_convS W_mkiface W_mkfunc W_slice W_faddr W_iaddr W_idxA W_extract W_len W_min W_max W_append W_appendZ W_clear W_invoke thenQ_normal thenQ_exit thenQ_goto thenQ_ret blockQ_normal blockQ_ret blockQ_goto blockQ_exit wpc_skip wpc_region wpc_draw wpc_seq wpc_cond wpc_block wpc_exit wpc_goto wpc_label wpc_ret wpc_loop wpc_range wpc_scope condW_true condW_false condW_dec condW_any W_nil W_call resW_some evalOp Opd.ev updo_envL updo_none setL_cons setL_nil envL_cons Option.map_some Option.bind_some evBin evInt List.map_cons List.map_nil Option.pure_def Option.bind_eq_bind W_grd' grdW_tt grdW_ff grdW_tf grdW_ft grdW_tup grdW_dt grdW_df lgrdW_tup L_mv L_load L_bin L_un L_faddr L_iaddr L_nil L_call lresW_some upd_envL evUn beq_dec bne_dec leaves_ret1 leaves_ret0 leaves_end0 rowLen_ints load_iptr0 not_dec heap_get0 heap_get1 heap_set0 heap_set1 heap_len1 heap_app bslice1_int seen_ints seen_one0 bslice0_int Nat.sub_zero Bool.not_true Bool.not_false List.length_nil List.length_cons List.nil_append List.cons_append Nat.zero_add load_iptrA canon_ptrI canon_bool canon_tup canon_agg canon_ints' canon_ints0 rowLen_ints1 rowLen_octs seen_octs canon_octs' seen_intss seen_octss rowLen_nodes seen_nodes canon_nodes' rowLen_nodes3 seen_list cells_int oneIn_int cells_bool oneIn_bool cells_str oneIn_str cells_list oneIn_list cells_func oneIn_func cells_nilfunc oneIn_nilfunc cells_iptr oneIn_iptr cells_iface oneIn_iface cells_nilIface oneIn_nilIface cells_own cells_ptr cells_anybool oneIn_anybool cells_agg oneIn_own0 oneIn_own1 seenL1 seenM1 oneIn_ptr2 seenL2 oneIn_own3 seenL3 cells_ints oneIn_ints cells_octs oneIn_octs cells_intss oneIn_intss cells_octss oneIn_octss cells_nodes oneIn_nodes ldB0 ldA0 adB0 stB0 ldB1 ldA1 adB1 stB1 ldB2 ldA2 adB2 stB2 ldB3 ldA3 adB3 stB3 ldB4 ldA4 adB4 stB4 ldB5 ldA5 adB5 stB5 List.getElem?_cons_zero List.getElem?_cons_succ beq_self_eq_true splice List.take_zero List.take_succ_cons List.drop_zero List.drop_succ_cons List.append_nil List.set_cons_zero List.set_cons_succ List.all_cons List.all_nil Bool.and_self and_self and_true true_and Nat.lt_irrefl Nat.zero_lt_one Nat.le_refl fillA evNil notA Bool.false_eq_true evMin_int evMax_int Option.map_none freezeP_all_nil freezeP_all_cons frzE_box frzE_arr frzE_dead foldA List.foldlM_cons List.foldlM_nil callW_f lcallW_f ansW_fn ansW_own lansW_fn lansW_own ansW_none lansW_none tab_cons tab_nil dI_int dB_bool dO_octs dO_ints dO_list dO_nil dOs_nil dN_nodeA dLf_agg dIn_agg dN_agg dNs_nodes dNs_nil isI_int isB_bool isO_octs isO_nil isO_list isS_ints isS_nil isNs_nodes isNs_nil isN_nodeA isLf_agg isIn_agg isN_agg leaf_eta inner_eta node_eta leaf_zero inner_zero node_zero dP_agg isP_agg patch_eta decide_eq_true_eq decide_eq_false_iff_not eq_self forall_const true_implies false_implies Bool.not_eq_true' Bool.not_eq_false' Bool.true_eq_false implies_true ne_eq ldI ldIA adI AV.tup.injEq AV.agg.injEq List.cons.injEq AV.int.injEq AV.bool.injEq nodes_inj octs_inj ints_inj nil_nodes nil_octs nil_ints canon_nilL decide_eq_decide two_ne four_ne lendA_fn lendA_own lendA_none llendA_fn llendA_none false_and and_false Q_nil Q_l Q_g Q_h Q_grd qgrdW_b qgrdW_tup lightD_some heavyD_some readD_some fnD_some fnD_own fnD_none callL_f ownH_some litD_some litE_some Q_call Q_bslice H_call pendOk_nil pendOk_cons pastOk_nil pastOk_cons Q_mv Q_pick Q_bin Q_un Q_convI Q_mkfunc Q_extract Q_min Q_max Q_lenS Q_lenA Q_field Q_idxA Q_mkiface Q_tassert Q_alloc Q_box Q_store Q_mkslice Q_append Q_appendZ Q_copy Q_clear Q_build Q_load Q_nilck Q_isnil Q_convS Q_slice Q_faddr Q_iaddr Q_iaddrA Q_len H_alloc H_box H_bslice H_store H_mkslice H_append H_appendZ H_copy H_clear free_mv free_pick free_bin free_un free_convI free_mkfunc free_extract free_min free_max free_lenS free_lenA free_field free_idxA free_mkiface free_tassert free_build free_load free_nilck free_isnil free_convS free_slice free_faddr free_iaddr free_iaddrA free_len callW_y List.length_map List.length_set leaves_r evR_some evRess1 evRess2 evRess3 evRes_t evRes_c nz_kind nz_enc nz_cred nz_source nz_parent nz_ienc nz_hash nz_un true_or or_true bsl_node appI appO ixo_nodes canon_rowI canon_rowO not_false_eq_true not_true_eq_false ldE_a ldE_c adE_b stE_b onE_a onP_b bsl_zero
attribute [local go_sem low] condW_b grdW_b lgrdW_b ldP adP stP onO onPt
attribute [local simp] envL_cons envL_nil idb_int idb_bool idb_ints idb_nil idb_own idb_ptr idb_octs idb_nodes idb_leafA idb_innerA idb_nodeA idb_agg idb_tup idb_iptr idb_fn entB_dead entB_box
theorem tw_stop {α : Type} {q p : α → Bool} : ∀ (D : List α) (k : Nat) (hk : k < D.length), (∀ j (h : j < D.length), j < k → p D[j] = true) → q D[k] = false → (D.takeWhile q).all p = true
  | [], k, hk, _, _ => by simp at hk
  | a :: D, 0, hk, _, hq => by
    simp only [List.getElem_cons_zero] at hq
    rw [List.takeWhile_cons, hq]; rfl
  | a :: D, k + 1, hk, h, hq => by
    have h0 := h 0 (by simp) (by omega)
    simp only [List.getElem_cons_zero] at h0
    have ih := tw_stop (q := q) (p := p) D k (by simpa using hk) (fun j hj hlt => by
      have := h (j + 1) (by simpa using hj) (by omega)
      simpa using this) (by simpa using hq)
    rw [List.takeWhile_cons]
    split
    · rw [List.all_cons, h0, ih]; rfl
    · rfl
theorem tw_bad {α : Type} {q p : α → Bool} : ∀ (D : List α) (k : Nat) (hk : k < D.length), (∀ j (h : j < D.length), j ≤ k → q D[j] = true) → p D[k] = false → (D.takeWhile q).all p = false
  | [], k, hk, _, _ => by simp at hk
  | a :: D, 0, hk, h, hp => by
    have h0 := h 0 (by simp) (by omega)
    simp only [List.getElem_cons_zero] at h0 hp
    rw [List.takeWhile_cons, if_pos h0, List.all_cons, hp]; rfl
  | a :: D, k + 1, hk, h, hp => by
    have h0 := h 0 (by simp) (by omega)
    simp only [List.getElem_cons_zero] at h0
    have ih := tw_bad (q := q) (p := p) D k (by simpa using hk) (fun j hj hlt => by
      have := h (j + 1) (by simpa using hj) (by omega)
      simpa using this) (by simpa using hp)
    rw [List.takeWhile_cons, if_pos h0, List.all_cons, ih, Bool.and_false]
theorem tw_end {α : Type} {q p : α → Bool} {D : List α} (h : ∀ j (hj : j < D.length), p D[j] = true) : (D.takeWhile q).all p = true := by
  refine List.all_eq_true.2 fun x hx => ?_
  obtain ⟨j, hj, rfl⟩ := List.getElem_of_mem ((List.takeWhile_sublist q).subset hx)
  exact h j hj

theorem oknown_spec (t : List Node) (ht : Tree.Ok t) : Fun seat 344 [nodes t] (nodes (known t)) := by
  unfold known
  by_cases h : Sane t
  · rw [if_pos h]
    refine Fun.of0R [r101] told344 (by simp [il344]) (by simp [idb_patchA]) (by simp [idb_patchA]) 4 ?_
    simp -implicitDefEqProofs only [il344, List.zipIdx_cons, List.zipIdx_nil, leafA, innerA, nodeA, patchA, Leaf.cells, Inner.cells, Node.cells, r101_c, r101_ask, decide_true, decide_false, ht, h, go_sem, Nat.reduceEqDiff, reduceIte, Nat.reduceAdd, Nat.reduceLeDiff, Nat.reduceLT, Nat.reduceSub]
  · rw [if_neg h]
    refine Fun.of0R [r101] told344 (by simp [il344]) (by simp [idb_patchA]) (by simp [idb_patchA]) 4 ?_
    simp -implicitDefEqProofs only [il344, List.zipIdx_cons, List.zipIdx_nil, leafA, innerA, nodeA, patchA, Leaf.cells, Inner.cells, Node.cells, r101_c, r101_ask, decide_true, decide_false, ht, h, go_sem, Nat.reduceEqDiff, reduceIte, Nat.reduceAdd, Nat.reduceLeDiff, Nat.reduceLT, Nat.reduceSub]
    try rfl
noncomputable def r344 : Reg seat := .of told344 (ask1 (fun a0' => isNs a0' ∧ Tree.Ok (dNs a0')) fun a0' => .fn (nodes (known (dNs a0')))) (ask1_ok fun a0' h => SaidOk.fn (Fun.weak (.cons (isNs.weak h.1) .nil) (oknown_spec _ h.2)))
theorem r344_c : r344.c = 344 := rfl
open Classical in
theorem r344_ask (a0' : AV) : r344.ask [a0'] = if isNs a0' ∧ Tree.Ok (dNs a0') then some (Said.fn (nodes (known (dNs a0')))) else none := by unfold r344 Reg.of ask1; exact ite_cl

/-- Is an inner node on the way up, of which a leaf is not unmerged? -/
def badI (t : List Node) (i y : Int) : Bool := decide ((nodeAt t y.toNat).kind = 2) && !(nodeAt t y.toNat).inner.unmerged.contains i
theorem namedB_eq (t : List Node) (x i : Int) (h : x ∈ ups (2 * i) t.length) (hk : (nodeAt t (2 * i).toNat).kind ≠ 0) : namedB t x i = ((directI (2 * i) t.length).takeWhile fun y => decide (y ≠ x)).all fun y => !badI t i y := by
  unfold namedB badI
  simp [h, hk]
theorem namedB_not (t : List Node) (x i : Int) (h : ¬ x ∈ ups (2 * i) t.length) : namedB t x i = false := by
  unfold namedB; simp [h]
theorem namedB_blank (t : List Node) (x i : Int) (h : (nodeAt t (2 * i).toNat).kind = 0) : namedB t x i = false := by
  unfold namedB; simp [h]
theorem unm_small {n : Node} (h : n.Ok) : Small n.inner.unmerged := h.inner.unmerged.1
set_option maxHeartbeats 2000000 in
theorem onamed_spec (t : List Node) (x i : Int) (ht : Tree.Ok t) (h7 : t.length ≤ 127) (hi : 0 ≤ i ∧ i ≤ 63) : Fun seat 346 [nodes t, .int .i64 x, .int .i64 i] (.bool (namedB t x i)) := by
  obtain ⟨k, rfl⟩ : ∃ k : Nat, i = k := ⟨i.toNat, by omega⟩
  have w1 : IntKind.i64.wrap (2 * (k : Int)) = 2 * (k : Int) := wrap64 _ (by omega) (by omega)
  have c1 : (2 * (k : Int)) = ((2 * k : Nat) : Int) := by omega
  by_cases hu : x ∈ ups (2 * (k : Int)) t.length
  rotate_left
  · rw [namedB_not _ _ _ hu]
    refine Fun.of0R [r255] told346 (by simp [il346]) (by simp [idb_patchA]) (by simp [idb_patchA]) 4 ?_
    simp -implicitDefEqProofs only [il346, List.zipIdx_cons, List.zipIdx_nil, leafA, innerA, nodeA, patchA, Leaf.cells, Inner.cells, Node.cells, r255_c, r255_ask, decide_true, decide_false, w1, hu, not_false_eq_true, go_sem, Nat.reduceEqDiff, reduceIte, Nat.reduceAdd, Nat.reduceLeDiff, Nat.reduceLT, Nat.reduceSub]
  have hN : IsN (2 * (k : Int)) t.length := by
    refine Classical.byContradiction fun h => ?_
    rw [ups_not h] at hu; cases hu
  have hkl : 2 * k < t.length := by have := hN.2; omega
  by_cases hb : t[2 * k].kind = 0
  · rw [namedB_blank _ _ _ (by rw [c1, Int.toNat_natCast, nodeAt_lt hkl]; exact hb)]
    rw [c1] at w1 hu
    refine Fun.of0R [r255] told346 (by simp [il346]) (by simp [idb_patchA]) (by simp [idb_patchA]) 4 ?_
    simp -implicitDefEqProofs only [il346, List.zipIdx_cons, List.zipIdx_nil, leafA, innerA, nodeA, patchA, Leaf.cells, Inner.cells, Node.cells, r255_c, r255_ask, decide_true, decide_false, w1, hu, c1, not_true_eq_false, fun H => ix_nodes H t (2 * k) hkl, hb, go_sem, Nat.reduceEqDiff, reduceIte, Nat.reduceAdd, Nat.reduceLeDiff, Nat.reduceLT, Nat.reduceSub]
  rw [namedB_eq _ _ _ hu (by rw [c1, Int.toNat_natCast, nodeAt_lt hkl]; exact hb)]
  have hD : ∀ y ∈ directI (2 * (k : Int)) t.length, IsN y t.length := fun y hy => ups_is (direct_ups hy)
  have hDl : (directI (2 * (k : Int)) t.length).length ≤ 7 := by have := ups_len (2 * (k : Int)) t.length; unfold directI; rw [List.length_tail]; omega
  obtain ⟨D, hDe⟩ : ∃ D, directI (2 * (k : Int)) t.length = D := ⟨_, rfl⟩
  rw [hDe] at hD hDl ⊢
  rw [c1] at hDe
  obtain ⟨B, hB⟩ : ∃ B, ((D.takeWhile fun y => decide (y ≠ x)).all fun y => !badI t k y) = B := ⟨_, rfl⟩
  rw [hB]
  refine Fun.of0W told346 (by simp [il346]) (by simp ) (by simp ) 4 ?_
  simp only [il346, List.zipIdx_cons, List.zipIdx_nil]
  refine WP.seqR [] fun K hK => ?_
  simp -implicitDefEqProofs only [leafA, innerA, nodeA, patchA, Leaf.cells, Inner.cells, Node.cells, decide_true, decide_false, go_sem, Nat.reduceEqDiff, reduceIte, Nat.reduceAdd, Nat.reduceLeDiff, Nat.reduceLT, Nat.reduceSub]
  refine hK _ ?_
  clear hK K
  refine WP.seqR [r255] fun K hK => ?_
  rw [c1] at w1 hu
  simp -implicitDefEqProofs only [leafA, innerA, nodeA, patchA, Leaf.cells, Inner.cells, Node.cells, r255_c, r255_ask, decide_true, decide_false, w1, c1, hu, not_true_eq_false, fun H => ix_nodes H t (2 * k) hkl, hb, go_sem, Nat.reduceEqDiff, reduceIte, Nat.reduceAdd, Nat.reduceLeDiff, Nat.reduceLT, Nat.reduceSub]
  refine hK _ ?_
  clear hK K
  refine WP.seqR [r263] fun K hK => ?_
  simp -implicitDefEqProofs only [leafA, innerA, nodeA, patchA, Leaf.cells, Inner.cells, Node.cells, r263_c, r263_ask, decide_true, decide_false, w1, c1, hDe, go_sem, Nat.reduceEqDiff, reduceIte, Nat.reduceAdd, Nat.reduceLeDiff, Nat.reduceLT, Nat.reduceSub]
  refine WP.weakL [(0, nodes t), (1, .int .i64 x), (2, .int .i64 k), (29, ints D), (30, .int .i64 (D.length : Nat)), (31, .int .i64 0)] ?_ ?_
  · simp only [envL_cons, Nat.reduceEqDiff, reduceIte, List.mem_cons, List.not_mem_nil, or_false, forall_eq_or_imp, forall_eq, weak_refl, and_self]
  refine WP.loop0 (fun j => j ≤ D.length ∧ ∀ q (h : q < D.length), q < j → D[q] ≠ x ∧ badI t k D[q] = false) (fun j => [(0, nodes t), (1, .int .i64 x), (2, .int .i64 k), (29, ints D), (30, .int .i64 (D.length : Nat)), (31, .int .i64 (j : Nat))]) (fun j => D.length - j) 0 ⟨Nat.zero_le _, fun q _ h => absurd h (Nat.not_lt_zero q)⟩ (fun j _ => by simp ) (by simp ) ?_
  rintro j ⟨hj, hno⟩
  refine wpc_soundR [r204] ?_
  by_cases hlt : (j : Int) < (D.length : Nat)
  · have hj' : j < D.length := by omega
    by_cases hx : D[j] = x
    · obtain rfl : B = true := hB.symm.trans (tw_stop D j hj' (fun q h hq => by rw [(hno q h hq).2]; rfl) (by simp [hx]))
      simp -implicitDefEqProofs only [leafA, innerA, nodeA, patchA, Leaf.cells, Inner.cells, Node.cells, r204_c, r204_ask, decide_true, decide_false, hlt, fun H => index_ints H D j hj', eq_true hx, go_sem, Nat.reduceEqDiff, reduceIte, Nat.reduceAdd, Nat.reduceLeDiff, Nat.reduceLT, Nat.reduceSub]
      refine hK _ ?_
      refine wpc_soundR [] ?_
      simp -implicitDefEqProofs only [leafA, innerA, nodeA, patchA, Leaf.cells, Inner.cells, Node.cells, decide_true, decide_false, go_sem, Nat.reduceEqDiff, reduceIte, Nat.reduceAdd, Nat.reduceLeDiff, Nat.reduceLT, Nat.reduceSub]
    have hN2 := hD _ (List.getElem_mem hj')
    obtain ⟨p, hp⟩ : ∃ p : Nat, D[j] = p := ⟨D[j].toNat, by have := hN2.2; omega⟩
    rw [hp] at hN2 hx
    have hpt : p < t.length := by have := hN2.2; omega
    have us := unm_small (ht.2 _ (List.getElem_mem hpt))
    by_cases hk2 : t[p].kind = 2
    · by_cases hc : t[p].inner.unmerged.contains (k : Int) = true
      · have hb2 : badI t k D[j] = false := by unfold badI; rw [hp, Int.toNat_natCast, nodeAt_lt hpt, hc]; simp
        simp -implicitDefEqProofs only [leafA, innerA, nodeA, patchA, Leaf.cells, Inner.cells, Node.cells, r204_c, r204_ask, decide_true, decide_false, hlt, fun H => index_ints H D j hj', hp, hx, fun H => ix_nodes H t p hpt, eq_true hk2, us, hc, not_true_eq_false, go_sem, Nat.reduceEqDiff, reduceIte, Nat.reduceAdd, Nat.reduceLeDiff, Nat.reduceLT, Nat.reduceSub]
        refine ⟨j + 1, ⟨by omega, fun q h hq => ?_⟩, by omega, by simp [wrapS (show j < 9223372036854775807 by omega)]⟩
        by_cases e : q = j
        · subst e; exact ⟨by rw [hp]; exact hx, hb2⟩
        · exact hno q h (by omega)
      · have hb2 : badI t k D[j] = true := by unfold badI; rw [hp, Int.toNat_natCast, nodeAt_lt hpt]; simp [hk2]; simpa using hc
        have hc' : t[p].inner.unmerged.contains (k : Int) = false := by simpa using hc
        obtain rfl : B = false := hB.symm.trans (tw_bad D j hj' (fun q h hq => by
          by_cases e : q = j
          · subst e; rw [hp]; simp [hx]
          · simp [(hno q h (by omega)).1]) (by rw [hb2]; rfl))
        simp -implicitDefEqProofs only [leafA, innerA, nodeA, patchA, Leaf.cells, Inner.cells, Node.cells, r204_c, r204_ask, decide_true, decide_false, hlt, fun H => index_ints H D j hj', hp, hx, fun H => ix_nodes H t p hpt, eq_true hk2, us, hc', not_false_eq_true, go_sem, Nat.reduceEqDiff, reduceIte, Nat.reduceAdd, Nat.reduceLeDiff, Nat.reduceLT, Nat.reduceSub]
    · have hb2 : badI t k D[j] = false := by unfold badI; rw [hp, Int.toNat_natCast, nodeAt_lt hpt]; simp [hk2]
      simp -implicitDefEqProofs only [leafA, innerA, nodeA, patchA, Leaf.cells, Inner.cells, Node.cells, r204_c, r204_ask, decide_true, decide_false, hlt, fun H => index_ints H D j hj', hp, hx, fun H => ix_nodes H t p hpt, hk2, go_sem, Nat.reduceEqDiff, reduceIte, Nat.reduceAdd, Nat.reduceLeDiff, Nat.reduceLT, Nat.reduceSub]
      refine ⟨j + 1, ⟨by omega, fun q h hq => ?_⟩, by omega, by simp [wrapS (show j < 9223372036854775807 by omega)]⟩
      by_cases e : q = j
      · subst e; exact ⟨by rw [hp]; exact hx, hb2⟩
      · exact hno q h (by omega)
  · obtain rfl : B = true := hB.symm.trans (tw_end fun q h => by rw [(hno q h (by omega)).2]; rfl)
    simp -implicitDefEqProofs only [leafA, innerA, nodeA, patchA, Leaf.cells, Inner.cells, Node.cells, r204_c, r204_ask, decide_true, decide_false, hlt, go_sem, Nat.reduceEqDiff, reduceIte, Nat.reduceAdd, Nat.reduceLeDiff, Nat.reduceLT, Nat.reduceSub]
    refine hK _ ?_
    refine wpc_soundR [] ?_
    simp -implicitDefEqProofs only [leafA, innerA, nodeA, patchA, Leaf.cells, Inner.cells, Node.cells, decide_true, decide_false, go_sem, Nat.reduceEqDiff, reduceIte, Nat.reduceAdd, Nat.reduceLeDiff, Nat.reduceLT, Nat.reduceSub]
noncomputable def r346 : Reg seat := .of told346 (ask3 (fun a0' a1' a2' => isNs a0' ∧ isI a1' ∧ isI a2' ∧ Tree.Ok (dNs a0') ∧ (dNs a0').length ≤ 127 ∧ 0 ≤ (dI a2') ∧ (dI a2') ≤ 63) fun a0' a1' a2' => .fn (.bool (namedB (dNs a0') (dI a1') (dI a2')))) (ask3_ok fun a0' a1' a2' h => SaidOk.fn (Fun.weak (.cons (isNs.weak h.1) (.cons (isI.weak h.2.1) (.cons (isI.weak h.2.2.1) .nil))) (onamed_spec _ _ _ h.2.2.2.1 h.2.2.2.2.1 h.2.2.2.2.2)))
theorem r346_c : r346.c = 346 := rfl
open Classical in
theorem r346_ask (a0' a1' a2' : AV) : r346.ask [a0', a1', a2'] = if isNs a0' ∧ isI a1' ∧ isI a2' ∧ Tree.Ok (dNs a0') ∧ (dNs a0').length ≤ 127 ∧ 0 ≤ (dI a2') ∧ (dI a2') ≤ 63 then some (Said.fn (.bool (namedB (dNs a0') (dI a1') (dI a2')))) else none := by unfold r346 Reg.of ask3; exact ite_cl
theorem notNamed_spec (t : List Node) (x i : Int) (ht : Tree.Ok t) (h7 : t.length ≤ 127) (hi : 0 ≤ i ∧ i ≤ 63) : Fun seat 345 [.int .i64 i, .iptr [nodes t] 0, .iptr [.int .i64 x] 0] (.bool (!namedB t x i)) := by
  refine Fun.of0R [r346] told345 (by simp [il345]) (by simp [idb_patchA]) (by simp [idb_patchA]) 4 ?_
  simp -implicitDefEqProofs only [il345, List.zipIdx_cons, List.zipIdx_nil, leafA, innerA, nodeA, patchA, Leaf.cells, Inner.cells, Node.cells, r346_c, r346_ask, decide_true, decide_false, ht, h7, hi, go_sem, Nat.reduceEqDiff, reduceIte, Nat.reduceAdd, Nat.reduceLeDiff, Nat.reduceLT, Nat.reduceSub]

theorem namedK_at {t : List Node} {k : Nat} (h : ∀ x, x < k → ((nodeAt t x).inner.unmerged.any fun i => !namedB t x i) = false) (hk : k = t.length) : NamedK t := by
  subst hk
  intro x hx i hi
  have := h x hx
  rw [Bool.eq_false_iff] at this
  refine Classical.byContradiction fun hn => this (List.any_eq_true.2 ⟨i, hi, ?_⟩)
  simpa using hn
theorem namedK_not {t : List Node} {k : Nat} (hk : k < t.length) (h : ((nodeAt t k).inner.unmerged.any fun i => !namedB t k i) = true) : ¬ NamedK t := by
  intro hn
  obtain ⟨i, hi, hb⟩ := List.any_eq_true.1 h
  rw [hn k hk i hi] at hb
  cases hb
theorem unm_in {t : List Node} (hs : Sane t) {x : Nat} (hx : x < t.length) {i : Int} (hi : i ∈ t[x].inner.unmerged) : 0 ≤ i ∧ i ≤ 63 := by
  have hc := (hs.1 x hx).2
  obtain ⟨ho, hk⟩ := unm_odd hs hx (by rw [nodeAt_lt hx]; exact hi)
  rw [nodeAt_lt hx] at hk
  unfold nodeCheck at hc
  rw [if_neg (by omega)] at hc
  split at hc
  · cases hc
  · rw [if_neg (by omega)] at hc
    exact (innerCheck_zero hc).2.2.2.1 i hi
set_option maxHeartbeats 1000000 in
theorem oNamed_spec (t : List Node) (ht : Tree.Ok t) : Fun seat 329 [nodes t] (.bool (decide (NamedT t))) := by
  have ok := known_ok ht
  have hl := known_len t
  have hs := known_sane t
  obtain ⟨a, ha⟩ : ∃ a, known t = a := ⟨_, rfl⟩
  have hn : NamedT t ↔ NamedK a := by rw [← ha]; exact Iff.rfl
  rw [ha] at ok hl hs
  obtain ⟨B, hB⟩ : ∃ B, decide (NamedT t) = B := ⟨_, rfl⟩
  rw [hB]
  refine Fun.of0W told329 (by simp [il329]) (by simp ) (by simp ) 4 ?_
  simp only [il329, List.zipIdx_cons, List.zipIdx_nil]
  refine WP.seqR [] fun K hK => ?_
  simp -implicitDefEqProofs only [leafA, innerA, nodeA, patchA, Leaf.cells, Inner.cells, Node.cells, decide_true, decide_false, go_sem, Nat.reduceEqDiff, reduceIte, Nat.reduceAdd, Nat.reduceLeDiff, Nat.reduceLT, Nat.reduceSub]
  refine hK _ ?_
  clear hK K
  refine WP.seqR [r344] fun K hK => ?_
  simp -implicitDefEqProofs only [leafA, innerA, nodeA, patchA, Leaf.cells, Inner.cells, Node.cells, r344_c, r344_ask, decide_true, decide_false, ht, ha, go_sem, Nat.reduceEqDiff, reduceIte, Nat.reduceAdd, Nat.reduceLeDiff, Nat.reduceLT, Nat.reduceSub]
  refine hK _ (WP.sealB 1 0 rfl rfl ?_)
  clear hK K
  refine WP.seqR [] fun K hK => ?_
  simp -implicitDefEqProofs only [leafA, innerA, nodeA, patchA, Leaf.cells, Inner.cells, Node.cells, decide_true, decide_false, go_sem, Nat.reduceEqDiff, reduceIte, Nat.reduceAdd, Nat.reduceLeDiff, Nat.reduceLT, Nat.reduceSub]
  refine WP.weakL [(1, .iptr [nodes a] 0), (7, nodes a), (8, .int .i64 (a.length : Nat)), (9, .int .i64 0)] ?_ ?_
  · simp only [envL_cons, Nat.reduceEqDiff, reduceIte, List.mem_cons, List.not_mem_nil, or_false, forall_eq_or_imp, forall_eq, weak_refl, and_self]
  refine WP.loopG (fun j => j ≤ a.length ∧ ∀ x, x < j → ((nodeAt a x).inner.unmerged.any fun i => !namedB a x i) = false) (fun j => [(1, .iptr [nodes a] 0), (7, nodes a), (8, .int .i64 (a.length : Nat)), (9, .int .i64 (j : Nat))]) (fun _ => [.dead]) (fun j => a.length - j) 0 ⟨Nat.zero_le _, fun x h => absurd h (Nat.not_lt_zero x)⟩ (fun k _ => ⟨by simp, by simp [idb_patchA], fun e he => by (simp only [List.mem_cons, List.not_mem_nil, or_false] at he); (rcases he with rfl | rfl | rfl | rfl | rfl | rfl) <;> first | exact encNode.entB _ _ _ _ | exact encI64.entB _ _ _ _ | exact encU8.entB _ _ _ _ | simp ⟩) (by simp ) ?_
  rintro j ⟨hj, hno⟩
  refine WP.seqR [] fun K2 hK2 => ?_
  simp -implicitDefEqProofs only [leafA, innerA, nodeA, patchA, Leaf.cells, Inner.cells, Node.cells, decide_true, decide_false, go_sem, Nat.reduceEqDiff, reduceIte, Nat.reduceAdd, Nat.reduceLeDiff, Nat.reduceLT, Nat.reduceSub]
  refine hK2 _ ?_
  clear hK2 K2
  by_cases hlt : (j : Int) < (a.length : Nat)
  · have hj' : j < a.length := by omega
    refine WP.seqR [] fun K2 hK2 => ?_
    simp -implicitDefEqProofs only [leafA, innerA, nodeA, patchA, Leaf.cells, Inner.cells, Node.cells, decide_true, decide_false, hlt, go_sem, Nat.reduceEqDiff, reduceIte, Nat.reduceAdd, Nat.reduceLeDiff, Nat.reduceLT, Nat.reduceSub]
    refine hK2 _ ?_
    clear hK2 K2
    refine WP.seq (WP.block (WP.seqR [] fun K2 hK2 => ?_))
    simp -implicitDefEqProofs only [leafA, innerA, nodeA, patchA, Leaf.cells, Inner.cells, Node.cells, decide_true, decide_false, fun H => ix_nodes H a j hj', go_sem, Nat.reduceEqDiff, reduceIte, Nat.reduceAdd, Nat.reduceLeDiff, Nat.reduceLT, Nat.reduceSub]
    refine hK2 _ (WP.sealB 3 1 rfl rfl ?_)
    clear hK2 K2
    refine wpc_soundR [] ?_
    simp -implicitDefEqProofs only [leafA, innerA, nodeA, patchA, Leaf.cells, Inner.cells, Node.cells, decide_true, decide_false, go_sem, Nat.reduceEqDiff, reduceIte, Nat.reduceAdd, Nat.reduceLeDiff, Nat.reduceLT, Nat.reduceSub]
    refine Callee.f told162 (any162_spec a[j].inner.unmerged (fun i => !namedB a j i) 345 il345 told345 [.iptr [nodes a] 0, .iptr [.int .i64 j] 0] (by simp ) fun i hi => notNamed_spec a j i ok hl (unm_in hs hj' hi)) ?_
    cases hb : a[j].inner.unmerged.any fun i => !namedB a j i with
    | true =>
      obtain rfl : B = false := hB.symm.trans (decide_eq_false fun h => namedK_not hj' (by rw [nodeAt_lt hj']; exact hb) (hn.1 h))
      simp -implicitDefEqProofs only [leafA, innerA, nodeA, patchA, Leaf.cells, Inner.cells, Node.cells, decide_true, decide_false, go_sem, Nat.reduceEqDiff, reduceIte, Nat.reduceAdd, Nat.reduceLeDiff, Nat.reduceLT, Nat.reduceSub]
    | false =>
      simp -implicitDefEqProofs only [leafA, innerA, nodeA, patchA, Leaf.cells, Inner.cells, Node.cells, decide_true, decide_false, go_sem, Nat.reduceEqDiff, reduceIte, Nat.reduceAdd, Nat.reduceLeDiff, Nat.reduceLT, Nat.reduceSub]
      refine wpc_soundR [] ?_
      simp -implicitDefEqProofs only [leafA, innerA, nodeA, patchA, Leaf.cells, Inner.cells, Node.cells, decide_true, decide_false, go_sem, Nat.reduceEqDiff, reduceIte, Nat.reduceAdd, Nat.reduceLeDiff, Nat.reduceLT, Nat.reduceSub]
      refine ⟨j + 1, ⟨by omega, fun x hx => ?_⟩, by omega, by simp [wrapS (show j < 9223372036854775807 by omega)]⟩
      by_cases e : x = j
      · subst e; rw [nodeAt_lt hj']; exact hb
      · exact hno x (by omega)
  · obtain rfl : B = true := hB.symm.trans (decide_eq_true (hn.2 (namedK_at hno (by omega))))
    refine wpc_soundR [] ?_
    simp -implicitDefEqProofs only [leafA, innerA, nodeA, patchA, Leaf.cells, Inner.cells, Node.cells, decide_true, decide_false, hlt, go_sem, Nat.reduceEqDiff, reduceIte, Nat.reduceAdd, Nat.reduceLeDiff, Nat.reduceLT, Nat.reduceSub]
    refine hK _ ?_
    refine wpc_soundR [] ?_
    simp -implicitDefEqProofs only [leafA, innerA, nodeA, patchA, Leaf.cells, Inner.cells, Node.cells, decide_true, decide_false, go_sem, Nat.reduceEqDiff, reduceIte, Nat.reduceAdd, Nat.reduceLeDiff, Nat.reduceLT, Nat.reduceSub]
noncomputable def r329 : Reg seat := .of told329 (ask1 (fun a0' => isNs a0' ∧ Tree.Ok (dNs a0')) fun a0' => .fn (.bool (decide (NamedT (dNs a0'))))) (ask1_ok fun a0' h => SaidOk.fn (Fun.weak (.cons (isNs.weak h.1) .nil) (oNamed_spec _ h.2)))
theorem r329_c : r329.c = 329 := rfl
open Classical in
theorem r329_ask (a0' : AV) : r329.ask [a0'] = if isNs a0' ∧ Tree.Ok (dNs a0') then some (Said.fn (.bool (decide (NamedT (dNs a0'))))) else none := by unfold r329 Reg.of ask1; exact ite_cl
end Go.Proofs.YtihhinbjhiankaaGreatDoor.Al

set_option linter.unusedSimpArgs false
set_option linter.unusedVariables false
namespace Go.Proofs.YtihhinbjhiankaaGreatDoor.Al
open Go
attribute [local go_sem] W_mv W_pick W_alloc W_box W_build W_bslice W_load W_store W_bin W_isnil W_un W_convI W_convS W_mkiface W_mkfunc W_slice W_faddr W_iaddr W_idxA W_extract W_len W_min W_max W_append W_appendZ W_clear W_invoke thenQ_normal thenQ_exit thenQ_goto thenQ_ret blockQ_normal blockQ_ret blockQ_goto blockQ_exit wpc_skip wpc_region wpc_draw wpc_seq wpc_cond wpc_block wpc_exit wpc_goto wpc_label wpc_ret wpc_loop wpc_range wpc_scope condW_true condW_false condW_dec condW_any W_nil W_call resW_some evalOp Opd.ev updo_envL updo_none setL_cons setL_nil envL_cons Option.map_some Option.bind_some evBin evInt List.map_cons List.map_nil Option.pure_def Option.bind_eq_bind W_grd' grdW_tt grdW_ff grdW_tf grdW_ft grdW_tup grdW_dt grdW_df lgrdW_tup L_mv L_load L_bin L_un L_faddr L_iaddr L_nil L_call lresW_some upd_envL evUn beq_dec bne_dec leaves_ret1 leaves_ret0 leaves_end0 rowLen_ints load_iptr0 not_dec heap_get0 heap_get1 heap_set0 heap_set1 heap_len1 heap_app bslice1_int seen_ints seen_one0 bslice0_int Nat.sub_zero Bool.not_true Bool.not_false List.length_nil List.length_cons List.nil_append List.cons_append Nat.zero_add load_iptrA canon_ptrI canon_bool canon_tup canon_agg canon_ints' canon_ints0 rowLen_ints1 rowLen_octs seen_octs canon_octs' seen_intss seen_octss rowLen_nodes seen_nodes canon_nodes' rowLen_nodes3 seen_list cells_int oneIn_int cells_bool oneIn_bool cells_str oneIn_str cells_list oneIn_list cells_func oneIn_func cells_nilfunc oneIn_nilfunc cells_iptr oneIn_iptr cells_iface oneIn_iface cells_nilIface oneIn_nilIface cells_own cells_ptr cells_anybool oneIn_anybool cells_agg oneIn_own0 oneIn_own1 seenL1 seenM1 oneIn_ptr2 seenL2 oneIn_own3 seenL3 cells_ints oneIn_ints cells_octs oneIn_octs cells_intss oneIn_intss cells_octss oneIn_octss cells_nodes oneIn_nodes ldB0 ldA0 adB0 stB0 ldB1 ldA1 adB1 stB1 ldB2 ldA2 adB2 stB2 ldB3 ldA3 adB3 stB3 ldB4 ldA4 adB4 stB4 ldB5 ldA5 adB5 stB5 List.getElem?_cons_zero List.getElem?_cons_succ beq_self_eq_true splice List.take_zero List.take_succ_cons List.drop_zero List.drop_succ_cons List.append_nil List.set_cons_zero List.set_cons_succ List.all_cons List.all_nil Bool.and_self and_self and_true true_and Nat.lt_irrefl Nat.zero_lt_one Nat.le_refl fillA evNil notA Bool.false_eq_true evMin_int evMax_int Option.map_none freezeP_all_nil freezeP_all_cons frzE_box frzE_arr frzE_dead foldA List.foldlM_cons List.foldlM_nil callW_f lcallW_f ansW_fn ansW_own lansW_fn lansW_own ansW_none lansW_none tab_cons tab_nil dI_int dB_bool dO_octs dO_ints dO_list dO_nil dOs_nil dN_nodeA dLf_agg dIn_agg dN_agg dNs_nodes dNs_nil isI_int isB_bool isO_octs isO_nil isO_list isS_ints isS_nil isNs_nodes isNs_nil isN_nodeA isLf_agg isIn_agg isN_agg leaf_eta inner_eta node_eta leaf_zero inner_zero node_zero dP_agg isP_agg patch_eta decide_eq_true_eq decide_eq_false_iff_not eq_self forall_const true_implies false_implies Bool.not_eq_true' Bool.not_eq_false' Bool.true_eq_false implies_true ne_eq ldI ldIA adI AV.tup.injEq AV.agg.injEq List.cons.injEq AV.int.injEq AV.bool.injEq nodes_inj octs_inj ints_inj nil_nodes nil_octs nil_ints canon_nilL decide_eq_decide two_ne four_ne lendA_fn lendA_own lendA_none llendA_fn llendA_none false_and and_false Q_nil Q_l Q_g Q_h Q_grd qgrdW_b qgrdW_tup lightD_some heavyD_some readD_some fnD_some fnD_own fnD_none callL_f ownH_some litD_some litE_some Q_call Q_bslice H_call pendOk_nil pendOk_cons pastOk_nil pastOk_cons Q_mv Q_pick Q_bin Q_un Q_convI Q_mkfunc Q_extract Q_min Q_max Q_lenS Q_lenA Q_field Q_idxA Q_mkiface Q_tassert Q_alloc Q_box Q_store Q_mkslice Q_append Q_appendZ Q_copy Q_clear Q_build Q_load Q_nilck Q_isnil Q_convS Q_slice Q_faddr Q_iaddr Q_iaddrA Q_len H_alloc H_box H_bslice H_store H_mkslice H_append H_appendZ H_copy H_clear free_mv free_pick free_bin free_un free_convI free_mkfunc free_extract free_min free_max free_lenS free_lenA free_field free_idxA free_mkiface free_tassert free_build free_load free_nilck free_isnil free_convS free_slice free_faddr free_iaddr free_iaddrA free_len callW_y List.length_map List.length_set leaves_r evR_some evRess1 evRess2 evRess3 evRes_t evRes_c nz_kind nz_enc nz_cred nz_source nz_parent nz_ienc nz_hash nz_un true_or or_true bsl_node appI appO ixo_nodes canon_rowI canon_rowO not_false_eq_true not_true_eq_false ldE_a ldE_c adE_b stE_b onE_a onP_b bsl_zero
attribute [local go_sem low] condW_b grdW_b lgrdW_b ldP adP stP onO onPt
attribute [local simp] envL_cons envL_nil idb_int idb_bool idb_ints idb_nil idb_own idb_ptr idb_octs idb_nodes idb_leafA idb_innerA idb_nodeA idb_agg idb_tup idb_iptr idb_fn entB_dead entB_box
theorem lastT_known (t : List Node) : lastT (known t) = lastT t := by unfold lastT; rw [known_known]
theorem lastT_le (t : List Node) : -1 ≤ lastT t ∧ (lastT t + 1).toNat ≤ (known t).length := by
  have hs := known_sane t
  rw [← lastT_known]
  by_cases h : lastT (known t) < 0
  · have := (lastT_neg hs h).1; omega
  · obtain ⟨k, e, hk, _⟩ := lastT_pos hs h; omega
set_option maxHeartbeats 1000000 in
theorem oput_spec (t : List Node) (ht : Tree.Ok t) : Fun seat 331 [nodes t] (octs (putT t)) := by
  have ok := known_ok ht
  have hl := known_len t
  obtain ⟨l1, l2⟩ := lastT_le t
  have lk := lastT_known t
  unfold putT
  obtain ⟨a, ha⟩ : ∃ a, known t = a := ⟨_, rfl⟩
  rw [ha] at ok hl lk l2 ⊢
  obtain ⟨m, hm⟩ : ∃ m : Nat, lastT t + 1 = m := ⟨(lastT t + 1).toNat, by omega⟩
  rw [hm, Int.toNat_natCast] at l2 ⊢
  have w1 : IntKind.i64.wrap (m : Int) = m := wrap64 _ (by omega) (by omega)
  have sl : ∀ H, evSlice H 8 (nodes a) none (some (.int .i64 (m : Int))) none = some (nodes (a.take m)) := fun H => by
    have := sliceT_nodes H a (m : Int) (by omega) (by omega)
    rwa [Int.toNat_natCast] at this
  have ok2 : ∀ n ∈ a.take m, n.Ok := fun n hn => ok.2 n (List.mem_of_mem_take hn)
  have hl2 : (a.take m).length ≤ 127 := by rw [List.length_take]; omega
  obtain ⟨S, hS⟩ : ∃ S, a.take m = S := ⟨_, rfl⟩
  rw [hS] at sl ok2 hl2 ⊢
  have pb : ∀ k, (putL (S.take k)).length ≤ 4200000000 := fun k => by
    have := putL_len (S.take k)
    rw [List.length_take] at this; omega
  refine Fun.of0W told331 (by simp [il331]) (by simp ) (by simp ) 4 ?_
  simp only [il331, List.zipIdx_cons, List.zipIdx_nil]
  refine WP.seqR [] fun K hK => ?_
  simp -implicitDefEqProofs only [leafA, innerA, nodeA, patchA, Leaf.cells, Inner.cells, Node.cells, decide_true, decide_false, go_sem, Nat.reduceEqDiff, reduceIte, Nat.reduceAdd, Nat.reduceLeDiff, Nat.reduceLT, Nat.reduceSub]
  refine hK _ ?_
  clear hK K
  refine WP.seqR [r344] fun K hK => ?_
  simp -implicitDefEqProofs only [leafA, innerA, nodeA, patchA, Leaf.cells, Inner.cells, Node.cells, r344_c, r344_ask, decide_true, decide_false, ht, ha, go_sem, Nat.reduceEqDiff, reduceIte, Nat.reduceAdd, Nat.reduceLeDiff, Nat.reduceLT, Nat.reduceSub]
  refine hK _ ?_
  clear hK K
  refine WP.seqR [] fun K hK => ?_
  simp -implicitDefEqProofs only [leafA, innerA, nodeA, patchA, Leaf.cells, Inner.cells, Node.cells, decide_true, decide_false, go_sem, Nat.reduceEqDiff, reduceIte, Nat.reduceAdd, Nat.reduceLeDiff, Nat.reduceLT, Nat.reduceSub]
  refine hK _ ?_
  clear hK K
  refine WP.seqR [r104] fun K hK => ?_
  simp -implicitDefEqProofs only [leafA, innerA, nodeA, patchA, Leaf.cells, Inner.cells, Node.cells, r104_c, r104_ask, decide_true, decide_false, ok, lk, hm, w1, sl, go_sem, Nat.reduceEqDiff, reduceIte, Nat.reduceAdd, Nat.reduceLeDiff, Nat.reduceLT, Nat.reduceSub]
  refine WP.weakL [(3, octs []), (12, nodes S), (13, .int .i64 (S.length : Nat)), (14, .int .i64 0)] ?_ ?_
  · simp only [envL_cons, Nat.reduceEqDiff, reduceIte, List.mem_cons, List.not_mem_nil, or_false, forall_eq_or_imp, forall_eq, weak_refl, weak_nilO, and_self]
  refine WP.loop0 (fun k => k ≤ S.length) (fun k => [(3, octs (putL (S.take k))), (12, nodes S), (13, .int .i64 (S.length : Nat)), (14, .int .i64 (k : Nat))]) (fun k => S.length - k) 0 (Nat.zero_le _) (fun k _ => by simp ) (by simp [putL_nil]) ?_
  intro k hk
  refine wpc_soundR [r188] ?_
  by_cases hlt : (k : Int) < (S.length : Nat)
  · have hk' : k < S.length := by omega
    have okk := ok2 _ (List.getElem_mem hk')
    have pbk := pb k
    have e := putL_take S hk'
    simp -implicitDefEqProofs only [leafA, innerA, nodeA, patchA, Leaf.cells, Inner.cells, Node.cells, r188_c, r188_ask, decide_true, decide_false, hlt, fun H => ix_nodes H S k hk', okk, pbk, go_sem, Nat.reduceEqDiff, reduceIte, Nat.reduceAdd, Nat.reduceLeDiff, Nat.reduceLT, Nat.reduceSub]
    exact ⟨k + 1, by omega, by omega, by simp [wrapS (show k < 9223372036854775807 by omega), e]⟩
  · have e : S.take k = S := List.take_of_length_le (by omega)
    have pbS := pb k
    rw [e] at pbS ⊢
    have pbS2 : (putL S).length ≤ 4290000000 := by omega
    simp -implicitDefEqProofs only [leafA, innerA, nodeA, patchA, Leaf.cells, Inner.cells, Node.cells, r188_c, r188_ask, decide_true, decide_false, hlt, go_sem, Nat.reduceEqDiff, reduceIte, Nat.reduceAdd, Nat.reduceLeDiff, Nat.reduceLT, Nat.reduceSub]
    refine hK _ ?_
    refine wpc_soundR [r198] ?_
    simp -implicitDefEqProofs only [leafA, innerA, nodeA, patchA, Leaf.cells, Inner.cells, Node.cells, r198_c, r198_ask, decide_true, decide_false, pbS2, go_sem, Nat.reduceEqDiff, reduceIte, Nat.reduceAdd, Nat.reduceLeDiff, Nat.reduceLT, Nat.reduceSub]
noncomputable def r331 : Reg seat := .of told331 (ask1 (fun a0' => isNs a0' ∧ Tree.Ok (dNs a0')) fun a0' => .fn (octs (putT (dNs a0')))) (ask1_ok fun a0' h => SaidOk.fn (Fun.weak (.cons (isNs.weak h.1) .nil) (oput_spec _ h.2)))
theorem r331_c : r331.c = 331 := rfl
open Classical in
theorem r331_ask (a0' : AV) : r331.ask [a0'] = if isNs a0' ∧ Tree.Ok (dNs a0') then some (Said.fn (octs (putT (dNs a0')))) else none := by unfold r331 Reg.of ask1; exact ite_cl
end Go.Proofs.YtihhinbjhiankaaGreatDoor.Al
