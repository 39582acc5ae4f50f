/-
  JOINED: IlsD, S6, S7, S8, S9, S10, P11
-/
import Derived.Test.YtihhinbjhiankaaGreatDoorLawSetAP3
import Derived.Test.YtihhinbjhiankaaGreatDoorLawSetAP4
import Derived.Test.YtihhinbjhiankaaGreatDoorLawSetAP8
import Derived.Test.YtihhinbjhiankaaGreatDoorLawSetAP6
namespace Go.Proofs.YtihhinbjhiankaaGreatDoor.Al
open Go

def il56 : IFn := ⟨17, [(.t 4)], (.seq (.region [⟨(some 4), (.mv (.c (.bool false))), none, []⟩] false) (.seq (.region [⟨(some 5), (.mv (.t 0)), none, []⟩, ⟨(some 6), (.call (.f 66) [(.t 5)]), none, [0]⟩, ⟨(some 7), (.mv (.t 6)), none, [1, 1]⟩, ⟨(some 8), (.mv (.t 1)), (some (7, true)), [2]⟩, ⟨(some 9), (.call (.f 66) [(.t 8)]), (some (7, true)), [3, 2, 2]⟩, ⟨(some 10), (.un .not (.t 9)), (some (7, true)), [4, 2]⟩, ⟨(some 11), (.pick (.t 7) (.t 10) (.c (.bool false))), none, [2, 5]⟩, ⟨(some 12), (.mv (.t 11)), none, [6, 4]⟩, ⟨(some 13), (.mv (.t 0)), (some (12, false)), [7]⟩, ⟨(some 14), (.mv (.t 1)), (some (12, false)), [7]⟩, ⟨(some 15), (.bin false .lss (.t 13) (.t 14)), (some (12, false)), [8, 9, 7]⟩, ⟨(some 16), (.pick (.t 12) (.c (.bool true)) (.t 15)), none, [7, 10]⟩, ⟨(some 4), (.mv (.t 16)), none, [11, 7, 0, 1, 2, 3, 4, 5, 6, 7, 8, 9, 10, 11]⟩] false) .ret))⟩
theorem told56 : trFn seat 56 = some il56 := by kernel_rfl

def il66 : IFn := ⟨6, [(.t 2)], (.seq (.region [⟨(some 2), (.mv (.c (.bool false))), none, []⟩] false) (.seq (.region [⟨(some 3), (.mv (.t 0)), none, []⟩, ⟨(some 4), (.mv (.t 0)), none, []⟩, ⟨(some 5), (.bin false .neq (.t 3) (.t 4)), none, [0, 1]⟩, ⟨(some 2), (.mv (.t 5)), none, [2, 0, 1, 2]⟩] false) .ret))⟩
theorem told66 : trFn seat 66 = some il66 := by kernel_rfl

def il110 : IFn := ⟨77, [(.t 0)], (.seq (.region [⟨(some 0), (.mv (.c (.bool false))), none, []⟩] false) (.seq (.region [⟨(some 9), (.bslice 1 1 (.int .u8 0) [(0, (.c (.int .u8 7)))]), none, []⟩, ⟨(some 10), (.build [(.list true []), (.list true []), (.int .i64 0), (.list true [])] [(0, (1, (.t 9))), (2, (1, (.c (.int .i64 1))))]), none, [0]⟩, ⟨(some 11), (.build [(.int .i64 0), (.list true []), (.list true []), (.int .i64 0), (.list true []), (.list true []), (.list true []), (.list true [])] [(0, (1, (.c (.int .i64 1)))), (1, (4, (.t 10)))]), none, [1]⟩, ⟨(some 1), (.alloc [(.int .i64 0), (.list true []), (.list true []), (.int .i64 0), (.list true []), (.list true []), (.list true []), (.list true [])]), none, []⟩, ⟨none, (.store 8 (.t 1) (.t 11)), none, [3, 2, 0, 1, 2, 3]⟩] false) (.seq (.region [⟨(some 12), (.load true 8 (.t 1)), none, []⟩, ⟨(some 13), (.bslice 8 1 (.agg [(.int .i64 0), (.list true []), (.list true []), (.int .i64 0), (.list true []), (.list true []), (.list true []), (.list true [])]) [(0, (.t 12))]), none, [0]⟩, ⟨(some 2), (.mv (.t 13)), none, [1, 0, 1]⟩] false) (.seq (.region [⟨(some 14), (.load true 8 (.t 1)), none, []⟩, ⟨(some 15), (.build [(.int .i64 0), (.list true []), (.list true []), (.int .i64 0), (.list true []), (.list true []), (.list true []), (.list true [])] []), none, []⟩, ⟨(some 16), (.load true 8 (.t 1)), none, []⟩, ⟨(some 17), (.bslice 8 3 (.agg [(.int .i64 0), (.list true []), (.list true []), (.int .i64 0), (.list true []), (.list true []), (.list true []), (.list true [])]) [(0, (.t 14)), (1, (.t 15)), (2, (.t 16))]), none, [0, 1, 2]⟩, ⟨(some 3), (.mv (.t 17)), none, [3, 0, 1, 2, 3]⟩] false) (.seq (.region [⟨(some 18), (.mv (.t 2)), none, []⟩, ⟨(some 19), (.mv (.t 3)), none, []⟩, ⟨(some 20), (.call (.f 119) [(.t 18), (.t 19)]), none, [0, 1]⟩, ⟨(some 4), (.alloc [(.int .i64 0), (.list true []), (.list true [])]), none, []⟩, ⟨none, (.store 3 (.t 4) (.t 20)), none, [3, 2, 2, 0, 1, 2, 3]⟩] false) (.seq (.region [⟨(some 22), (.mv (.t 2)), none, []⟩, ⟨(some 23), (.load true 3 (.t 4)), none, []⟩, ⟨(some 24), (.call (.f 112) [(.t 22), (.t 23)]), none, [0, 1]⟩, ⟨(some 21), (.mv (.t 24)), none, [2]⟩, ⟨(some 25), (.extract (.t 21) 0), none, [3]⟩, ⟨(some 26), (.extract (.t 21) 1), none, [3]⟩, ⟨(some 5), (.mv (.t 25)), none, [4, 2, 0, 1, 2, 3, 4]⟩, ⟨(some 6), (.mv (.t 26)), none, [5, 6, 0, 1, 2, 3, 4, 5, 6]⟩] false) (.seq (.region [⟨(some 28), (.load true 3 (.t 4)), none, []⟩, ⟨(some 29), (.mv (.t 3)), none, []⟩, ⟨(some 30), (.mv (.t 2)), none, []⟩, ⟨(some 31), (.call (.f 119) [(.t 29), (.t 30)]), none, [1, 2]⟩, ⟨(some 32), (.call (.f 114) [(.t 28), (.t 31)]), none, [0, 3, 3]⟩, ⟨(some 27), (.mv (.t 32)), none, [4]⟩, ⟨(some 33), (.extract (.t 27) 0), none, [5]⟩, ⟨(some 34), (.extract (.t 27) 1), none, [5]⟩, ⟨(some 7), (.alloc [(.int .i64 0), (.list true []), (.list true [])]), none, []⟩, ⟨none, (.store 3 (.t 7) (.t 33)), none, [8, 6, 4, 0, 1, 2, 3, 4, 5, 6, 8]⟩, ⟨(some 8), (.mv (.t 34)), none, [7, 9, 0, 1, 2, 3, 4, 5, 6, 7, 8, 9]⟩] true) (.seq (.region [⟨(some 35), (.mv (.t 2)), none, []⟩, ⟨(some 36), (.mv (.t 2)), none, []⟩, ⟨(some 37), (.call (.f 119) [(.t 35), (.t 36)]), none, [0, 1]⟩, ⟨(some 38), (.field false 1 1 (.t 37)), none, [2]⟩, ⟨(some 39), (.len (.t 38)), none, [3]⟩, ⟨(some 40), (.bin false .eql (.t 39) (.c (.int .i64 0))), none, [4]⟩, ⟨(some 41), (.mv (.t 40)), none, [5, 2]⟩, ⟨(some 42), (.faddr 0 (.t 4)), (some (41, true)), [6]⟩, ⟨(some 43), (.load false 1 (.t 42)), (some (41, true)), [7, 6]⟩, ⟨(some 44), (.bin false .eql (.t 43) (.c (.int .i64 3))), (some (41, true)), [8, 6]⟩, ⟨(some 45), (.pick (.t 41) (.t 44) (.c (.bool false))), none, [6, 9]⟩, ⟨(some 46), (.mv (.t 45)), none, [10, 6]⟩, ⟨(some 47), (.faddr 1 (.t 4)), (some (46, true)), [11]⟩, ⟨(some 48), (.load false 1 (.t 47)), (some (46, true)), [12, 11]⟩, ⟨(some 49), (.bslice 1 1 (.int .i64 0) [(0, (.c (.int .i64 2)))]), (some (46, true)), [11]⟩, ⟨(some 50), (.call (.f 35) [(.t 48), (.t 49)]), (some (46, true)), [13, 14, 11, 11]⟩, ⟨(some 51), (.pick (.t 46) (.t 50) (.c (.bool false))), none, [11, 15]⟩, ⟨(some 52), (.mv (.t 51)), none, [16, 15]⟩, ⟨(some 53), (.mv (.t 2)), (some (52, true)), [17]⟩, ⟨(some 54), (.mv (.t 3)), (some (52, true)), [17]⟩, ⟨(some 55), (.call (.f 116) [(.t 53), (.t 54)]), (some (52, true)), [18, 19, 17, 17]⟩, ⟨(some 56), (.bslice 1 1 (.int .i64 0) [(0, (.c (.int .i64 2)))]), (some (52, true)), [17]⟩, ⟨(some 57), (.call (.f 35) [(.t 55), (.t 56)]), (some (52, true)), [20, 21, 20, 17]⟩, ⟨(some 58), (.pick (.t 52) (.t 57) (.c (.bool false))), none, [17, 22]⟩, ⟨(some 59), (.mv (.t 58)), none, [23, 22]⟩, ⟨(some 60), (.mv (.t 6)), (some (59, true)), [24]⟩, ⟨(some 61), (.bin false .eql (.t 60) (.c (.int .i64 0))), (some (59, true)), [25, 24]⟩, ⟨(some 62), (.pick (.t 59) (.t 61) (.c (.bool false))), none, [24, 26]⟩, ⟨(some 63), (.mv (.t 62)), none, [27, 24]⟩, ⟨(some 64), (.mv (.t 5)), (some (63, true)), [28]⟩, ⟨(some 65), (.mv (.t 3)), (some (63, true)), [28]⟩, ⟨(some 66), (.call (.f 106) [(.t 64), (.t 65)]), (some (63, true)), [29, 30, 28, 28]⟩, ⟨(some 67), (.pick (.t 63) (.t 66) (.c (.bool false))), none, [28, 31]⟩, ⟨(some 68), (.mv (.t 67)), none, [32, 31]⟩, ⟨(some 69), (.mv (.t 8)), (some (68, true)), [33]⟩, ⟨(some 70), (.bin false .eql (.t 69) (.c (.int .i64 0))), (some (68, true)), [34, 33]⟩, ⟨(some 71), (.pick (.t 68) (.t 70) (.c (.bool false))), none, [33, 35]⟩, ⟨(some 72), (.mv (.t 71)), none, [36, 33]⟩, ⟨(some 73), (.faddr 0 (.t 7)), (some (72, true)), [37]⟩, ⟨(some 74), (.load false 1 (.t 73)), (some (72, true)), [38, 37]⟩, ⟨(some 75), (.bin false .eql (.t 74) (.c (.int .i64 1))), (some (72, true)), [39, 37]⟩, ⟨(some 76), (.pick (.t 72) (.t 75) (.c (.bool false))), none, [37, 40]⟩, ⟨(some 0), (.mv (.t 76)), none, [41, 37, 0, 1, 2, 3, 4, 5, 6, 7, 8, 9, 10, 11, 12, 13, 14, 15, 16, 17, 18, 19, 20, 21, 22, 23, 24, 25, 26, 27, 28, 29, 30, 31, 32, 33, 34, 35, 36, 37, 38, 39, 40, 41]⟩] false) .ret))))))))⟩
theorem told110 : trFn seat 110 = some il110 := by kernel_rfl

def il112 : IFn := ⟨38, [(.t 4), (.t 5)], (.seq (.region [⟨(some 3), (.box (.t 1)), none, []⟩, ⟨(some 4), (.mv (.c (.list true []))), none, []⟩, ⟨(some 5), (.mv (.c (.int .i64 0))), none, [1]⟩] false) (.seq (.seq (.region [⟨(some 9), (.load true 3 (.t 3)), none, []⟩, ⟨(some 10), (.call (.f 133) [(.t 9)]), none, [0]⟩, ⟨(some 11), (.un .not (.t 10)), none, [1]⟩] false) (.cond (.t 11) (.seq (.region [⟨(some 4), (.mv (.c (.list true []))), none, []⟩, ⟨(some 5), (.mv (.c (.int .i64 2))), none, [0, 0]⟩] false) .ret) .skip)) (.seq (.region [⟨(some 12), (.mv (.t 0)), none, []⟩, ⟨(some 13), (.call (.f 135) [(.t 12)]), none, [0]⟩, ⟨(some 14), (.faddr 0 (.t 3)), none, []⟩, ⟨(some 15), (.load false 1 (.t 14)), none, [2]⟩, ⟨(some 16), (.call (.f 134) [(.t 13), (.t 15)]), none, [1, 3, 1]⟩, ⟨(some 6), (.mv (.t 16)), none, [4, 4, 0, 1, 2, 3, 4]⟩] true) (.seq (.seq (.region [⟨(some 17), (.faddr 1 (.t 3)), none, []⟩, ⟨(some 18), (.load false 1 (.t 17)), none, [0]⟩, ⟨(some 19), (.len (.t 18)), none, [1]⟩, ⟨(some 20), (.mv (.c (.int .i64 0))), none, []⟩] false) (.block 0 (.loop (.seq (.region [⟨(some 21), (.bin false .lss (.t 20) (.t 19)), none, []⟩] false) (.seq (.cond (.t 21) .skip (.exit 0)) (.seq (.block 1 (.seq (.region [⟨(some 22), (.mv (.t 20)), none, []⟩, ⟨(some 23), (.iaddr 1 (.t 18) (.t 20)), none, []⟩, ⟨(some 24), (.load false 1 (.t 23)), none, [1]⟩, ⟨(some 7), (.mv (.t 22)), none, [0, 0, 1, 2]⟩, ⟨(some 8), (.mv (.t 24)), none, [2, 3, 0, 1, 2, 3]⟩] false) (.region [⟨(some 25), (.mv (.t 6)), none, []⟩, ⟨(some 26), (.mv (.t 8)), none, []⟩, ⟨(some 27), (.faddr 2 (.t 3)), none, []⟩, ⟨(some 28), (.load false 1 (.t 27)), none, [2]⟩, ⟨(some 29), (.mv (.t 7)), none, []⟩, ⟨(some 30), (.iaddr 8 (.t 28) (.t 29)), none, [3, 4]⟩, ⟨(some 31), (.load true 8 (.t 30)), none, [5]⟩, ⟨(some 32), (.iaddr 8 (.t 25) (.t 26)), none, [0, 1, 0, 1, 2, 3, 4, 5, 6]⟩, ⟨none, (.store 8 (.t 32) (.t 31)), none, [7, 6, 0, 1, 2, 3, 4, 5, 6]⟩] false))) (.region [⟨(some 33), (.bin false .add (.t 20) (.c (.int .i64 1))), none, []⟩, ⟨(some 20), (.mv (.t 33)), none, [0]⟩] false))))))) (.seq (.seq (.region [⟨(some 34), (.mv (.t 6)), none, []⟩, ⟨(some 35), (.call (.f 101) [(.t 34)]), none, [0]⟩, ⟨(some 36), (.un .not (.t 35)), none, [1]⟩] false) (.cond (.t 36) (.seq (.region [⟨(some 4), (.mv (.c (.list true []))), none, []⟩, ⟨(some 5), (.mv (.c (.int .i64 14))), none, [0, 0]⟩] false) .ret) .skip)) (.seq (.region [⟨(some 37), (.mv (.t 6)), none, []⟩, ⟨(some 4), (.mv (.t 37)), none, [0, 0]⟩, ⟨(some 5), (.mv (.c (.int .i64 0))), none, [1, 0, 1]⟩] false) .ret))))))⟩
theorem told112 : trFn seat 112 = some il112 := by kernel_rfl

def il114 : IFn := ⟨81, [(.cell 4 true 3), (.t 5)], (.seq (.region [⟨(some 2), (.box (.t 0)), none, []⟩, ⟨(some 3), (.box (.t 1)), none, []⟩, ⟨(some 4), (.alloc [(.int .i64 0), (.list true []), (.list true [])]), none, []⟩, ⟨(some 5), (.mv (.c (.int .i64 0))), none, []⟩] false) (.seq (.seq (.region [⟨(some 13), (.load true 3 (.t 2)), none, []⟩, ⟨(some 14), (.call (.f 133) [(.t 13)]), none, [0]⟩, ⟨(some 15), (.un .not (.t 14)), none, [1]⟩, ⟨(some 16), (.mv (.t 15)), none, [2, 1]⟩, ⟨(some 17), (.load true 3 (.t 3)), (some (16, false)), [3]⟩, ⟨(some 18), (.call (.f 133) [(.t 17)]), (some (16, false)), [4, 3, 3]⟩, ⟨(some 19), (.un .not (.t 18)), (some (16, false)), [5, 3]⟩, ⟨(some 20), (.pick (.t 16) (.c (.bool true)) (.t 19)), none, [3, 6]⟩] false) (.cond (.t 20) (.seq (.region [⟨(some 21), (.build [(.int .i64 0), (.list true []), (.list true [])] []), none, []⟩, ⟨none, (.store 3 (.t 4) (.t 21)), none, [0, 0]⟩, ⟨(some 5), (.mv (.c (.int .i64 2))), none, [1, 0, 1]⟩] false) .ret) .skip)) (.seq (.region [⟨(some 22), (.faddr 0 (.t 3)), none, []⟩, ⟨(some 23), (.load false 1 (.t 22)), none, [0]⟩, ⟨(some 24), (.build [(.int .i64 0), (.list true []), (.list true [])] [(0, (1, (.t 23)))]), none, [1]⟩, ⟨(some 6), (.alloc [(.int .i64 0), (.list true []), (.list true [])]), none, []⟩, ⟨none, (.store 3 (.t 6) (.t 24)), none, [3, 2, 0, 1, 2, 3]⟩] false) (.seq (.seq (.region [⟨(some 25), (.faddr 0 (.t 3)), none, []⟩, ⟨(some 26), (.load false 1 (.t 25)), none, [0]⟩, ⟨(some 27), (.mv (.c (.int .i64 0))), none, []⟩] false) (.block 0 (.loop (.seq (.region [⟨(some 28), (.bin false .lss (.t 27) (.t 26)), none, []⟩] false) (.seq (.cond (.t 28) .skip (.exit 0)) (.seq (.block 1 (.seq (.region [⟨(some 29), (.mv (.t 27)), none, []⟩, ⟨(some 7), (.mv (.t 29)), none, [0, 0]⟩] false) (.seq (.region [⟨(some 30), (.build [(.int .i64 0), (.list true []), (.list true []), (.int .i64 0), (.list true []), (.list true []), (.list true []), (.list true [])] []), none, []⟩, ⟨(some 8), (.alloc [(.int .i64 0), (.list true []), (.list true []), (.int .i64 0), (.list true []), (.list true []), (.list true []), (.list true [])]), none, []⟩, ⟨none, (.store 8 (.t 8) (.t 30)), none, [1, 0, 0, 1]⟩] false) (.seq (.region [⟨(some 32), (.faddr 1 (.t 2)), none, []⟩, ⟨(some 33), (.load false 1 (.t 32)), none, [0]⟩, ⟨(some 34), (.mv (.t 7)), none, []⟩, ⟨(some 35), (.call (.f 140) [(.t 33), (.t 34)]), none, [1, 2]⟩, ⟨(some 31), (.mv (.t 35)), none, [3]⟩, ⟨(some 36), (.extract (.t 31) 0), none, [4]⟩, ⟨(some 37), (.extract (.t 31) 1), none, [4]⟩, ⟨(some 9), (.mv (.t 36)), none, [5, 3, 0, 1, 2, 3, 4, 5]⟩, ⟨(some 10), (.mv (.t 37)), none, [6, 7, 0, 1, 2, 3, 4, 5, 6, 7]⟩] false) (.seq (.seq (.region [⟨(some 38), (.mv (.t 10)), none, []⟩] false) (.cond (.t 38) (.region [⟨(some 39), (.faddr 2 (.t 2)), none, []⟩, ⟨(some 40), (.load false 1 (.t 39)), none, [0]⟩, ⟨(some 41), (.mv (.t 9)), none, []⟩, ⟨(some 42), (.iaddr 8 (.t 40) (.t 41)), none, [1, 2]⟩, ⟨(some 43), (.load true 8 (.t 42)), none, [3]⟩, ⟨none, (.store 8 (.t 8) (.t 43)), none, [4, 0, 1, 2, 3, 4]⟩] false) .skip)) (.seq (.region [⟨(some 45), (.faddr 1 (.t 3)), none, []⟩, ⟨(some 46), (.load false 1 (.t 45)), none, [0]⟩, ⟨(some 47), (.mv (.t 7)), none, []⟩, ⟨(some 48), (.call (.f 140) [(.t 46), (.t 47)]), none, [1, 2]⟩, ⟨(some 44), (.mv (.t 48)), none, [3]⟩, ⟨(some 49), (.extract (.t 44) 0), none, [4]⟩, ⟨(some 50), (.extract (.t 44) 1), none, [4]⟩, ⟨(some 11), (.mv (.t 49)), none, [5, 3, 0, 1, 2, 3, 4, 5]⟩, ⟨(some 12), (.mv (.t 50)), none, [6, 7, 0, 1, 2, 3, 4, 5, 6, 7]⟩] false) (.seq (.seq (.region [⟨(some 51), (.mv (.t 12)), none, []⟩] false) (.cond (.t 51) (.region [⟨(some 52), (.faddr 2 (.t 3)), none, []⟩, ⟨(some 53), (.load false 1 (.t 52)), none, [0]⟩, ⟨(some 54), (.mv (.t 11)), none, []⟩, ⟨(some 55), (.iaddr 8 (.t 53) (.t 54)), none, [1, 2]⟩, ⟨(some 56), (.load true 8 (.t 55)), none, [3]⟩, ⟨none, (.store 8 (.t 8) (.t 56)), none, [4, 0, 1, 2, 3, 4]⟩] false) .skip)) (.seq (.region [⟨(some 57), (.mv (.t 10)), none, []⟩, ⟨(some 58), (.mv (.t 57)), none, [0]⟩, ⟨(some 59), (.mv (.t 12)), (some (58, false)), [1]⟩, ⟨(some 60), (.pick (.t 58) (.c (.bool true)) (.t 59)), none, [1, 2]⟩, ⟨(some 61), (.mv (.t 60)), none, [3, 1]⟩, ⟨(some 62), (.mv (.t 7)), (some (61, false)), [4]⟩, ⟨(some 63), (.faddr 0 (.t 2)), (some (61, false)), [4]⟩, ⟨(some 64), (.load false 1 (.t 63)), (some (61, false)), [6, 4]⟩, ⟨(some 65), (.bin false .geq (.t 62) (.t 64)), (some (61, false)), [5, 7, 4]⟩, ⟨(some 66), (.pick (.t 61) (.c (.bool true)) (.t 65)), none, [4, 8]⟩] false) (.cond (.t 66) (.region [⟨(some 67), (.faddr 1 (.t 6)), none, []⟩, ⟨(some 68), (.load false 1 (.t 67)), none, [0]⟩, ⟨(some 69), (.mv (.t 7)), none, []⟩, ⟨(some 70), (.bslice 1 1 (.int .i64 0) [(0, (.t 69))]), none, [2]⟩, ⟨(some 71), (.append 1 8 (.t 68) (.t 70)), none, [1, 3]⟩, ⟨(some 72), (.faddr 2 (.t 6)), none, []⟩, ⟨(some 73), (.load false 1 (.t 72)), none, [5]⟩, ⟨(some 74), (.load true 8 (.t 8)), none, []⟩, ⟨(some 75), (.bslice 8 1 (.agg [(.int .i64 0), (.list true []), (.list true []), (.int .i64 0), (.list true []), (.list true []), (.list true []), (.list true [])]) [(0, (.t 74))]), none, [7]⟩, ⟨(some 76), (.append 8 160 (.t 73) (.t 75)), none, [6, 8, 4]⟩, ⟨(some 77), (.faddr 1 (.t 6)), none, [0, 1, 2, 3, 4, 5, 6]⟩, ⟨none, (.store 1 (.t 77) (.t 71)), none, [10, 4, 9, 0, 1, 2, 3, 4, 5, 6]⟩, ⟨(some 78), (.faddr 2 (.t 6)), none, [0, 1, 2, 3, 4, 5, 6, 7, 8, 9, 10, 11]⟩, ⟨none, (.store 1 (.t 78) (.t 76)), none, [12, 9, 11, 0, 1, 2, 3, 4, 5, 6, 7, 8, 9, 10, 11]⟩] true) .skip))))))))) (.region [⟨(some 79), (.bin false .add (.t 27) (.c (.int .i64 1))), none, []⟩, ⟨(some 27), (.mv (.t 79)), none, [0]⟩] false))))))) (.seq (.region [⟨(some 80), (.load true 3 (.t 6)), none, []⟩, ⟨none, (.store 3 (.t 4) (.t 80)), none, [0, 0]⟩, ⟨(some 5), (.mv (.c (.int .i64 0))), none, [1, 0, 1]⟩] false) .ret)))))⟩
theorem told114 : trFn seat 114 = some il114 := by kernel_rfl

def il116 : IFn := ⟨9, [(.t 4)], (.seq (.region [⟨(some 4), (.mv (.c (.list true []))), none, []⟩] false) (.seq (.region [⟨(some 5), (.mv (.t 0)), none, []⟩, ⟨(some 6), (.mv (.t 1)), none, []⟩, ⟨(some 7), (.call (.f 119) [(.t 5), (.t 6)]), none, [0, 1]⟩, ⟨(some 8), (.field false 1 1 (.t 7)), none, [2]⟩, ⟨(some 4), (.mv (.t 8)), none, [3, 2, 0, 1, 2, 3]⟩] false) .ret))⟩
theorem told116 : trFn seat 116 = some il116 := by kernel_rfl

def il119 : IFn := ⟨49, [(.cell 4 true 3)], (.seq (.region [⟨(some 4), (.alloc [(.int .i64 0), (.list true []), (.list true [])]), none, []⟩] false) (.scope (.seq (.region [⟨(some 7), (.mv (.t 1)), none, []⟩, ⟨(some 8), (.call (.f 135) [(.t 7)]), none, [0]⟩, ⟨(some 1), (.mv (.t 8)), none, [1, 1, 0, 1]⟩] false) (.seq (.region [⟨(some 9), (.mv (.t 0)), none, []⟩, ⟨(some 10), (.call (.f 135) [(.t 9)]), none, [0]⟩, ⟨(some 11), (.mv (.t 1)), none, []⟩, ⟨(some 12), (.len (.t 11)), none, [2]⟩, ⟨(some 13), (.call (.f 134) [(.t 10), (.t 12)]), none, [1, 3, 1]⟩, ⟨(some 0), (.mv (.t 13)), none, [4, 4, 0, 1, 2, 3, 4]⟩] false) (.seq (.region [⟨(some 14), (.mv (.t 1)), none, []⟩, ⟨(some 15), (.len (.t 14)), none, [0]⟩, ⟨(some 16), (.build [(.int .i64 0), (.list true []), (.list true [])] [(0, (1, (.t 15)))]), none, [1]⟩, ⟨(some 5), (.alloc [(.int .i64 0), (.list true []), (.list true [])]), none, []⟩, ⟨none, (.store 3 (.t 5) (.t 16)), none, [3, 2, 0, 1, 2, 3]⟩] false) (.seq (.region [⟨(some 6), (.mv (.c (.int .i64 0))), none, []⟩] false) (.seq (.label 0) (.seq (.seq (.region [⟨(some 17), (.mv (.t 6)), none, []⟩, ⟨(some 18), (.mv (.t 1)), none, []⟩, ⟨(some 19), (.len (.t 18)), none, [1]⟩, ⟨(some 20), (.bin false .eql (.t 17) (.t 19)), none, [0, 2]⟩] false) (.cond (.t 20) (.seq (.region [⟨(some 21), (.load true 3 (.t 5)), none, []⟩, ⟨none, (.store 3 (.t 4) (.t 21)), none, [0, 0]⟩] false) .ret) .skip)) (.seq (.seq (.region [⟨(some 22), (.mv (.t 0)), none, []⟩, ⟨(some 23), (.mv (.t 6)), none, []⟩, ⟨(some 24), (.iaddr 8 (.t 22) (.t 23)), none, [0, 1]⟩, ⟨(some 25), (.load true 8 (.t 24)), none, [2]⟩, ⟨(some 26), (.mv (.t 1)), none, []⟩, ⟨(some 27), (.mv (.t 6)), none, []⟩, ⟨(some 28), (.iaddr 8 (.t 26) (.t 27)), none, [4, 5]⟩, ⟨(some 29), (.load true 8 (.t 28)), none, [6]⟩, ⟨(some 30), (.call (.f 121) [(.t 25), (.t 29)]), none, [3, 7]⟩, ⟨(some 31), (.un .not (.t 30)), none, [8]⟩] true) (.cond (.t 31) (.region [⟨(some 32), (.faddr 1 (.t 5)), none, []⟩, ⟨(some 33), (.load false 1 (.t 32)), none, [0]⟩, ⟨(some 34), (.mv (.t 6)), none, []⟩, ⟨(some 35), (.bslice 1 1 (.int .i64 0) [(0, (.t 34))]), none, [2]⟩, ⟨(some 36), (.append 1 8 (.t 33) (.t 35)), none, [1, 3]⟩, ⟨(some 37), (.faddr 2 (.t 5)), none, []⟩, ⟨(some 38), (.load false 1 (.t 37)), none, [5]⟩, ⟨(some 39), (.mv (.t 1)), none, []⟩, ⟨(some 40), (.mv (.t 6)), none, []⟩, ⟨(some 41), (.iaddr 8 (.t 39) (.t 40)), none, [7, 8]⟩, ⟨(some 42), (.load true 8 (.t 41)), none, [9]⟩, ⟨(some 43), (.bslice 8 1 (.agg [(.int .i64 0), (.list true []), (.list true []), (.int .i64 0), (.list true []), (.list true []), (.list true []), (.list true [])]) [(0, (.t 42))]), none, [10]⟩, ⟨(some 44), (.append 8 160 (.t 38) (.t 43)), none, [6, 11, 4]⟩, ⟨(some 45), (.faddr 1 (.t 5)), none, [0, 1, 2, 3, 4, 5, 6]⟩, ⟨none, (.store 1 (.t 45) (.t 36)), none, [13, 4, 12, 0, 1, 2, 3, 4, 5, 6]⟩, ⟨(some 46), (.faddr 2 (.t 5)), none, [0, 1, 2, 3, 4, 5, 6, 7, 8, 9, 10, 11, 12, 13, 14]⟩, ⟨none, (.store 1 (.t 46) (.t 44)), none, [15, 12, 14, 0, 1, 2, 3, 4, 5, 6, 7, 8, 9, 10, 11, 12, 13, 14]⟩] true) .skip)) (.seq (.region [⟨(some 47), (.mv (.t 6)), none, []⟩, ⟨(some 48), (.bin false .add (.t 47) (.c (.int .i64 1))), none, [0]⟩, ⟨(some 6), (.mv (.t 48)), none, [1, 0, 1]⟩] false) (.goto 0)))))))))))⟩
theorem told119 : trFn seat 119 = some il119 := by kernel_rfl

def il133 : IFn := ⟨42, [(.t 2)], (.seq (.region [⟨(some 1), (.box (.t 0)), none, []⟩, ⟨(some 2), (.mv (.c (.bool false))), none, []⟩] false) (.seq (.seq (.region [⟨(some 6), (.faddr 0 (.t 1)), none, []⟩, ⟨(some 7), (.load false 1 (.t 6)), none, [0]⟩, ⟨(some 8), (.bin false .neq (.t 7) (.c (.int .i64 0))), none, [1]⟩, ⟨(some 9), (.mv (.t 8)), none, [2]⟩, ⟨(some 10), (.faddr 0 (.t 1)), (some (9, true)), [3]⟩, ⟨(some 11), (.load false 1 (.t 10)), (some (9, true)), [4, 3]⟩, ⟨(some 12), (.call (.f 125) [(.t 11)]), (some (9, true)), [5, 3, 3]⟩, ⟨(some 13), (.un .not (.t 12)), (some (9, true)), [6, 3]⟩, ⟨(some 14), (.pick (.t 9) (.t 13) (.c (.bool false))), none, [3, 7]⟩, ⟨(some 15), (.mv (.t 14)), none, [8, 6]⟩, ⟨(some 16), (.faddr 2 (.t 1)), (some (15, false)), [9]⟩, ⟨(some 17), (.load false 1 (.t 16)), (some (15, false)), [10, 9]⟩, ⟨(some 18), (.len (.t 17)), (some (15, false)), [11, 9]⟩, ⟨(some 19), (.faddr 1 (.t 1)), (some (15, false)), [9]⟩, ⟨(some 20), (.load false 1 (.t 19)), (some (15, false)), [13, 9]⟩, ⟨(some 21), (.len (.t 20)), (some (15, false)), [14, 9]⟩, ⟨(some 22), (.bin false .neq (.t 18) (.t 21)), (some (15, false)), [12, 15, 9]⟩, ⟨(some 23), (.pick (.t 15) (.c (.bool true)) (.t 22)), none, [9, 16]⟩] false) (.cond (.t 23) (.seq (.region [⟨(some 2), (.mv (.c (.bool false))), none, []⟩] false) .ret) .skip)) (.seq (.region [⟨(some 3), (.mv (.c (.int .i64 (-1)))), none, []⟩] false) (.seq (.seq (.region [⟨(some 24), (.faddr 1 (.t 1)), none, []⟩, ⟨(some 25), (.load false 1 (.t 24)), none, [0]⟩, ⟨(some 26), (.len (.t 25)), none, [1]⟩, ⟨(some 27), (.mv (.c (.int .i64 0))), none, []⟩] false) (.block 0 (.loop (.seq (.region [⟨(some 28), (.bin false .lss (.t 27) (.t 26)), none, []⟩] false) (.seq (.cond (.t 28) .skip (.exit 0)) (.seq (.block 1 (.seq (.region [⟨(some 29), (.iaddr 1 (.t 25) (.t 27)), none, []⟩, ⟨(some 30), (.load false 1 (.t 29)), none, [0]⟩, ⟨(some 5), (.mv (.t 30)), none, [1, 0, 1]⟩] false) (.seq (.seq (.region [⟨(some 31), (.mv (.t 5)), none, []⟩, ⟨(some 32), (.mv (.t 3)), none, []⟩, ⟨(some 33), (.bin false .leq (.t 31) (.t 32)), none, [0, 1]⟩, ⟨(some 34), (.mv (.t 33)), none, [2]⟩, ⟨(some 35), (.mv (.t 5)), (some (34, false)), [3]⟩, ⟨(some 36), (.faddr 0 (.t 1)), (some (34, false)), [3]⟩, ⟨(some 37), (.load false 1 (.t 36)), (some (34, false)), [5, 3]⟩, ⟨(some 38), (.bin false .geq (.t 35) (.t 37)), (some (34, false)), [4, 6, 3]⟩, ⟨(some 39), (.pick (.t 34) (.c (.bool true)) (.t 38)), none, [3, 7]⟩] false) (.cond (.t 39) (.seq (.region [⟨(some 2), (.mv (.c (.bool false))), none, []⟩] false) .ret) .skip)) (.region [⟨(some 40), (.mv (.t 5)), none, []⟩, ⟨(some 3), (.mv (.t 40)), none, [0, 0]⟩] false)))) (.region [⟨(some 41), (.bin false .add (.t 27) (.c (.int .i64 1))), none, []⟩, ⟨(some 27), (.mv (.t 41)), none, [0]⟩] false))))))) (.seq (.region [⟨(some 2), (.mv (.c (.bool true))), none, []⟩] false) .ret)))))⟩
theorem told133 : trFn seat 133 = some il133 := by kernel_rfl

def il134 : IFn := ⟨12, [(.t 4)], (.seq (.region [⟨(some 4), (.mv (.c (.list true []))), none, []⟩] false) (.seq (.region [⟨(some 6), (.mv (.t 1)), none, []⟩, ⟨(some 7), (.mkslice 8 160 (.agg [(.int .i64 0), (.list true []), (.list true []), (.int .i64 0), (.list true []), (.list true []), (.list true []), (.list true [])]) (.t 6) (.t 6)), none, [0, 0]⟩, ⟨(some 5), (.mv (.t 7)), none, [1, 0, 1]⟩] false) (.seq (.region [⟨(some 8), (.mv (.t 5)), none, []⟩, ⟨(some 9), (.mv (.t 0)), none, []⟩, ⟨(some 10), (.copy 8 (.t 8) (.t 9)), none, [0, 1]⟩] false) (.seq (.region [⟨(some 11), (.mv (.t 5)), none, []⟩, ⟨(some 4), (.mv (.t 11)), none, [0, 0]⟩] false) .ret))))⟩
theorem told134 : trFn seat 134 = some il134 := by kernel_rfl

def il135 : IFn := ⟨6, [(.t 2)], (.seq (.region [⟨(some 2), (.mv (.c (.list true []))), none, []⟩] false) (.seq (.seq (.region [⟨(some 3), (.mv (.t 0)), none, []⟩, ⟨(some 4), (.call (.f 101) [(.t 3)]), none, [0]⟩] false) (.cond (.t 4) (.seq (.region [⟨(some 5), (.mv (.t 0)), none, []⟩, ⟨(some 2), (.mv (.t 5)), none, [0, 0]⟩] false) .ret) .skip)) (.seq (.region [⟨(some 2), (.mv (.c (.list true []))), none, []⟩] false) .ret)))⟩
theorem told135 : trFn seat 135 = some il135 := by kernel_rfl

def il140 : IFn := ⟨54, [(.t 4), (.t 5)], (.seq (.region [⟨(some 4), (.mv (.c (.int .i64 0))), none, []⟩, ⟨(some 5), (.mv (.c (.bool false))), none, [0]⟩] false) (.seq (.region [⟨(some 10), (.mv (.t 0)), none, []⟩, ⟨(some 11), (.len (.t 10)), none, [0]⟩, ⟨(some 6), (.mv (.t 11)), none, [1, 0, 1]⟩] false) (.seq (.region [⟨(some 12), (.mv (.t 6)), none, []⟩, ⟨(some 7), (.mv (.c (.int .i64 0))), none, []⟩, ⟨(some 8), (.mv (.t 12)), none, [0, 1, 0, 1]⟩] false) (.seq (.block 0 (.loop (.seq (.seq (.region [⟨(some 13), (.mv (.t 7)), none, []⟩, ⟨(some 14), (.mv (.t 8)), none, []⟩, ⟨(some 15), (.bin false .lss (.t 13) (.t 14)), none, [0, 1]⟩] false) (.cond (.t 15) .skip (.exit 0))) (.block 1 (.seq (.region [⟨(some 16), (.mv (.t 7)), none, []⟩, ⟨(some 17), (.mv (.t 8)), none, []⟩, ⟨(some 18), (.bin false .add (.t 16) (.t 17)), none, [0, 1]⟩, ⟨(some 19), (.convI .u64 (.t 18)), none, [2]⟩, ⟨(some 20), (.bin false .shr (.t 19) (.c (.int .u64 1))), none, [3]⟩, ⟨(some 21), (.convI .i64 (.t 20)), none, [4]⟩, ⟨(some 9), (.mv (.t 21)), none, [5, 0, 1, 2, 3, 4, 5]⟩] false) (.seq (.region [⟨(some 22), (.mv (.t 0)), none, []⟩, ⟨(some 23), (.mv (.t 9)), none, []⟩, ⟨(some 24), (.iaddr 1 (.t 22) (.t 23)), none, [0, 1]⟩, ⟨(some 25), (.load false 1 (.t 24)), none, [2]⟩, ⟨(some 26), (.mv (.t 1)), none, []⟩, ⟨(some 27), (.call (.f 56) [(.t 25), (.t 26)]), none, [3, 4]⟩] false) (.cond (.t 27) (.region [⟨(some 28), (.mv (.t 9)), none, []⟩, ⟨(some 29), (.bin false .add (.t 28) (.c (.int .i64 1))), none, [0]⟩, ⟨(some 7), (.mv (.t 29)), none, [1, 0, 1]⟩] false) (.region [⟨(some 30), (.mv (.t 9)), none, []⟩, ⟨(some 8), (.mv (.t 30)), none, [0, 0]⟩] false)))))))) (.seq (.region [⟨(some 31), (.mv (.t 7)), none, []⟩, ⟨(some 32), (.mv (.t 7)), none, []⟩, ⟨(some 33), (.mv (.t 6)), none, []⟩, ⟨(some 34), (.bin false .lss (.t 32) (.t 33)), none, [1, 2]⟩, ⟨(some 35), (.mv (.t 34)), none, [3]⟩, ⟨(some 36), (.mv (.t 0)), (some (35, true)), [4]⟩, ⟨(some 37), (.mv (.t 7)), (some (35, true)), [4]⟩, ⟨(some 38), (.iaddr 1 (.t 36) (.t 37)), (some (35, true)), [5, 6, 4]⟩, ⟨(some 39), (.load false 1 (.t 38)), (some (35, true)), [7, 4]⟩, ⟨(some 40), (.mv (.t 1)), (some (35, true)), [4]⟩, ⟨(some 41), (.bin false .eql (.t 39) (.t 40)), (some (35, true)), [8, 9, 4]⟩, ⟨(some 42), (.mv (.t 41)), (some (35, true)), [10, 4, 4]⟩, ⟨(some 43), (.mv (.t 0)), (some (42, false)), [11]⟩, ⟨(some 44), (.mv (.t 7)), (some (42, false)), [11]⟩, ⟨(some 45), (.iaddr 1 (.t 43) (.t 44)), (some (42, false)), [12, 13, 11]⟩, ⟨(some 46), (.load false 1 (.t 45)), (some (42, false)), [14, 11]⟩, ⟨(some 47), (.call (.f 155) [(.t 46)]), (some (42, false)), [15, 11, 11]⟩, ⟨(some 48), (.mv (.t 47)), (some (42, false)), [16, 16, 11]⟩, ⟨(some 49), (.mv (.t 1)), (some (48, true)), [17]⟩, ⟨(some 50), (.call (.f 155) [(.t 49)]), (some (48, true)), [18, 17, 17]⟩, ⟨(some 51), (.pick (.t 48) (.t 50) (.c (.bool false))), (some (42, false)), [17, 19, 11]⟩, ⟨(some 52), (.pick (.t 42) (.c (.bool true)) (.t 51)), (some (35, true)), [11, 20, 4]⟩, ⟨(some 53), (.pick (.t 35) (.t 52) (.c (.bool false))), none, [4, 21]⟩, ⟨(some 4), (.mv (.t 31)), none, [0, 19, 0]⟩, ⟨(some 5), (.mv (.t 53)), none, [22, 23, 0, 1, 2, 3, 4, 5, 6, 7, 8, 9, 10, 11, 12, 13, 14, 15, 16, 17, 18, 19, 20, 21, 22, 23]⟩] false) .ret)))))⟩
theorem told140 : trFn seat 140 = some il140 := by kernel_rfl

def il155 : IFn := ⟨6, [(.t 2)], (.seq (.region [⟨(some 2), (.mv (.c (.bool false))), none, []⟩] false) (.seq (.region [⟨(some 3), (.mv (.t 0)), none, []⟩, ⟨(some 4), (.mv (.t 0)), none, []⟩, ⟨(some 5), (.bin false .neq (.t 3) (.t 4)), none, [0, 1]⟩, ⟨(some 2), (.mv (.t 5)), none, [2, 0, 1, 2]⟩] false) .ret))⟩
theorem told155 : trFn seat 155 = some il155 := by kernel_rfl

end Go.Proofs.YtihhinbjhiankaaGreatDoor.Al

set_option linter.unusedSimpArgs false
set_option linter.unusedVariables false
namespace Go.Proofs.YtihhinbjhiankaaGreatDoor.Al
open Go
attribute [local go_sem] W_mv W_pick W_alloc W_box W_build W_bslice W_load W_store W_bin W_isnil W_un W_convI W_convS W_mkfunc W_mkslice W_slice W_faddr W_field W_iaddr W_extract W_len W_min W_append W_appendZ W_copy W_invoke thenQ_normal thenQ_exit thenQ_goto thenQ_ret blockQ_normal blockQ_ret blockQ_goto blockQ_exit wpc_skip wpc_region wpc_draw wpc_seq wpc_cond wpc_block wpc_exit wpc_goto wpc_label wpc_ret wpc_loop wpc_range wpc_scope condW_true condW_false condW_dec condW_any W_nil W_call resW_some evalOp Opd.ev updo_envL updo_none setL_cons setL_nil envL_cons Option.map_some Option.bind_some evBin evInt List.map_cons List.map_nil Option.pure_def Option.bind_eq_bind W_grd' grdW_tt grdW_ff grdW_tf grdW_ft grdW_tup grdW_dt grdW_df lgrdW_tup L_mv L_load L_bin L_un L_faddr L_iaddr L_nil L_call lresW_some upd_envL evUn beq_dec bne_dec leaves_ret1 leaves_ret0 leaves_end0 rowLen_ints load_iptr0 not_dec heap_get0 heap_get1 heap_set0 heap_set1 heap_len1 heap_app bslice1_int seen_ints seen_one0 Nat.sub_zero Bool.not_true Bool.not_false List.length_nil List.length_cons List.nil_append List.cons_append Nat.zero_add load_iptrA canon_ptrI canon_bool canon_tup canon_agg canon_ints' canon_ints0 rowLen_octs seen_octs canon_octs' seen_intss seen_octss rowLen_nodes seen_nodes canon_nodes' rowLen_nodes0 rowLen_nodes1 seen_list cells_int oneIn_int cells_bool oneIn_bool cells_str oneIn_str cells_list oneIn_list cells_func oneIn_func cells_nilfunc oneIn_nilfunc cells_iptr oneIn_iptr cells_iface oneIn_iface cells_nilIface oneIn_nilIface cells_own cells_ptr cells_anybool oneIn_anybool cells_agg oneIn_own0 oneIn_own1 oneIn_own3 oneIn_own4 oneIn_own5 cells_ints oneIn_ints cells_octs oneIn_octs cells_intss oneIn_intss cells_octss oneIn_octss cells_nodes oneIn_nodes ldB0 ldA0 adB0 stB0 ldB1 ldA1 adB1 stB1 ldB2 ldA2 adB2 stB2 ldB3 ldA3 adB3 stB3 ldB4 ldA4 adB4 stB4 ldB5 ldA5 adB5 stB5 List.getElem?_cons_zero List.getElem?_cons_succ beq_self_eq_true splice List.take_zero List.take_succ_cons List.drop_zero List.drop_succ_cons List.append_nil List.set_cons_zero List.set_cons_succ List.all_cons List.all_nil Bool.and_self and_self and_true true_and Nat.lt_irrefl Nat.zero_lt_one Nat.le_refl fillA evNil notA Bool.false_eq_true evMin_int evMax_int Option.map_none freezeP_all_nil freezeP_all_cons frzE_box frzE_arr frzE_dead foldA List.foldlM_cons List.foldlM_nil callW_f lcallW_f ansW_fn ansW_own lansW_fn lansW_own ansW_none lansW_none tab_cons tab_nil dI_int dB_bool dO_octs dO_ints dO_nil dOs_nil dN_nodeA dLf_agg dIn_agg dN_agg dNs_nodes dNs_nil isI_int isO_octs isO_nil isS_ints isS_nil isNs_nodes isNs_nil isLf_agg isIn_agg isN_agg leaf_eta inner_eta node_eta leaf_zero inner_zero node_zero dP_agg isP_agg patch_eta decide_eq_true_eq decide_eq_false_iff_not eq_self forall_const true_implies false_implies Bool.not_eq_true' Bool.not_eq_false' Bool.true_eq_false implies_true ne_eq ldI ldIA adI AV.tup.injEq AV.agg.injEq List.cons.injEq AV.int.injEq AV.bool.injEq nodes_inj octs_inj ints_inj nil_nodes nil_octs nil_ints canon_nilL decide_eq_decide two_ne lendA_fn lendA_own lendA_none llendA_fn llendA_none plain_bool plain_int isNs_own isS_own false_and and_false Q_nil Q_l Q_g Q_h qgrdW_b qgrdW_tup lightD_some heavyD_some readD_some fnD_some fnD_own fnD_none callL_f ownH_some callH_f litD_some litE_some Q_call Q_bslice H_call pendOk_nil pendOk_cons pastOk_nil pastOk_cons Q_mv Q_pick Q_bin Q_un Q_convI Q_mkfunc Q_extract Q_min Q_max Q_lenS Q_lenA Q_field Q_idxA Q_mkiface Q_tassert Q_alloc Q_box Q_store Q_mkslice Q_append Q_appendZ Q_copy Q_clear Q_build Q_load Q_nilck Q_isnil Q_convS Q_slice Q_faddr Q_iaddr Q_iaddrA Q_len H_alloc H_box H_bslice H_store H_mkslice H_append H_appendZ H_copy H_clear free_mv free_pick free_bin free_un free_convI free_mkfunc free_extract free_min free_max free_lenS free_lenA free_field free_idxA free_mkiface free_tassert free_build free_load free_nilck free_isnil free_convS free_slice free_faddr free_iaddr free_iaddrA free_len callW_y List.length_map List.length_set leaves_r evR_some evRess1 evRess2 evRess3 evRes_t evRes_c nz_kind nz_enc nz_cred nz_source nz_parent nz_ienc nz_hash nz_un true_or or_true bsl_node idbs_node idbs_int appN appI ixo_nodes canon_row canon_rowI canon_rowO not_false_eq_true not_true_eq_false ldE_a ldE_c adE_b stE_b onE_a onP_b bsl_zero idbs_zero appN_zero
attribute [local go_sem low] condW_b grdW_b lgrdW_b ldP adP stP onO onPt
attribute [local simp] envL_cons envL_nil idb_int idb_bool idb_ints idb_nil idb_own idb_ptr idb_octs idb_nodes idb_leafA idb_innerA idb_nodeA idb_agg idb_tup idb_iptr idb_fn entB_dead entB_box
def patchFew (p : Patch) : Prop := p.x.length ≤ 200 ∧ Few p.n
instance (p : Patch) : Decidable (patchFew p) := inferInstanceAs (Decidable (_ ∧ _))
theorem dknown_spec (t : List Node) (ht : Tree.Ok t) : Fun seat 135 [nodes t] (nodes (known t)) := by
  refine Fun.of0R [r101] told135 (by simp [il135]) (by simp [idb_patchA]) (by simp [idb_patchA]) 4 ?_
  simp only [il135, List.zipIdx_cons, List.zipIdx_nil, leafA, innerA, nodeA, patchA, Leaf.cells, Inner.cells, Node.cells, r101_c, r101_ask, ht, go_sem, Nat.reduceEqDiff, reduceIte, Nat.reduceAdd, Nat.reduceLeDiff, Nat.reduceLT, Nat.reduceSub]
  iterate 12 ((all_goals intros); (all_goals try refine And.intro ?_ ?_))
  all_goals first | (show WP _ _ _ _ _ _ _) | grind [known]
noncomputable def r135 : Reg seat := .of told135 (ask1 (fun a0' => isNs a0' ∧ Tree.Ok (dNs a0')) fun a0' => .fn (nodes (known (dNs a0')))) (ask1_ok fun a0' h => SaidOk.fn (Fun.weak (.cons (isNs.weak h.1) .nil) (dknown_spec _ h.2)))
theorem r135_c : r135.c = 135 := rfl
open Classical in
theorem r135_ask (a0' : AV) : r135.ask [a0'] = if isNs a0' ∧ Tree.Ok (dNs a0') then some (Said.fn (nodes (known (dNs a0')))) else none := by unfold r135 Reg.of ask1; exact ite_cl

theorem copyZ (t : List Node) (n : Nat) : evCopy [.arr 8 0 (List.replicate n zeroA)] 8 (.own 0 0 0 n) (t.map nodeA) = some (.int .i64 (min t.length n : Nat), [.arr 8 0 ((t.take n).map nodeA ++ List.replicate (n - t.length) zeroA)]) := by
  have h1 : szOk [.arr 8 0 (List.replicate n zeroA)] 8 (t.map nodeA) = true := encNode.szOk _ t
  simp only [evCopy, List.getElem?_cons_zero, h1, List.length_replicate, Nat.zero_le, Nat.le_refl, and_self, if_true, List.length_map, Nat.sub_zero, List.take_zero, List.nil_append, Nat.zero_add, List.set_cons_zero, List.drop_replicate]
  congr 4
  · rw [List.map_take]; congr 1
    rcases Nat.le_total t.length n with h | h
    · rw [Nat.min_eq_left h, List.take_of_length_le (by simp), List.take_of_length_le (by simpa using h)]
    · rw [Nat.min_eq_right h]
    congr 1; omega

theorem derefZ (H : List Entry) (l : List Node) (n : Nat) : (l.map nodeA ++ List.replicate n zeroA).map (derefN H 2) = (l ++ List.replicate n Node.zero).map nodeA := by
  rw [List.map_append, List.map_map, List.map_replicate, zeroA_norm, List.map_append, List.map_replicate]
  congr 1
  exact List.map_congr_left fun x _ => encNode.norm H 2 x
theorem fitted_spec (t : List Node) (n : Int) (hn : 0 ≤ n ∧ n ≤ 4294967295) : FunOwn seat 134 [nodes t, .int .i64 n] 8 ((fitT t n.toNat).map nodeA) := by
  obtain ⟨k, rfl⟩ : ∃ k : Nat, n = k := ⟨n.toNat, by omega⟩
  have mk : evMkslice [] 8 160 zeroA (.int .i64 (k : Int)) (.int .i64 (k : Int)) = some (.own 0 0 0 k, [.arr 8 0 (List.replicate k zeroA)]) := by
    have h1 : szOk [] 8 [zeroA] = true := rfl
    simp only [evMkslice, h1, Int.toNat_natCast, List.length_nil, List.nil_append]
    rw [if_pos (by refine ⟨by omega, trivial, by unfold maxRow; omega, by decide, by decide, trivial⟩)]
  have cz := copyZ t k
  unfold zeroA at mk cz
  refine FunOwn.of0W told134 (by simp [il134]) (by simp ) (encNode.xs_idb _) ?_
  simp only [il134, List.zipIdx_cons, List.zipIdx_nil, Nat.zero_add, List.map_cons, List.map_nil]
  refine WP.seqR [] fun K hK => ?_
  simp only [go_sem, Nat.reduceEqDiff, reduceIte, Nat.reduceAdd, Nat.reduceLeDiff, Nat.reduceLT, Nat.reduceSub]
  refine hK _ (WP.seqR [] fun K hK => ?_)
  simp only [go_sem, Nat.reduceEqDiff, reduceIte, Nat.reduceAdd, Nat.reduceLeDiff, Nat.reduceLT, Nat.reduceSub, mk]
  refine hK _ (WP.seqR [] fun K hK => ?_)
  simp only [go_sem, Nat.reduceEqDiff, reduceIte, Nat.reduceAdd, Nat.reduceLeDiff, Nat.reduceLT, Nat.reduceSub, cz]
  refine hK _ (WP.derefRow 0 2 rfl ?_)
  have dz := fun H => derefZ H (t.take k) (k - t.length)
  unfold zeroA at dz
  simp only [List.set_cons_zero, dz]
  refine wpc_soundR [] ?_
  simp only [go_sem, Nat.reduceEqDiff, reduceIte, Nat.reduceAdd, Nat.reduceLeDiff, Nat.reduceLT, Nat.reduceSub]
  exact .inl ⟨0, 0, by rw [Int.toNat_natCast, fitT_len], by rw [Int.toNat_natCast]; rfl⟩
noncomputable def r134 : Reg seat := .of told134 (ask2 (fun a0' a1' => isNs a0' ∧ isI a1' ∧ 0 ≤ (dI a1') ∧ (dI a1') ≤ 4294967295) fun a0' a1' => .own 8 ((fitT (dNs a0') (dI a1').toNat).map nodeA)) (ask2_ok fun a0' a1' h => SaidOk.own (FunOwn.weak (.cons (isNs.weak h.1) (.cons (isI.weak h.2.1) .nil)) (fitted_spec _ _ h.2.2)) (by first | exact encU8.xs_idb _ | exact encI64.xs_idb _ | exact encNode.xs_idb _))
theorem r134_c : r134.c = 134 := rfl
open Classical in
theorem r134_ask (a0' a1' : AV) : r134.ask [a0', a1'] = if isNs a0' ∧ isI a1' ∧ 0 ≤ (dI a1') ∧ (dI a1') ≤ 4294967295 then some (Said.own 8 ((fitT (dNs a0') (dI a1').toNat).map nodeA)) else none := by unfold r134 Reg.of ask2; exact ite_cl

attribute [local simp] prev_zero
theorem may_spec (p : Patch) (hp : p.Ok) : Fun seat 133 [patchA p] (.bool (decide (May p))) := by
  have hl := hp.x.len
  have c0 : ¬ (p.len = 0 ∨ Whole p.len) → ¬ May p := fun h h1 => h h1.2.1
  have c1 : ¬ p.n.length = p.x.length → ¬ May p := fun h h1 => h h1.2.2
  refine Fun.of0R [r125] told133 (by simp [il133]) (by simp [idb_patchA]) (by simp [idb_patchA]) 4 ?_
  simp only [il133, List.zipIdx_cons, List.zipIdx_nil, leafA, innerA, nodeA, patchA, Leaf.cells, Inner.cells, Node.cells, r125_c, r125_ask, go_sem, Nat.reduceEqDiff, reduceIte, Nat.reduceAdd, Nat.reduceLeDiff, Nat.reduceLT, Nat.reduceSub]
  iterate 12 ((all_goals intros); (all_goals try refine And.intro ?_ ?_))
  all_goals first | (show WP _ _ _ _ _ _ _) | grind
  all_goals
    have hw : p.len = 0 ∨ Whole p.len := by grind
    have hn : p.n.length = p.x.length := by omega
    clear c0 c1
    refine WP.loopG (fun k => k ≤ p.x.length ∧ ∀ j (h : j < p.x.length), j < k → prev p.x j < p.x[j] ∧ p.x[j] < p.len) (fun k => [(1, .ptr 0 0), (3, .int .i64 (prev p.x k)), (25, ints p.x), (26, .int .i64 p.x.length), (27, .int .i64 k)]) (fun k => [.box [.int .i64 p.len, ints p.x, nodes p.n]]) (fun k => p.x.length - k) 0 ⟨Nat.zero_le _, fun j _ h => absurd h (Nat.not_lt_zero j)⟩ (fun k _ => by simp [idb_patchA]) (by simp ) ?_
    rintro k ⟨hk, hno⟩
    refine wpc_soundR [] ?_
    simp only [leafA, innerA, nodeA, patchA, Leaf.cells, Inner.cells, Node.cells, go_sem, Nat.reduceEqDiff, reduceIte, Nat.reduceAdd, Nat.reduceLeDiff, Nat.reduceLT, Nat.reduceSub]
    refine ⟨fun hlt => ?_, fun hge => ?_⟩
    · have hk' : k < p.x.length := by omega
      simp only [leafA, innerA, nodeA, patchA, Leaf.cells, Inner.cells, Node.cells, fun H => index_ints H p.x k hk', go_sem, Nat.reduceEqDiff, reduceIte, Nat.reduceAdd, Nat.reduceLeDiff, Nat.reduceLT, Nat.reduceSub]
      have bad : ¬ (prev p.x k < p.x[k] ∧ p.x[k] < p.len) → ¬ May p := fun h h1 => h ⟨h1.prev hk', (h1.at hk').2⟩
      iterate 12 ((all_goals intros); (all_goals try refine And.intro ?_ ?_))
      all_goals first | exact ⟨k + 1, ⟨hk', scanS hno fun _ => by omega⟩, by omega, by simp [wrapS (show k < 9223372036854775807 by omega), prev_succ hk']⟩ | grind
    · have e : May p := may_of (scanE hno hge) hw hn
      grind
noncomputable def r133 : Reg seat := .of told133 (ask1 (fun a0' => isP a0' ∧ (dP a0').Ok) fun a0' => .fn (.bool (decide (May (dP a0'))))) (ask1_ok fun a0' h => SaidOk.fn (Fun.weak (.cons (isP.weak h.1) .nil) (may_spec _ h.2)))
theorem r133_c : r133.c = 133 := rfl
open Classical in
theorem r133_ask (a0' : AV) : r133.ask [a0'] = if isP a0' ∧ (dP a0').Ok then some (Said.fn (.bool (decide (May (dP a0'))))) else none := by unfold r133 Reg.of ask1; exact ite_cl

end Go.Proofs.YtihhinbjhiankaaGreatDoor.Al

set_option linter.unusedSimpArgs false
set_option linter.unusedVariables false
namespace Go.Proofs.YtihhinbjhiankaaGreatDoor.Al
open Go

attribute [local simp] upI_zero upN_zero
end Go.Proofs.YtihhinbjhiankaaGreatDoor.Al

set_option linter.unusedSimpArgs false
set_option linter.unusedVariables false
namespace Go.Proofs.YtihhinbjhiankaaGreatDoor.Al
open Go
attribute [local go_sem] W_mv W_pick W_alloc W_box W_build W_bslice W_load W_store W_bin W_isnil W_un W_convI W_convS W_mkfunc W_mkslice W_slice W_faddr W_field W_iaddr W_extract W_len W_min W_append W_appendZ W_copy W_invoke thenQ_normal thenQ_exit thenQ_goto thenQ_ret blockQ_normal blockQ_ret blockQ_goto blockQ_exit wpc_skip wpc_region wpc_draw wpc_seq wpc_cond wpc_block wpc_exit wpc_goto wpc_label wpc_ret wpc_loop wpc_range wpc_scope condW_true condW_false condW_dec condW_any W_nil W_call resW_some evalOp Opd.ev updo_envL updo_none setL_cons setL_nil envL_cons Option.map_some Option.bind_some evBin evInt List.map_cons List.map_nil Option.pure_def Option.bind_eq_bind W_grd' grdW_tt grdW_ff grdW_tf grdW_ft grdW_tup grdW_dt grdW_df lgrdW_tup L_mv L_load L_bin L_un L_faddr L_iaddr L_nil L_call lresW_some upd_envL evUn beq_dec bne_dec leaves_ret1 leaves_ret0 leaves_end0 rowLen_ints load_iptr0 not_dec heap_get0 heap_get1 heap_set0 heap_set1 heap_len1 heap_app bslice1_int seen_ints seen_one0 Nat.sub_zero Bool.not_true Bool.not_false List.length_nil List.length_cons List.nil_append List.cons_append Nat.zero_add load_iptrA canon_ptrI canon_bool canon_tup canon_agg canon_ints' canon_ints0 rowLen_octs seen_octs canon_octs' seen_intss seen_octss rowLen_nodes seen_nodes canon_nodes' rowLen_nodes0 rowLen_nodes1 seen_list cells_int oneIn_int cells_bool oneIn_bool cells_str oneIn_str cells_list oneIn_list cells_func oneIn_func cells_nilfunc oneIn_nilfunc cells_iptr oneIn_iptr cells_iface oneIn_iface cells_nilIface oneIn_nilIface cells_own cells_ptr cells_anybool oneIn_anybool cells_agg oneIn_own0 oneIn_own1 oneIn_own3 oneIn_own4 oneIn_own5 cells_ints oneIn_ints cells_octs oneIn_octs cells_intss oneIn_intss cells_octss oneIn_octss cells_nodes oneIn_nodes ldB0 ldA0 adB0 stB0 ldB1 ldA1 adB1 stB1 ldB2 ldA2 adB2 stB2 ldB3 ldA3 adB3 stB3 ldB4 ldA4 adB4 stB4 ldB5 ldA5 adB5 stB5 List.getElem?_cons_zero List.getElem?_cons_succ beq_self_eq_true splice List.take_zero List.take_succ_cons List.drop_zero List.drop_succ_cons List.append_nil List.set_cons_zero List.set_cons_succ List.all_cons List.all_nil Bool.and_self and_self and_true true_and Nat.lt_irrefl Nat.zero_lt_one Nat.le_refl fillA evNil notA Bool.false_eq_true evMin_int evMax_int Option.map_none freezeP_all_nil freezeP_all_cons frzE_box frzE_arr frzE_dead foldA List.foldlM_cons List.foldlM_nil callW_f lcallW_f ansW_fn ansW_own lansW_fn lansW_own ansW_none lansW_none tab_cons tab_nil dI_int dB_bool dO_octs dO_ints dO_nil dOs_nil dN_nodeA dLf_agg dIn_agg dN_agg dNs_nodes dNs_nil isI_int isO_octs isO_nil isS_ints isS_nil isNs_nodes isNs_nil isLf_agg isIn_agg isN_agg leaf_eta inner_eta node_eta leaf_zero inner_zero node_zero dP_agg isP_agg patch_eta decide_eq_true_eq decide_eq_false_iff_not eq_self forall_const true_implies false_implies Bool.not_eq_true' Bool.not_eq_false' Bool.true_eq_false implies_true ne_eq ldI ldIA adI AV.tup.injEq AV.agg.injEq List.cons.injEq AV.int.injEq AV.bool.injEq nodes_inj octs_inj ints_inj nil_nodes nil_octs nil_ints canon_nilL decide_eq_decide two_ne lendA_fn lendA_own lendA_none llendA_fn llendA_none plain_bool plain_int isNs_own isS_own false_and and_false Q_nil Q_l Q_g Q_h qgrdW_b qgrdW_tup lightD_some heavyD_some readD_some fnD_some fnD_own fnD_none callL_f ownH_some callH_f litD_some litE_some Q_call Q_bslice H_call pendOk_nil pendOk_cons pastOk_nil pastOk_cons Q_mv Q_pick Q_bin Q_un Q_convI Q_mkfunc Q_extract Q_min Q_max Q_lenS Q_lenA Q_field Q_idxA Q_mkiface Q_tassert Q_alloc Q_box Q_store Q_mkslice Q_append Q_appendZ Q_copy Q_clear Q_build Q_load Q_nilck Q_isnil Q_convS Q_slice Q_faddr Q_iaddr Q_iaddrA Q_len H_alloc H_box H_bslice H_store H_mkslice H_append H_appendZ H_copy H_clear free_mv free_pick free_bin free_un free_convI free_mkfunc free_extract free_min free_max free_lenS free_lenA free_field free_idxA free_mkiface free_tassert free_build free_load free_nilck free_isnil free_convS free_slice free_faddr free_iaddr free_iaddrA free_len callW_y List.length_map List.length_set leaves_r evR_some evRess1 evRess2 evRess3 evRes_t evRes_c nz_kind nz_enc nz_cred nz_source nz_parent nz_ienc nz_hash nz_un true_or or_true bsl_node idbs_node idbs_int appN appI ixo_nodes canon_row canon_rowI canon_rowO not_false_eq_true not_true_eq_false ldE_a ldE_c adE_b stE_b onE_a onP_b bsl_zero idbs_zero appN_zero
attribute [local go_sem low] condW_b grdW_b lgrdW_b ldP adP stP onO onPt
attribute [local simp] envL_cons envL_nil idb_int idb_bool idb_ints idb_nil idb_own idb_ptr idb_octs idb_nodes idb_leafA idb_innerA idb_nodeA idb_agg idb_tup idb_iptr idb_fn entB_dead entB_box
attribute [local simp] upI_zero upN_zero
def IC.snd : IC → IC
  | .seq _ b => b
  | x => x
def IC.sub : IC → IC
  | .scope b => b
  | .block _ b => b
  | .loop b => b
  | x => x

def zp : List AV := [.int .i64 0, .list true [], .list true []]
def makeL (B F : List Node) (s : Nat × Nat × Nat) : List (Nat × AV) := [(4, AV.ptr 0 0), (0, nodes F), (1, nodes B), (5, .ptr 2 0), (6, .int .i64 (s.1 : Nat))]
def makeG (A B F : List Node) (s : Nat × Nat × Nat) : List Entry := [.box zp, .frz 8 0 (F.map nodeA), .box [.int .i64 B.length, .own 3 s.2.1 0 (upI (differ A B) s.1).length, .own 4 s.2.2 0 (upN (nodeAt B) (differ A B) s.1).length],
  .arr 1 s.2.1 ((upI (differ A B) s.1).map (AV.int .i64)), .arr 8 s.2.2 ((upN (nodeAt B) (differ A B) s.1).map nodeA)]
theorem make_spec (a b : List Node) (ha : Tree.Ok a) (hb : Tree.Ok b) : Fun seat 119 [nodes a, nodes b] (patchA (makeT a b)) := by
  have hka := known_ok ha
  have hkb := known_ok hb
  have hl := known_len b
  unfold makeT placesT
  have hdf : ∀ x, x < (known b).length → differ (known a) (known b) x = decide (¬ nodeAt (fitT (known a) (known b).length) x = nodeAt (known b) x) := fun x hx => by rw [differ, fitT_at _ hx]
  have hfo := fitT_ok hka (n := (known b).length) (by omega)
  have hfl := fitT_len (known a) (known b).length
  have hn2 : ((known b).length : Int) ≤ 4294967295 := by omega
  refine Fun.of0W told119 (by simp [il119]) (by simp ) (by simp [idb_patchA]) 4 ?_
  simp only [il119, List.zipIdx_cons, List.zipIdx_nil, Nat.zero_add, List.map_cons, List.map_nil]
  refine WP.seqR [] fun K hK => ?_
  simp only [go_sem, Nat.reduceEqDiff, reduceIte, Nat.reduceAdd, Nat.reduceLeDiff, Nat.reduceLT, Nat.reduceSub]
  refine hK _ ?_
  clear hK K
  have key : ∀ s : Nat × Nat × Nat, s.1 ≤ (known b).length → WP seat none 49 0 il119.body.snd.sub.snd.snd.snd.snd.snd
      (jumpQ 0 (fun st' => ∃ s' : Nat × Nat × Nat, s'.1 ≤ (known b).length ∧ (known b).length - s'.1 < (known b).length - s.1 ∧
        (∀ p ∈ makeL (known b) (fitT (known a) (known b).length) s', st'.env p.1 = p.2) ∧ st'.H.take (makeG (known a) (known b) (fitT (known a) (known b).length) s').length = makeG (known a) (known b) (fitT (known a) (known b).length) s')
        (leaves il119.res fun r' H' => canon H' 4 r' = patchA ⟨(known b).length, upI (differ (known a) (known b)) (known b).length, upN (nodeAt (known b)) (differ (known a) (known b)) (known b).length⟩))
      ⟨envL (makeL (known b) (fitT (known a) (known b).length) s), makeG (known a) (known b) (fitT (known a) (known b).length) s⟩ := by
    unfold makeL makeG
    generalize known a = A at *
    generalize known b = B at *
    generalize fitT A B.length = F at *
    rintro ⟨k, v1, v2⟩ hk
    simp only at hk
    simp only [il119, IC.snd, IC.sub, zp]
    refine wpc_soundR [] ?_
    simp only [leafA, innerA, nodeA, patchA, Leaf.cells, Inner.cells, Node.cells, go_sem, Nat.reduceEqDiff, reduceIte, Nat.reduceAdd, Nat.reduceLeDiff, Nat.reduceLT, Nat.reduceSub]
    refine ⟨fun he => ?_, fun hne => ?_⟩
    · obtain rfl : k = B.length := by omega
      simp only [jumpQ_ret, go_sem, Nat.reduceEqDiff, reduceIte, Nat.reduceAdd, Nat.reduceLeDiff, Nat.reduceLT, Nat.reduceSub]
    · have hk' : k < B.length := by omega
      have hkn := nodeAt_lt hk'
      have hkF : k < F.length := by omega
      have hkf := nodeAt_lt hkF
      have dif : differ A B k = decide (¬ F[k] = B[k]) := by rw [hdf k hk', hkn, hkf]
      refine WP.drawQ [r121] [.l, .l, .g 0 0, .g 0 0, .l, .l, .g 0 0, .g 0 0, .l, .l] mixed (by decide) ?_
      simp only [leafA, innerA, nodeA, patchA, Leaf.cells, Inner.cells, Node.cells, r121_c, r121_ask, fun H => ix_nodes H B k hk', fun H => ix_nodes H F k hkF, hkb.at hk', hfo.at hkF, go_sem, Nat.reduceEqDiff, reduceIte, Nat.reduceAdd, Nat.reduceLeDiff, Nat.reduceLT, Nat.reduceSub]
      have hu1 := upI_len (differ A B) k
      have hu2 := upN_len (nodeAt B) (differ A B) k
      have hx1 : (upI (differ A B) k).length + 1 ≤ maxRow := by unfold maxRow; omega
      have hx2 : (upN (nodeAt B) (differ A B) k).length + 1 ≤ maxRow := by unfold maxRow; omega
      refine ⟨fun h => ?_, fun h => ?_⟩
      · have hd : differ A B k = true := by rw [dif]; simpa using h
        refine WP.drawQ [] [.g 0 0, .g 0 0, .l, .l, .h 0, .g 0 1, .g 0 1, .l, .l, .g 0 1, .g 0 1, .l, .h 1, .g 1 2, .h 2, .g 3 3, .h 3] mixed (by decide) ?_
        simp only [leafA, innerA, nodeA, patchA, Leaf.cells, Inner.cells, Node.cells, fun H => ix_nodes H B k hk', hx1, hx2, jumpQ_goto, go_sem, Nat.reduceEqDiff, reduceIte, Nat.reduceAdd, Nat.reduceLeDiff, Nat.reduceLT, Nat.reduceSub]
        exact ⟨(k + 1, v1 + 1, v2 + 1), hk', by omega, by simp [wrapS (show k < 9223372036854775807 by omega)], by simp [upI_yes hd, upN_yes hd, hkn]⟩
      · have hd : differ A B k = false := by rw [dif]; simpa using h
        simp only [jumpQ_goto, go_sem, Nat.reduceEqDiff, reduceIte, Nat.reduceAdd, Nat.reduceLeDiff, Nat.reduceLT, Nat.reduceSub]
        exact ⟨(k + 1, v1, v2), hk', by omega, by simp [wrapS (show k < 9223372036854775807 by omega)], by simp [upI_no hd, upN_no hd]⟩
  refine WP.scopeG 0 rfl (fun s : Nat × Nat × Nat => s.1 ≤ (known b).length) (makeL (known b) (fitT (known a) (known b).length)) (makeG (known a) (known b) (fitT (known a) (known b).length)) (fun s => (known b).length - s.1) (fun s _ => ?_) ?_ (fun s hs => ?_)
  · refine ⟨by simp [makeG], by simp [makeL, makeG], fun e he => ?_⟩
    simp only [makeG, List.mem_cons, List.not_mem_nil, or_false] at he
    rcases he with rfl | rfl | rfl | rfl | rfl <;> first | exact encNode.entB _ _ _ _ | exact encI64.entB _ _ _ _ | exact entB_frzN _ _ _ | simp [makeG, zp]
  · refine WP.seqR [r135] fun K hK => ?_
    simp only [leafA, innerA, nodeA, patchA, Leaf.cells, Inner.cells, Node.cells, r135_c, r135_ask, hb, go_sem, Nat.reduceEqDiff, reduceIte, Nat.reduceAdd, Nat.reduceLeDiff, Nat.reduceLT, Nat.reduceSub]
    refine hK _ (WP.seqR [r135, r134] ?_)
    clear hK K
    intro K hK
    simp only [leafA, innerA, nodeA, patchA, Leaf.cells, Inner.cells, Node.cells, r135_c, r135_ask, r134_c, r134_ask, ha, Int.natCast_nonneg, hn2, Int.toNat_natCast, go_sem, Nat.reduceEqDiff, reduceIte, Nat.reduceAdd, Nat.reduceLeDiff, Nat.reduceLT, Nat.reduceSub]
    refine hK _ (WP.freeze all (WP.deref 0 1 ?_))
    clear hK K
    have ed := frz_rowN (H := freezeP all [.box zp, .arr 8 0 ((fitT (known a) (known b).length).map nodeA)]) (id := 1) (ver := 0) (k := 0) (l := fitT (known a) (known b).length) rfl
    simp only [freezeP_all_cons, freezeP_all_nil, frzE_box, frzE_arr, zp] at ed
    refine WP.weakL [(0, nodes (fitT (known a) (known b).length)), (1, nodes (known b)), (4, .ptr 0 0)] ?_ ?_
    · simp only [upd_envL, freezeP_all_cons, freezeP_all_nil, frzE_box, frzE_arr, envL_cons, Nat.reduceEqDiff, reduceIte, ed, List.mem_cons, List.not_mem_nil, or_false, forall_eq_or_imp, forall_eq, weak_refl, and_self]
    simp only [freezeP_all_cons, freezeP_all_nil, frzE_box, frzE_arr]
    refine WP.seqR [] fun K hK => ?_
    simp only [go_sem, Nat.reduceEqDiff, reduceIte, Nat.reduceAdd, Nat.reduceLeDiff, Nat.reduceLT, Nat.reduceSub]
    refine hK _ (WP.seqR [] ?_)
    clear hK K
    intro K hK
    simp only [go_sem, Nat.reduceEqDiff, reduceIte, Nat.reduceAdd, Nat.reduceLeDiff, Nat.reduceLT, Nat.reduceSub]
    refine hK _ (WP.seq (WP.label ?_))
    clear hK K
    refine WP.adoptB 2 1 1 rfl rfl (WP.adoptB 2 2 8 rfl rfl ?_)
    refine WP.mono (WP.weakL (makeL (known b) (fitT (known a) (known b).length) (0, 0, 0)) ?_ (key (0, 0, 0) (Nat.zero_le _))) ?_
    · simp only [makeL, upd_envL, envL_cons, Nat.reduceEqDiff, reduceIte, List.mem_cons, List.not_mem_nil, or_false, forall_eq_or_imp, forall_eq, weak_refl, and_self]
      exact ⟨trivial, trivial, trivial, trivial, .refl _⟩
    · intro e st h
      cases e with
      | goto l =>
        obtain ⟨rfl, s', h1, _, h3, h4⟩ := h
        exact ⟨rfl, s', h1, h3, h4⟩
      | _ => exact h
  · refine WP.seqR [] fun K hK => ?_
    simp only [go_sem, Nat.reduceEqDiff, reduceIte, Nat.reduceAdd, Nat.reduceLeDiff, Nat.reduceLT, Nat.reduceSub]
    exact hK _ (key s hs)
noncomputable def r119 : Reg seat := .of told119 (ask2 (fun a0' a1' => isNs a0' ∧ isNs a1' ∧ Tree.Ok (dNs a0') ∧ Tree.Ok (dNs a1')) fun a0' a1' => .fn (patchA (makeT (dNs a0') (dNs a1')))) (ask2_ok fun a0' a1' h => SaidOk.fn (Fun.weak (.cons (isNs.weak h.1) (.cons (isNs.weak h.2.1) .nil)) (make_spec _ _ h.2.2.1 h.2.2.2)))
theorem r119_c : r119.c = 119 := rfl
open Classical in
theorem r119_ask (a0' a1' : AV) : r119.ask [a0', a1'] = if isNs a0' ∧ isNs a1' ∧ Tree.Ok (dNs a0') ∧ Tree.Ok (dNs a1') then some (Said.fn (patchA (makeT (dNs a0') (dNs a1')))) else none := by unfold r119 Reg.of ask2; exact ite_cl

theorem places_spec (a b : List Node) (ha : Tree.Ok a) (hb : Tree.Ok b) : Fun seat 116 [nodes a, nodes b] (ints (placesT a b)) := by
  refine Fun.of0R [r119] told116 (by simp [il116]) (by simp [idb_patchA]) (by simp [idb_patchA]) 4 ?_
  simp only [il116, List.zipIdx_cons, List.zipIdx_nil, leafA, innerA, nodeA, patchA, Leaf.cells, Inner.cells, Node.cells, r119_c, r119_ask, ha, hb, go_sem, Nat.reduceEqDiff, reduceIte, Nat.reduceAdd, Nat.reduceLeDiff, Nat.reduceLT, Nat.reduceSub]
  simp only [makeT]
noncomputable def r116 : Reg seat := .of told116 (ask2 (fun a0' a1' => isNs a0' ∧ isNs a1' ∧ Tree.Ok (dNs a0') ∧ Tree.Ok (dNs a1')) fun a0' a1' => .fn (ints (placesT (dNs a0') (dNs a1')))) (ask2_ok fun a0' a1' h => SaidOk.fn (Fun.weak (.cons (isNs.weak h.1) (.cons (isNs.weak h.2.1) .nil)) (places_spec _ _ h.2.2.1 h.2.2.2)))
theorem r116_c : r116.c = 116 := rfl
open Classical in
theorem r116_ask (a0' a1' : AV) : r116.ask [a0', a1'] = if isNs a0' ∧ isNs a1' ∧ Tree.Ok (dNs a0') ∧ Tree.Ok (dNs a1') then some (Said.fn (ints (placesT (dNs a0') (dNs a1')))) else none := by unfold r116 Reg.of ask2; exact ite_cl

theorem sets_at (t : List Node) (p : Patch) (k : Nat) (h1 : k < p.x.length) (h2 : k < p.n.length) : putsT t ((p.x.zip p.n).take (k + 1)) = (putsT t ((p.x.zip p.n).take k)).set (p.x[k]).toNat p.n[k] := by
  rw [List.take_succ_eq_append_getElem (by simp; omega), putsT_snoc]
  simp
theorem putsN_ok {t : List Node} (ht : Tree.Ok t) {p : Patch} (hp : p.Ok) (k : Nat) : Tree.Ok (putsT t ((p.x.zip p.n).take k)) := putsT_ok ht fun q hq => hp.n.2 _ (List.of_mem_zip (List.mem_of_mem_take hq)).2

theorem apply_spec (a : List Node) (p : Patch) (ha : Tree.Ok a) (hp : p.Ok) : Fun seat 112 [nodes a, patchA p] (.tup [nodes (applyT a p).1, .int .i64 (applyT a p).2]) := by
  have hka := known_ok ha
  by_cases hm : May p
  rotate_left
  · have e : applyT a p = ([], 2) := if_pos hm
    rw [e]
    refine Fun.of0R [r133] told112 (by simp [il112]) (by simp [idb_patchA]) (by simp [idb_patchA]) 4 ?_
    simp only [il112, List.zipIdx_cons, List.zipIdx_nil, leafA, innerA, nodeA, patchA, Leaf.cells, Inner.cells, Node.cells, r133_c, r133_ask, hp, hm, go_sem, Nat.reduceEqDiff, reduceIte, Nat.reduceAdd, Nat.reduceLeDiff, Nat.reduceLT, Nat.reduceSub]
  have e : applyT a p = let t := putsT (fitT (known a) p.len.toNat) (p.x.zip p.n); if ¬ Sane t then ([], 14) else (t, 0) := if_neg (not_not_intro hm)
  rw [e]
  have hml := hm.len
  have hnx := hm.nx
  have hat := fun k (hk : k < p.x.length) => hm.at hk
  obtain ⟨L, hL⟩ : ∃ L : Nat, p.len = L := ⟨p.len.toNat, by omega⟩
  rw [hL, Int.toNat_natCast]
  have hfl := fitT_len (known a) L
  have hfo := fitT_ok hka (n := L) (by omega)
  have hL2 : (L : Int) ≤ 4294967295 := by omega
  have hpl : (p.x.zip p.n).length = p.x.length := by simp [hnx]
  have hpo := fun j => putsN_ok hfo hp j
  have hsa := fun j h1 => sets_at (fitT (known a) L) p j h1 (by omega)
  have hpl2 := fun j => putsT_len (fitT (known a) L) ((p.x.zip p.n).take j)
  refine Fun.of0R [r133, r101] told112 (by simp [il112]) (by simp [idb_patchA]) (by simp [idb_patchA]) 4 ?_
  simp only [il112, List.zipIdx_cons, List.zipIdx_nil, leafA, innerA, nodeA, patchA, Leaf.cells, Inner.cells, Node.cells, r133_c, r133_ask, r101_c, r101_ask, hp, hm, go_sem, Nat.reduceEqDiff, reduceIte, Nat.reduceAdd, Nat.reduceLeDiff, Nat.reduceLT, Nat.reduceSub]
  refine WP.drawQ [r135, r134] [.l, .l, .g 0 0, .g 0 0, .h 0, .l] mixed (by decide) ?_
  simp only [leafA, innerA, nodeA, patchA, Leaf.cells, Inner.cells, Node.cells, r135_c, r135_ask, r134_c, r134_ask, ha, hL, Int.natCast_nonneg, Int.toNat_natCast, hL2, go_sem, Nat.reduceEqDiff, reduceIte, Nat.reduceAdd, Nat.reduceLeDiff, Nat.reduceLT, Nat.reduceSub]
  generalize fitT (known a) L = F at *
  generalize hT : (fun j => putsT F ((p.x.zip p.n).take j)) = T at *
  have hT0 : T 0 = F := by rw [← hT]; rfl
  have hTe : putsT F (p.x.zip p.n) = T p.x.length := by rw [← hT]; simp only; rw [← hpl, List.take_length]
  have hTs : ∀ j (h1 : j < p.x.length), T (j + 1) = (T j).set (p.x[j]).toNat (p.n[j]'(by omega)) := fun j h1 => by rw [← hT]; exact hsa j h1
  have hTl : ∀ j, (T j).length = L := fun j => by rw [← hT]; simp only; rw [hpl2, hfl]
  have hTo : ∀ j, Tree.Ok (T j) := fun j => by rw [← hT]; exact hpo j
  clear hsa hpl2 hpo
  rw [hTe]
  have hxl := hp.x.len
  refine WP.loopG (fun s : Nat => s ≤ p.x.length) (fun s => [(3, .ptr 0 0), (6, .own 1 0 0 (T s).length), (18, ints p.x), (19, .int .i64 p.x.length), (20, .int .i64 (s : Nat))]) (fun s => [.box [.int .i64 p.len, ints p.x, nodes p.n], .arr 8 0 ((T s).map nodeA)]) (fun s => p.x.length - s) 0 (Nat.zero_le _)
    (fun k _ => ⟨by simp, by simp [idb_patchA], fun e he => by (simp only [List.mem_cons, List.not_mem_nil, or_false] at he); (rcases he with rfl | rfl | rfl | rfl | rfl | rfl) <;> first | exact encNode.entB _ _ _ _ | exact encI64.entB _ _ _ _ | exact encU8.entB _ _ _ _ | simp ⟩) (by simp [hT0, hL]) ?_
  intro j hj
  refine wpc_soundR [] ?_
  simp only [leafA, innerA, nodeA, patchA, Leaf.cells, Inner.cells, Node.cells, go_sem, Nat.reduceEqDiff, reduceIte, Nat.reduceAdd, Nat.reduceLeDiff, Nat.reduceLT, Nat.reduceSub]
  refine ⟨fun hlt => ?_, fun hge => ?_⟩
  · have hj' : j < p.x.length := by omega
    have hb := hat j hj'
    obtain ⟨y, hy⟩ : ∃ y : Nat, p.x[j] = y := ⟨(p.x[j]).toNat, by omega⟩
    have hyl : y < (T j).length := by rw [hTl]; omega
    have hts := hTs j hj'
    rw [hy, Int.toNat_natCast] at hts
    simp only [leafA, innerA, nodeA, patchA, Leaf.cells, Inner.cells, Node.cells, fun H => index_ints H p.x j hj', fun H => ix_nodes H p.n j (by omega), hy, hyl, fun H h => st_rowA (H := H) (id := 1) (ver := 0) (l := T j) (p.n[j]'(by omega)) h hyl, go_sem, Nat.reduceEqDiff, reduceIte, Nat.reduceAdd, Nat.reduceLeDiff, Nat.reduceLT, Nat.reduceSub]
    exact ⟨j + 1, hj', by omega, by simp [hts, wrapS (show j < 9223372036854775807 by omega)]⟩
  · have e : j = p.x.length := by omega
    subst e
    have hto := hTo p.x.length
    simp only [leafA, innerA, nodeA, patchA, Leaf.cells, Inner.cells, Node.cells, r133_c, r133_ask, r101_c, r101_ask, hto, go_sem, Nat.reduceEqDiff, reduceIte, Nat.reduceAdd, Nat.reduceLeDiff, Nat.reduceLT, Nat.reduceSub]
    iterate 12 ((all_goals intros); (all_goals try refine And.intro ?_ ?_))
    all_goals first | (show WP _ _ _ _ _ _ _) | grind
noncomputable def r112 : Reg seat := .of told112 (ask2 (fun a0' a1' => isNs a0' ∧ isP a1' ∧ Tree.Ok (dNs a0') ∧ (dP a1').Ok) fun a0' a1' => .fn (.tup [nodes (applyT (dNs a0') (dP a1')).1, .int .i64 (applyT (dNs a0') (dP a1')).2])) (ask2_ok fun a0' a1' h => SaidOk.fn (Fun.weak (.cons (isNs.weak h.1) (.cons (isP.weak h.2.1) .nil)) (apply_spec _ _ h.2.2.1 h.2.2.2)))
theorem r112_c : r112.c = 112 := rfl
open Classical in
theorem r112_ask (a0' a1' : AV) : r112.ask [a0', a1'] = if isNs a0' ∧ isP a1' ∧ Tree.Ok (dNs a0') ∧ (dP a1').Ok then some (Said.fn (.tup [nodes (applyT (dNs a0') (dP a1')).1, .int .i64 (applyT (dNs a0') (dP a1')).2])) else none := by unfold r112 Reg.of ask2; exact ite_cl

theorem isNaN_spec (a : Int) : Fun seat 66 [.int .i64 a] (.bool false) := by
  refine Fun.of0R [] told66 (by simp [il66]) (by simp [idb_patchA]) (by simp [idb_patchA]) 4 ?_
  simp only [il66, List.zipIdx_cons, List.zipIdx_nil, leafA, innerA, nodeA, patchA, Leaf.cells, Inner.cells, Node.cells, go_sem, Nat.reduceEqDiff, reduceIte, Nat.reduceAdd, Nat.reduceLeDiff, Nat.reduceLT, Nat.reduceSub]
theorem isNaN2_spec (a : Int) : Fun seat 155 [.int .i64 a] (.bool false) := by
  refine Fun.of0R [] told155 (by simp [il155]) (by simp [idb_patchA]) (by simp [idb_patchA]) 4 ?_
  simp only [il155, List.zipIdx_cons, List.zipIdx_nil, leafA, innerA, nodeA, patchA, Leaf.cells, Inner.cells, Node.cells, go_sem, Nat.reduceEqDiff, reduceIte, Nat.reduceAdd, Nat.reduceLeDiff, Nat.reduceLT, Nat.reduceSub]
noncomputable def r66 : Reg seat := .of told66 (ask1 (fun a0' => isI a0') fun a0' => .fn (.bool false)) (ask1_ok fun a0' h => SaidOk.fn (Fun.weak (.cons (isI.weak h) .nil) (isNaN_spec _)))
theorem r66_c : r66.c = 66 := rfl
open Classical in
theorem r66_ask (a0' : AV) : r66.ask [a0'] = if isI a0' then some (Said.fn (.bool false)) else none := by unfold r66 Reg.of ask1; exact ite_cl
noncomputable def r155 : Reg seat := .of told155 (ask1 (fun a0' => isI a0') fun a0' => .fn (.bool false)) (ask1_ok fun a0' h => SaidOk.fn (Fun.weak (.cons (isI.weak h) .nil) (isNaN2_spec _)))
theorem r155_c : r155.c = 155 := rfl
open Classical in
theorem r155_ask (a0' : AV) : r155.ask [a0'] = if isI a0' then some (Said.fn (.bool false)) else none := by unfold r155 Reg.of ask1; exact ite_cl
theorem cmpLess_spec (a b : Int) : Fun seat 56 [.int .i64 a, .int .i64 b] (.bool (decide (a < b))) := by
  refine Fun.of0R [r66] told56 (by simp [il56]) (by simp [idb_patchA]) (by simp [idb_patchA]) 4 ?_
  simp only [il56, List.zipIdx_cons, List.zipIdx_nil, leafA, innerA, nodeA, patchA, Leaf.cells, Inner.cells, Node.cells, r66_c, r66_ask, go_sem, Nat.reduceEqDiff, reduceIte, Nat.reduceAdd, Nat.reduceLeDiff, Nat.reduceLT, Nat.reduceSub]
noncomputable def r56 : Reg seat := .of told56 (ask2 (fun a0' a1' => isI a0' ∧ isI a1') fun a0' a1' => .fn (.bool (decide ((dI a0') < (dI a1'))))) (ask2_ok fun a0' a1' h => SaidOk.fn (Fun.weak (.cons (isI.weak h.1) (.cons (isI.weak h.2) .nil)) (cmpLess_spec _ _)))
theorem r56_c : r56.c = 56 := rfl
open Classical in
theorem r56_ask (a0' a1' : AV) : r56.ask [a0', a1'] = if isI a0' ∧ isI a1' then some (Said.fn (.bool (decide ((dI a0') < (dI a1'))))) else none := by unfold r56 Reg.of ask2; exact ite_cl

/-- How many numbers of a list are below another one. -/
def below (l : List Int) (x : Int) : Nat := (l.filter fun y => decide (y < x)).length
theorem below_eq {l : List Int} (hr : Rises l) {x : Int} {i : Nat} (hi : i ≤ l.length) (h1 : ∀ j (h : j < l.length), j < i → l[j] < x) (h2 : ∀ j (h : j < l.length), i ≤ j → x ≤ l[j]) : below l x = i := by
  have e : l.filter (fun y => decide (y < x)) = l.take i := by
    conv => lhs; rw [← List.take_append_drop i l]
    rw [List.filter_append, List.filter_eq_self.2, List.filter_eq_nil_iff.2, List.append_nil]
    · intro y hy
      obtain ⟨j, hj, rfl⟩ := List.getElem_of_mem hy
      rw [List.getElem_drop]
      have := h2 (i + j) (by rw [List.length_drop] at hj; omega) (by omega)
      simpa using this
    · intro y hy
      obtain ⟨j, hj, rfl⟩ := List.getElem_of_mem hy
      rw [List.length_take] at hj
      rw [List.getElem_take]
      have := h1 j (by omega) (by omega)
      simpa using this
  rw [below, e, List.length_take]; omega
theorem below_le (l : List Int) (x : Int) : below l x ≤ l.length := List.length_filter_le _ _
theorem below_lt {l : List Int} (hr : Rises l) {x : Int} (hx : x ∈ l) : ∃ h : below l x < l.length, l[below l x] = x := by
  obtain ⟨i, hi, rfl⟩ := List.getElem_of_mem hx
  have e : below l l[i] = i := below_eq hr (by omega) (fun j h hj => List.pairwise_iff_getElem.1 hr j i h hi hj) fun j h hj => by
    rcases Nat.lt_or_eq_of_le hj with h1 | h1
    · exact Int.le_of_lt (List.pairwise_iff_getElem.1 hr i j hi h h1)
    · subst h1; exact Int.le_refl _
  exact ⟨by omega, by simp only [e]⟩

/-- slices.BinarySearch in a rising list. -/
theorem search_spec (l : List Int) (x : Int) (hs : Small l) (hr : Rises l) : Fun seat 140 [ints l, .int .i64 x] (.tup [.int .i64 (below l x), .bool (decide (x ∈ l))]) := by
  have hl : l.length ≤ 140737488355328 := hs
  have rs : ∀ i j (hi : i < l.length) (hj : j < l.length), i < j → l[i] < l[j] := fun i j hi hj h => List.pairwise_iff_getElem.1 hr i j hi hj h
  refine Fun.of0R [r155] told140 (by simp [il140]) (by simp [idb_patchA]) (by simp [idb_patchA]) 4 ?_
  simp only [il140, List.zipIdx_cons, List.zipIdx_nil, leafA, innerA, nodeA, patchA, Leaf.cells, Inner.cells, Node.cells, r155_c, r155_ask, go_sem, Nat.reduceEqDiff, reduceIte, Nat.reduceAdd, Nat.reduceLeDiff, Nat.reduceLT, Nat.reduceSub]
  refine WP.loop0 (fun s : Nat × Nat => s.1 ≤ s.2 ∧ s.2 ≤ l.length ∧ (∀ j (h : j < l.length), j < s.1 → l[j] < x) ∧ ∀ j (h : j < l.length), s.2 ≤ j → x ≤ l[j]) (fun s => [(0, ints l), (1, .int .i64 x), (6, .int .i64 l.length), (7, .int .i64 (s.1 : Nat)), (8, .int .i64 (s.2 : Nat))]) (fun s => s.2 - s.1) (0, l.length)
    ⟨Nat.zero_le _, Nat.le_refl _, fun j _ h => absurd h (Nat.not_lt_zero j), fun j h1 h2 => by omega⟩ (fun k _ => by simp ) (by simp ) ?_
  rintro ⟨i, j⟩ ⟨h1, h2, h3, h4⟩
  simp only at h1 h2 h3 h4
  refine wpc_soundR [r56] ?_
  by_cases hij : i < j
  · have hm : (i + j) / 2 < l.length := by omega
    have e1 : IntKind.i64.wrap (((i : Int) + j)) = ((i + j : Nat) : Int) := by rw [wrap64 _ (by omega) (by omega)]; omega
    have e2 : IntKind.u64.wrap ((i + j : Nat) : Int) = ((i + j : Nat) : Int) := wrapU64 _ (by omega) (by omega)
    have e3 : evShift .shr .u64 ((i + j : Nat) : Int) 1 = some (.int .u64 (((i + j) / 2 : Nat) : Int)) := by
      have : ((i + j : Nat) : Int).fdiv (2 ^ (min (1 : Int).toNat IntKind.u64.bits)) = (((i + j) / 2 : Nat) : Int) := by
        show ((i + j : Nat) : Int).fdiv 2 = _
        rw [Int.fdiv_eq_ediv_of_nonneg _ (by decide)]; omega
      simp only [evShift, this]; rfl
    have e4 : IntKind.i64.wrap (((i + j) / 2 : Nat) : Int) = (((i + j) / 2 : Nat) : Int) := wrap64 _ (by omega) (by omega)
    simp only [leafA, innerA, nodeA, patchA, Leaf.cells, Inner.cells, Node.cells, r56_c, r56_ask, e1, e2, e3, e4, fun H => index_ints H l ((i + j) / 2) hm, go_sem, Nat.reduceEqDiff, reduceIte, Nat.reduceAdd, Nat.reduceLeDiff, Nat.reduceLT, Nat.reduceSub]
    have rs1 := fun q (hq : q < l.length) => rs q ((i + j) / 2) hq hm
    have rs2 := fun q (hq : q < l.length) => rs ((i + j) / 2) q hm hq
    iterate 12 ((all_goals intros); (all_goals try refine And.intro ?_ ?_))
    · refine ⟨((i + j) / 2 + 1, j), ⟨by omega, h2, fun q hq hlt => ?_, h4⟩, by omega, ?_⟩
      · rcases Nat.lt_or_eq_of_le (show q ≤ (i + j) / 2 by omega) with h | h
        · have := rs1 q hq h; omega
        · subst h; assumption
      · simp only [List.mem_cons, List.not_mem_nil, or_false, forall_eq_or_imp, forall_eq, go_sem, Nat.reduceEqDiff, reduceIte, Nat.reduceAdd, Nat.reduceLeDiff, Nat.reduceLT, Nat.reduceSub, wrapS (show (i + j) / 2 < 9223372036854775807 by omega)]
    · refine ⟨(i, (i + j) / 2), ⟨by omega, by omega, h3, fun q hq hle => ?_⟩, by omega, ?_⟩
      · rcases Nat.lt_or_eq_of_le hle with h | h
        · have := rs2 q hq h; omega
        · subst h; show x ≤ l[(i + j) / 2]; omega
      · simp only [List.mem_cons, List.not_mem_nil, or_false, forall_eq_or_imp, forall_eq, go_sem, Nat.reduceEqDiff, reduceIte, Nat.reduceAdd, Nat.reduceLeDiff, Nat.reduceLT, Nat.reduceSub]
    all_goals omega
  · have hij' : j = i := by omega
    subst hij'
    have eb : below l x = j := below_eq hr h2 h3 h4
    rw [eb]
    by_cases hjl : j < l.length
    · have hmem : (x ∈ l) = (l[j] = x) := propext ⟨fun h => by
        obtain ⟨hlt, he⟩ := below_lt hr h
        simp only [eb] at he
        exact he, fun h => h ▸ List.getElem_mem hjl⟩
      simp only [leafA, innerA, nodeA, patchA, Leaf.cells, Inner.cells, Node.cells, r56_c, r56_ask, r155_c, r155_ask, fun H => index_ints H l j hjl, hmem, go_sem, Nat.reduceEqDiff, reduceIte, Nat.reduceAdd, Nat.reduceLeDiff, Nat.reduceLT, Nat.reduceSub]
      iterate 12 ((all_goals intros); (all_goals try refine And.intro ?_ ?_))
      all_goals first | (show WP _ _ _ _ _ _ _) | grind
    · have hmem : ¬ x ∈ l := fun h => by
        obtain ⟨hlt, he⟩ := below_lt hr h
        omega
      simp only [leafA, innerA, nodeA, patchA, Leaf.cells, Inner.cells, Node.cells, r56_c, r56_ask, r155_c, r155_ask, hmem, go_sem, Nat.reduceEqDiff, reduceIte, Nat.reduceAdd, Nat.reduceLeDiff, Nat.reduceLT, Nat.reduceSub]
      iterate 12 ((all_goals intros); (all_goals try refine And.intro ?_ ?_))
      all_goals first | (show WP _ _ _ _ _ _ _) | grind
noncomputable def r140 : Reg seat := .of told140 (ask2 (fun a0' a1' => isS a0' ∧ isI a1' ∧ Small (dO a0') ∧ Rises (dO a0')) fun a0' a1' => .fn (.tup [.int .i64 (below (dO a0') (dI a1')), .bool (decide ((dI a1') ∈ (dO a0')))])) (ask2_ok fun a0' a1' h => SaidOk.fn (Fun.weak (.cons (isS.weak h.1) (.cons (isI.weak h.2.1) .nil)) (search_spec _ _ h.2.2.1 h.2.2.2)))
theorem r140_c : r140.c = 140 := rfl
open Classical in
theorem r140_ask (a0' a1' : AV) : r140.ask [a0', a1'] = if isS a0' ∧ isI a1' ∧ Small (dO a0') ∧ Rises (dO a0') then some (Said.fn (.tup [.int .i64 (below (dO a0') (dI a1')), .bool (decide ((dI a1') ∈ (dO a0')))])) else none := by unfold r140 Reg.of ask2; exact ite_cl
end Go.Proofs.YtihhinbjhiankaaGreatDoor.Al

set_option linter.unusedSimpArgs false
set_option linter.unusedVariables false
namespace Go.Proofs.YtihhinbjhiankaaGreatDoor.Al
open Go
attribute [local go_sem] W_mv W_pick W_alloc W_box W_build W_bslice W_load W_store W_bin W_isnil W_un W_convI W_convS W_mkfunc W_mkslice W_slice W_faddr W_field W_iaddr W_extract W_len W_min W_append W_appendZ W_copy W_invoke thenQ_normal thenQ_exit thenQ_goto thenQ_ret blockQ_normal blockQ_ret blockQ_goto blockQ_exit wpc_skip wpc_region wpc_draw wpc_seq wpc_cond wpc_block wpc_exit wpc_goto wpc_label wpc_ret wpc_loop wpc_range wpc_scope condW_true condW_false condW_dec condW_any W_nil W_call resW_some evalOp Opd.ev updo_envL updo_none setL_cons setL_nil envL_cons Option.map_some Option.bind_some evBin evInt List.map_cons List.map_nil Option.pure_def Option.bind_eq_bind W_grd' grdW_tt grdW_ff grdW_tf grdW_ft grdW_tup grdW_dt grdW_df lgrdW_tup L_mv L_load L_bin L_un L_faddr L_iaddr L_nil L_call lresW_some upd_envL evUn beq_dec bne_dec leaves_ret1 leaves_ret0 leaves_end0 rowLen_ints load_iptr0 not_dec heap_get0 heap_get1 heap_set0 heap_set1 heap_len1 heap_app bslice1_int seen_ints seen_one0 Nat.sub_zero Bool.not_true Bool.not_false List.length_nil List.length_cons List.nil_append List.cons_append Nat.zero_add load_iptrA canon_ptrI canon_bool canon_tup canon_agg canon_ints' canon_ints0 rowLen_octs seen_octs canon_octs' seen_intss seen_octss rowLen_nodes seen_nodes canon_nodes' rowLen_nodes0 rowLen_nodes1 seen_list cells_int oneIn_int cells_bool oneIn_bool cells_str oneIn_str cells_list oneIn_list cells_func oneIn_func cells_nilfunc oneIn_nilfunc cells_iptr oneIn_iptr cells_iface oneIn_iface cells_nilIface oneIn_nilIface cells_own cells_ptr cells_anybool oneIn_anybool cells_agg oneIn_own0 oneIn_own1 oneIn_own3 oneIn_own4 oneIn_own5 cells_ints oneIn_ints cells_octs oneIn_octs cells_intss oneIn_intss cells_octss oneIn_octss cells_nodes oneIn_nodes ldB0 ldA0 adB0 stB0 ldB1 ldA1 adB1 stB1 ldB2 ldA2 adB2 stB2 ldB3 ldA3 adB3 stB3 ldB4 ldA4 adB4 stB4 ldB5 ldA5 adB5 stB5 List.getElem?_cons_zero List.getElem?_cons_succ beq_self_eq_true splice List.take_zero List.take_succ_cons List.drop_zero List.drop_succ_cons List.append_nil List.set_cons_zero List.set_cons_succ List.all_cons List.all_nil Bool.and_self and_self and_true true_and Nat.lt_irrefl Nat.zero_lt_one Nat.le_refl fillA evNil notA Bool.false_eq_true evMin_int evMax_int Option.map_none freezeP_all_nil freezeP_all_cons frzE_box frzE_arr frzE_dead foldA List.foldlM_cons List.foldlM_nil callW_f lcallW_f ansW_fn ansW_own lansW_fn lansW_own ansW_none lansW_none tab_cons tab_nil dI_int dB_bool dO_octs dO_ints dO_nil dOs_nil dN_nodeA dLf_agg dIn_agg dN_agg dNs_nodes dNs_nil isI_int isO_octs isO_nil isS_ints isS_nil isNs_nodes isNs_nil isLf_agg isIn_agg isN_agg leaf_eta inner_eta node_eta leaf_zero inner_zero node_zero dP_agg isP_agg patch_eta decide_eq_true_eq decide_eq_false_iff_not eq_self forall_const true_implies false_implies Bool.not_eq_true' Bool.not_eq_false' Bool.true_eq_false implies_true ne_eq ldI ldIA adI AV.tup.injEq AV.agg.injEq List.cons.injEq AV.int.injEq AV.bool.injEq nodes_inj octs_inj ints_inj nil_nodes nil_octs nil_ints canon_nilL decide_eq_decide two_ne lendA_fn lendA_own lendA_none llendA_fn llendA_none plain_bool plain_int isNs_own isS_own false_and and_false Q_nil Q_l Q_g Q_h qgrdW_b qgrdW_tup lightD_some heavyD_some readD_some fnD_some fnD_own fnD_none callL_f ownH_some callH_f litD_some litE_some Q_call Q_bslice H_call pendOk_nil pendOk_cons pastOk_nil pastOk_cons Q_mv Q_pick Q_bin Q_un Q_convI Q_mkfunc Q_extract Q_min Q_max Q_lenS Q_lenA Q_field Q_idxA Q_mkiface Q_tassert Q_alloc Q_box Q_store Q_mkslice Q_append Q_appendZ Q_copy Q_clear Q_build Q_load Q_nilck Q_isnil Q_convS Q_slice Q_faddr Q_iaddr Q_iaddrA Q_len H_alloc H_box H_bslice H_store H_mkslice H_append H_appendZ H_copy H_clear free_mv free_pick free_bin free_un free_convI free_mkfunc free_extract free_min free_max free_lenS free_lenA free_field free_idxA free_mkiface free_tassert free_build free_load free_nilck free_isnil free_convS free_slice free_faddr free_iaddr free_iaddrA free_len callW_y List.length_map List.length_set leaves_r evR_some evRess1 evRess2 evRess3 evRes_t evRes_c nz_kind nz_enc nz_cred nz_source nz_parent nz_ienc nz_hash nz_un true_or or_true bsl_node idbs_node idbs_int appN appI ixo_nodes canon_row canon_rowI canon_rowO not_false_eq_true not_true_eq_false ldE_a ldE_c adE_b stE_b onE_a onP_b bsl_zero idbs_zero appN_zero
attribute [local go_sem low] condW_b grdW_b lgrdW_b ldP adP stP onO onPt
attribute [local simp] envL_cons envL_nil idb_int idb_bool idb_ints idb_nil idb_own idb_ptr idb_octs idb_nodes idb_leafA idb_innerA idb_nodeA idb_agg idb_tup idb_iptr idb_fn entB_dead entB_box
attribute [local simp] upI_zero upN_zero
theorem ofP_below {p : Patch} (h : May p) {x : Int} (hx : x ∈ p.x) : ∃ h : below p.x x < p.n.length, ofP p x = some p.n[below p.x x] := by
  obtain ⟨h1, h2⟩ := below_lt h.1.1 hx
  have := h.nx
  exact ⟨by omega, ofP_at h1 (by omega) h2 fun j hj hjk => by
    have := List.pairwise_iff_getElem.1 h.1.1 j (below p.x x) hj h1 hjk
    omega⟩
theorem ofP_no {p : Patch} (h : May p) {x : Int} (hx : ¬ x ∈ p.x) : ofP p x = none := by
  have := ofP_mem (x := x) h.nx
  rw [decide_eq_false hx] at this
  cases ho : ofP p x with
  | none => rfl
  | some n => rw [ho] at this; cases this

def joinG (p q : Patch) (s : Nat × Nat × Nat) : List Entry := [.box [.int .i64 p.len, ints p.x, nodes p.n], .box [.int .i64 q.len, ints q.x, nodes q.n], .box [.int .i64 0, .list true [], .list true []],
  .box [.int .i64 q.len, .own 4 s.2.1 0 (upI (joins p q) s.1).length, .own 5 s.2.2 0 (upN (joinN p q) (joins p q) s.1).length], .arr 1 s.2.1 ((upI (joins p q) s.1).map (AV.int .i64)), .arr 8 s.2.2 ((upN (joinN p q) (joins p q) s.1).map nodeA)]

set_option maxHeartbeats 2000000 in
theorem pjoin_spec (p q : Patch) (hp : p.Ok) (hq : q.Ok) : Fun seat 114 [patchA p, patchA q] (.tup [patchA (joinT p q).1, .int .i64 (joinT p q).2]) := by
  by_cases hmp : May p
  rotate_left
  · have e : joinT p q = (.zero, 2) := if_neg fun h => hmp h.1
    rw [e]
    refine Fun.of0R [r133] told114 (by simp [il114]) (by simp [idb_patchA]) (by simp [idb_patchA]) 4 ?_
    simp only [il114, List.zipIdx_cons, List.zipIdx_nil, leafA, innerA, nodeA, patchA, Leaf.cells, Inner.cells, Node.cells, r133_c, r133_ask, hp, hq, hmp, Patch.zero, go_sem, Nat.reduceEqDiff, reduceIte, Nat.reduceAdd, Nat.reduceLeDiff, Nat.reduceLT, Nat.reduceSub]
  by_cases hmq : May q
  rotate_left
  · have e : joinT p q = (.zero, 2) := if_neg fun h => hmq h.2
    rw [e]
    refine Fun.of0R [r133] told114 (by simp [il114]) (by simp [idb_patchA]) (by simp [idb_patchA]) 4 ?_
    simp only [il114, List.zipIdx_cons, List.zipIdx_nil, leafA, innerA, nodeA, patchA, Leaf.cells, Inner.cells, Node.cells, r133_c, r133_ask, hp, hq, hmp, hmq, Patch.zero, go_sem, Nat.reduceEqDiff, reduceIte, Nat.reduceAdd, Nat.reduceLeDiff, Nat.reduceLT, Nat.reduceSub]
  have e : joinT p q = (⟨q.len, upI (joins p q) q.len.toNat, upN (joinN p q) (joins p q) q.len.toNat⟩, 0) := if_pos ⟨hmp, hmq⟩
  rw [e]
  have hqb := hmq.len
  obtain ⟨L, hL⟩ : ∃ L : Nat, q.len = L := ⟨q.len.toNat, by omega⟩
  have hLt : q.len.toNat = L := by omega
  rw [hLt]
  refine Fun.of0R [r133] told114 (by simp [il114]) (by simp [idb_patchA]) (by simp [idb_patchA]) 4 ?_
  simp only [il114, List.zipIdx_cons, List.zipIdx_nil, leafA, innerA, nodeA, patchA, Leaf.cells, Inner.cells, Node.cells, r133_c, r133_ask, hp, hq, hmp, hmq, go_sem, Nat.reduceEqDiff, reduceIte, Nat.reduceAdd, Nat.reduceLeDiff, Nat.reduceLT, Nat.reduceSub]
  refine WP.adoptB 3 1 1 rfl rfl (WP.adoptB 3 2 8 rfl rfl ?_)
  refine WP.loopG (fun s : Nat × Nat × Nat => s.1 ≤ L) (fun s => [(2, .ptr 0 0), (3, .ptr 1 0), (4, .ptr 2 0), (6, .ptr 3 0), (26, .int .i64 L), (27, .int .i64 (s.1 : Nat))]) (joinG p q) (fun s => L - s.1) (0, 0, 0) (Nat.zero_le _)
    (fun k _ => ⟨by simp, by simp [joinG], fun e he => by
      simp only [joinG, List.mem_cons, List.not_mem_nil, or_false] at he
      rcases he with rfl | rfl | rfl | rfl | rfl | rfl <;> first | exact encNode.entB _ _ _ _ | exact encI64.entB _ _ _ _ | simp [joinG]⟩) (by simp [hL, joinG]) ?_
  rintro ⟨k, v1, v2⟩ hk
  simp only at hk
  have hu1 := upI_len (joins p q) k
  have hu2 := upN_len (joinN p q) (joins p q) k
  have hx1 : (upI (joins p q) k).length + 1 ≤ maxRow := by unfold maxRow; omega
  have hx2 : (upN (joinN p q) (joins p q) k).length + 1 ≤ maxRow := by unfold maxRow; omega
  have jd : joins p q k = decide ((k : Int) ∈ p.x ∨ (k : Int) ∈ q.x ∨ (k : Int) ≥ p.len) := rfl
  unfold joinG
  refine wpc_soundR [r140] ?_
  by_cases hlt : (k : Int) < L
  rotate_left
  · have e : k = L := by omega
    subst e
    simp only [leafA, innerA, nodeA, patchA, Leaf.cells, Inner.cells, Node.cells, r140_c, r140_ask, hlt, go_sem, Nat.reduceEqDiff, reduceIte, Nat.reduceAdd, Nat.reduceLeDiff, Nat.reduceLT, Nat.reduceSub]
  have rp := hmp.1.1
  have rq := hmq.1.1
  have sp : Small p.x := hp.x.1
  have sq : Small q.x := hq.x.1
  have lp := below_le p.x k
  have lq := below_le q.x k
  by_cases ha : (k : Int) ∈ p.x <;> by_cases hb : (k : Int) ∈ q.x
  · obtain ⟨i1, j1⟩ := ofP_below hmp ha
    obtain ⟨i2, j2⟩ := ofP_below hmq hb
    have hd : joins p q k = true := by rw [jd]; simp [ha]
    have jn : joinN p q k = q.n[below q.x k] := by rw [joinN, j2]
    simp only [leafA, innerA, nodeA, patchA, Leaf.cells, Inner.cells, Node.cells, r140_c, r140_ask, hlt, rp, rq, sp, sq, ha, hb, fun H => ix_nodes H p.n (below p.x k) i1, fun H => ix_nodes H q.n (below q.x k) i2, go_sem, Nat.reduceEqDiff, reduceIte, Nat.reduceAdd, Nat.reduceLeDiff, Nat.reduceLT, Nat.reduceSub]
    refine WP.drawQ [] [.g 0 0, .g 0 0, .l, .l, .h 0, .g 0 1, .g 0 1, .g 0 1, .l, .h 1, .g 1 2, .h 2, .g 3 3, .h 3] mixed (by decide) ?_
    simp only [leafA, innerA, nodeA, patchA, Leaf.cells, Inner.cells, Node.cells, hx1, hx2, go_sem, Nat.reduceEqDiff, reduceIte, Nat.reduceAdd, Nat.reduceLeDiff, Nat.reduceLT, Nat.reduceSub]
    exact ⟨(k + 1, v1 + 1, v2 + 1), by omega, by omega, by simp [wrapS (show k < 9223372036854775807 by omega)], by simp [upI_yes hd, upN_yes hd, jn]⟩
  · obtain ⟨i1, j1⟩ := ofP_below hmp ha
    have hd : joins p q k = true := by rw [jd]; simp [ha]
    have jn : joinN p q k = p.n[below p.x k] := by rw [joinN, ofP_no hmq hb, j1]
    simp only [leafA, innerA, nodeA, patchA, Leaf.cells, Inner.cells, Node.cells, r140_c, r140_ask, hlt, rp, rq, sp, sq, ha, hb, fun H => ix_nodes H p.n (below p.x k) i1, go_sem, Nat.reduceEqDiff, reduceIte, Nat.reduceAdd, Nat.reduceLeDiff, Nat.reduceLT, Nat.reduceSub]
    refine WP.drawQ [] [.g 0 0, .g 0 0, .l, .l, .h 0, .g 0 1, .g 0 1, .g 0 1, .l, .h 1, .g 1 2, .h 2, .g 3 3, .h 3] mixed (by decide) ?_
    simp only [leafA, innerA, nodeA, patchA, Leaf.cells, Inner.cells, Node.cells, hx1, hx2, go_sem, Nat.reduceEqDiff, reduceIte, Nat.reduceAdd, Nat.reduceLeDiff, Nat.reduceLT, Nat.reduceSub]
    exact ⟨(k + 1, v1 + 1, v2 + 1), by omega, by omega, by simp [wrapS (show k < 9223372036854775807 by omega)], by simp [upI_yes hd, upN_yes hd, jn]⟩
  · obtain ⟨i2, j2⟩ := ofP_below hmq hb
    have hd : joins p q k = true := by rw [jd]; simp [hb]
    have jn : joinN p q k = q.n[below q.x k] := by rw [joinN, j2]
    simp only [leafA, innerA, nodeA, patchA, Leaf.cells, Inner.cells, Node.cells, r140_c, r140_ask, hlt, rp, rq, sp, sq, ha, hb, fun H => ix_nodes H q.n (below q.x k) i2, go_sem, Nat.reduceEqDiff, reduceIte, Nat.reduceAdd, Nat.reduceLeDiff, Nat.reduceLT, Nat.reduceSub]
    refine WP.drawQ [] [.g 0 0, .g 0 0, .l, .l, .h 0, .g 0 1, .g 0 1, .g 0 1, .l, .h 1, .g 1 2, .h 2, .g 3 3, .h 3] mixed (by decide) ?_
    simp only [leafA, innerA, nodeA, patchA, Leaf.cells, Inner.cells, Node.cells, hx1, hx2, go_sem, Nat.reduceEqDiff, reduceIte, Nat.reduceAdd, Nat.reduceLeDiff, Nat.reduceLT, Nat.reduceSub]
    exact ⟨(k + 1, v1 + 1, v2 + 1), by omega, by omega, by simp [wrapS (show k < 9223372036854775807 by omega)], by simp [upI_yes hd, upN_yes hd, jn]⟩
  · by_cases hc : (k : Int) ≥ p.len
    · have hd : joins p q k = true := by rw [jd]; simp [hc]
      have jn : joinN p q k = .zero := by rw [joinN, ofP_no hmq hb, ofP_no hmp ha]
      simp only [leafA, innerA, nodeA, patchA, Leaf.cells, Inner.cells, Node.cells, r140_c, r140_ask, hlt, rp, rq, sp, sq, ha, hb, hc, go_sem, Nat.reduceEqDiff, reduceIte, Nat.reduceAdd, Nat.reduceLeDiff, Nat.reduceLT, Nat.reduceSub]
      refine WP.weakB 6 zcells rfl zweak ?_
      unfold zcells
      simp only [List.set_cons_succ, List.set_cons_zero]
      refine WP.drawQ [] [.g 0 0, .g 0 0, .l, .l, .h 0, .g 0 1, .g 0 1, .g 0 1, .l, .h 1, .g 1 2, .h 2, .g 3 3, .h 3] mixed (by decide) ?_
      simp only [leafA, innerA, nodeA, patchA, Leaf.cells, Inner.cells, Node.cells, hx1, hx2, go_sem, Nat.reduceEqDiff, reduceIte, Nat.reduceAdd, Nat.reduceLeDiff, Nat.reduceLT, Nat.reduceSub]
      exact ⟨(k + 1, v1 + 1, v2 + 1), by omega, by omega, by simp [wrapS (show k < 9223372036854775807 by omega)], by simp [upI_yes hd, upN_yes hd, jn]⟩
    · have hd : joins p q k = false := by rw [jd]; simp [ha, hb, hc]
      simp only [leafA, innerA, nodeA, patchA, Leaf.cells, Inner.cells, Node.cells, r140_c, r140_ask, hlt, rp, rq, sp, sq, ha, hb, hc, go_sem, Nat.reduceEqDiff, reduceIte, Nat.reduceAdd, Nat.reduceLeDiff, Nat.reduceLT, Nat.reduceSub]
      exact ⟨(k + 1, v1, v2), by omega, by omega, by simp [wrapS (show k < 9223372036854775807 by omega)], by simp [upI_no hd, upN_no hd]⟩
noncomputable def r114 : Reg seat := .of told114 (ask2 (fun a0' a1' => isP a0' ∧ isP a1' ∧ (dP a0').Ok ∧ (dP a1').Ok) fun a0' a1' => .fn (.tup [patchA (joinT (dP a0') (dP a1')).1, .int .i64 (joinT (dP a0') (dP a1')).2])) (ask2_ok fun a0' a1' h => SaidOk.fn (Fun.weak (.cons (isP.weak h.1) (.cons (isP.weak h.2.1) .nil)) (pjoin_spec _ _ h.2.2.1 h.2.2.2)))
theorem r114_c : r114.c = 114 := rfl
open Classical in
theorem r114_ask (a0' a1' : AV) : r114.ask [a0', a1'] = if isP a0' ∧ isP a1' ∧ (dP a0').Ok ∧ (dP a1').Ok then some (Said.fn (.tup [patchA (joinT (dP a0') (dP a1')).1, .int .i64 (joinT (dP a0') (dP a1')).2])) else none := by unfold r114 Reg.of ask2; exact ite_cl

end Go.Proofs.YtihhinbjhiankaaGreatDoor.Al

set_option linter.unusedSimpArgs false
set_option linter.unusedVariables false
namespace Go.Proofs.YtihhinbjhiankaaGreatDoor.Al
open Go

def leaf7 : Node := ⟨1, ⟨[7], [], 1, []⟩, .zero⟩
theorem leaf7_ok : leaf7.Ok := ⟨⟨⟨by simp [Small, leaf7], by decide⟩, .nil, .nil, ⟨by decide, by decide⟩⟩, .zero, ⟨by decide, by decide⟩⟩
end Go.Proofs.YtihhinbjhiankaaGreatDoor.Al

set_option linter.unusedSimpArgs false
set_option linter.unusedVariables false
namespace Go.Proofs.YtihhinbjhiankaaGreatDoor.Al

theorem nums_up (p : Nat → Bool) (k : Nat) (hk : k ≤ 127) : Nums (upI p k) := by
  refine ⟨by have := upI_len p k; simp only [Small]; omega, fun x hx => ?_⟩
  obtain ⟨j, rfl, hj, _⟩ := mem_upI.1 hx
  exact ⟨by have : IntKind.i64.min = -9223372036854775808 := rfl; omega, by have : IntKind.i64.max = 9223372036854775807 := rfl; omega⟩
theorem nodes_up (f : Nat → Node) (p : Nat → Bool) (k : Nat) (hk : k ≤ 127) (hf : ∀ x, x < k → (f x).Ok) : Tree.Ok (upN f p k) := by
  refine ⟨by have := upN_len f p k; simp only [Small]; omega, fun n hn => ?_⟩
  simp only [upN, List.mem_map, mem_upTo] at hn
  obtain ⟨j, ⟨hj, _⟩, rfl⟩ := hn
  exact hf j hj
theorem in64_small {n : Int} (h : 0 ≤ n ∧ n ≤ 127) : In64 n := ⟨by have : IntKind.i64.min = -9223372036854775808 := rfl; omega, by have : IntKind.i64.max = 9223372036854775807 := rfl; omega⟩
theorem makeT_ok {a b : List Node} (hb : Tree.Ok b) : (makeT a b).Ok := by
  have := known_len b
  exact ⟨in64_small (by simp only [makeT]; omega), nums_up _ _ this, nodes_up _ _ _ this fun x _ => nodeAt_ok (known_ok hb) x⟩
end Go.Proofs.YtihhinbjhiankaaGreatDoor.Al
