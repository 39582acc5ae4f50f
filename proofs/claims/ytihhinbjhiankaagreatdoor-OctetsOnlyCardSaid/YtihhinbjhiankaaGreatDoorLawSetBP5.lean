/-
  JOINED: Ils, Lay, V1
-/
import Derived.Test.YtihhinbjhiankaaGreatDoorLawSetBP3
import Derived.Test.YtihhinbjhiankaaGreatDoorLawSetBP4
import Derived.Shelf.Lays
import Derived.Shelf.Lays2
import Derived.Shelf.Lays7
namespace Go.Proofs.YtihhinbjhiankaaGreatDoor.Al
open Go

def il24 : IFn := ⟨61, [(.t 2)], (.seq (.region [⟨(some 2), (.mv (.c (.list true []))), none, []⟩] false) (.seq (.seq (.region [⟨(some 6), (.mv (.t 0)), none, []⟩, ⟨(some 7), (.len (.t 6)), none, [0]⟩, ⟨(some 8), (.bin false .lss (.t 7) (.c (.int .i64 2))), none, [1]⟩] false) (.cond (.t 8) (.seq (.region [⟨(some 9), (.mv (.t 0)), none, []⟩, ⟨(some 2), (.mv (.t 9)), none, [0, 0]⟩] false) .ret) .skip)) (.seq (.seq (.region [⟨(some 3), (.mv (.c (.int .i64 1))), none, []⟩] false) (.block 0 (.loop (.seq (.seq (.region [⟨(some 10), (.mv (.t 3)), none, []⟩, ⟨(some 11), (.mv (.t 0)), none, []⟩, ⟨(some 12), (.len (.t 11)), none, [1]⟩, ⟨(some 13), (.bin false .lss (.t 10) (.t 12)), none, [0, 2]⟩] false) (.cond (.t 13) .skip (.exit 0))) (.seq (.block 1 (.seq (.region [⟨(some 16), (.mv (.t 0)), none, []⟩, ⟨(some 17), (.mv (.t 3)), none, []⟩, ⟨(some 18), (.iaddr 1 (.t 16) (.t 17)), none, [0, 1]⟩, ⟨(some 19), (.load false 1 (.t 18)), none, [2]⟩, ⟨(some 20), (.mv (.t 0)), none, []⟩, ⟨(some 21), (.mv (.t 3)), none, []⟩, ⟨(some 22), (.bin false .sub (.t 21) (.c (.int .i64 1))), none, [5]⟩, ⟨(some 23), (.iaddr 1 (.t 20) (.t 22)), none, [4, 6]⟩, ⟨(some 24), (.load false 1 (.t 23)), none, [7]⟩, ⟨(some 25), (.bin false .eql (.t 19) (.t 24)), none, [3, 8]⟩] true) (.cond (.t 25) (.seq (.region [⟨(some 26), (.mv (.t 0)), none, []⟩, ⟨(some 27), (.mv (.t 3)), none, []⟩, ⟨(some 28), (.slice 1 (.t 26) (some (.t 27)) none none), none, [0, 1]⟩, ⟨(some 4), (.mv (.t 28)), none, [2, 0, 1, 2]⟩] false) (.seq (.seq (.region [⟨(some 5), (.mv (.c (.int .i64 1))), none, []⟩] false) (.block 2 (.loop (.seq (.seq (.region [⟨(some 29), (.mv (.t 5)), none, []⟩, ⟨(some 30), (.mv (.t 4)), none, []⟩, ⟨(some 31), (.len (.t 30)), none, [1]⟩, ⟨(some 32), (.bin false .lss (.t 29) (.t 31)), none, [0, 2]⟩] false) (.cond (.t 32) .skip (.exit 2))) (.seq (.block 3 (.seq (.region [⟨(some 35), (.mv (.t 4)), none, []⟩, ⟨(some 36), (.mv (.t 5)), none, []⟩, ⟨(some 37), (.iaddr 1 (.t 35) (.t 36)), none, [0, 1]⟩, ⟨(some 38), (.load false 1 (.t 37)), none, [2]⟩, ⟨(some 39), (.mv (.t 4)), none, []⟩, ⟨(some 40), (.mv (.t 5)), none, []⟩, ⟨(some 41), (.bin false .sub (.t 40) (.c (.int .i64 1))), none, [5]⟩, ⟨(some 42), (.iaddr 1 (.t 39) (.t 41)), none, [4, 6]⟩, ⟨(some 43), (.load false 1 (.t 42)), none, [7]⟩, ⟨(some 44), (.bin false .neq (.t 38) (.t 43)), none, [3, 8]⟩] true) (.cond (.t 44) (.seq (.region [⟨(some 45), (.mv (.t 0)), none, []⟩, ⟨(some 46), (.mv (.t 3)), none, []⟩, ⟨(some 47), (.mv (.t 4)), none, []⟩, ⟨(some 48), (.mv (.t 5)), none, []⟩, ⟨(some 49), (.iaddr 1 (.t 47) (.t 48)), none, [2, 3]⟩, ⟨(some 50), (.load false 1 (.t 49)), none, [4]⟩, ⟨(some 51), (.iaddr 1 (.t 45) (.t 46)), none, [0, 1, 0, 1, 2, 3, 4, 5]⟩, ⟨none, (.store 1 (.t 51) (.t 50)), none, [6, 5, 0, 1, 2, 3, 4, 5]⟩] false) (.region [⟨(some 52), (.mv (.t 3)), none, []⟩, ⟨(some 53), (.bin false .add (.t 52) (.c (.int .i64 1))), none, [0]⟩, ⟨(some 3), (.mv (.t 53)), none, [1, 0, 1]⟩] false)) .skip))) (.region [⟨(some 33), (.mv (.t 5)), none, []⟩, ⟨(some 34), (.bin false .add (.t 33) (.c (.int .i64 1))), none, [0]⟩, ⟨(some 5), (.mv (.t 34)), none, [1, 0, 1]⟩] false)))))) (.seq (.region [⟨(some 54), (.mv (.t 0)), none, []⟩, ⟨(some 55), (.mv (.t 3)), none, []⟩, ⟨(some 56), (.slice 1 (.t 54) (some (.t 55)) none none), none, [0, 1]⟩, ⟨none, (.clear 1 (.int .i64 0) (.t 56)), none, [2]⟩] false) (.seq (.region [⟨(some 57), (.mv (.t 0)), none, []⟩, ⟨(some 58), (.mv (.t 3)), none, []⟩, ⟨(some 59), (.slice 1 (.t 57) none (some (.t 58)) none), none, [0, 1]⟩, ⟨(some 2), (.mv (.t 59)), none, [2, 0, 1, 2]⟩] false) .ret)))) .skip))) (.region [⟨(some 14), (.mv (.t 3)), none, []⟩, ⟨(some 15), (.bin false .add (.t 14) (.c (.int .i64 1))), none, [0]⟩, ⟨(some 3), (.mv (.t 15)), none, [1, 0, 1]⟩] false)))))) (.seq (.region [⟨(some 60), (.mv (.t 0)), none, []⟩, ⟨(some 2), (.mv (.t 60)), none, [0, 0]⟩] false) .ret))))⟩
theorem told24 : trFn seat 24 = some il24 := by kernel_rfl

def il25 : IFn := ⟨9, [(.t 2)], (.seq (.region [⟨(some 2), (.mv (.c (.list true []))), none, []⟩] false) (.seq (.region [⟨(some 4), (.mv (.t 0)), none, []⟩, ⟨(some 5), (.call (.f 40) [(.t 4)]), none, [0]⟩, ⟨(some 3), (.mv (.t 5)), none, [1, 1, 0, 1]⟩] false) (.seq (.region [⟨(some 6), (.mv (.t 3)), none, []⟩, ⟨(some 7), (.call (.f 41) [(.t 6)]), none, [0]⟩] false) (.seq (.region [⟨(some 8), (.mv (.t 3)), none, []⟩, ⟨(some 2), (.mv (.t 8)), none, [0, 0]⟩] false) .ret))))⟩
theorem told25 : trFn seat 25 = some il25 := by kernel_rfl

def il26 : IFn := ⟨4, [(.t 2)], (.seq (.region [⟨(some 1), (.box (.t 0)), none, []⟩, ⟨(some 2), (.mv (.c .nilfunc)), none, []⟩] false) (.seq (.region [⟨(some 3), (.mkfunc 42 [] [(.t 1)]), none, []⟩, ⟨(some 2), (.mv (.t 3)), none, [0, 0]⟩] false) .ret))⟩
theorem told26 : trFn seat 26 = some il26 := by kernel_rfl

def il35 : IFn := ⟨26, [(.t 4)], (.seq (.region [⟨(some 4), (.mv (.c (.bool false))), none, []⟩] false) (.seq (.seq (.region [⟨(some 6), (.mv (.t 0)), none, []⟩, ⟨(some 7), (.len (.t 6)), none, [0]⟩, ⟨(some 8), (.mv (.t 1)), none, []⟩, ⟨(some 9), (.len (.t 8)), none, [2]⟩, ⟨(some 10), (.bin false .neq (.t 7) (.t 9)), none, [1, 3]⟩] false) (.cond (.t 10) (.seq (.region [⟨(some 4), (.mv (.c (.bool false))), none, []⟩] false) .ret) .skip)) (.seq (.seq (.region [⟨(some 5), (.mv (.c (.int .i64 0))), none, []⟩] false) (.block 0 (.loop (.seq (.seq (.region [⟨(some 11), (.mv (.t 5)), none, []⟩, ⟨(some 12), (.mv (.t 0)), none, []⟩, ⟨(some 13), (.len (.t 12)), none, [1]⟩, ⟨(some 14), (.bin false .lss (.t 11) (.t 13)), none, [0, 2]⟩] false) (.cond (.t 14) .skip (.exit 0))) (.seq (.block 1 (.seq (.region [⟨(some 17), (.mv (.t 0)), none, []⟩, ⟨(some 18), (.mv (.t 5)), none, []⟩, ⟨(some 19), (.iaddr 1 (.t 17) (.t 18)), none, [0, 1]⟩, ⟨(some 20), (.load false 1 (.t 19)), none, [2]⟩, ⟨(some 21), (.mv (.t 1)), none, []⟩, ⟨(some 22), (.mv (.t 5)), none, []⟩, ⟨(some 23), (.iaddr 1 (.t 21) (.t 22)), none, [4, 5]⟩, ⟨(some 24), (.load false 1 (.t 23)), none, [6]⟩, ⟨(some 25), (.bin false .neq (.t 20) (.t 24)), none, [3, 7]⟩] true) (.cond (.t 25) (.seq (.region [⟨(some 4), (.mv (.c (.bool false))), none, []⟩] false) .ret) .skip))) (.region [⟨(some 15), (.mv (.t 5)), none, []⟩, ⟨(some 16), (.bin false .add (.t 15) (.c (.int .i64 1))), none, [0]⟩, ⟨(some 5), (.mv (.t 16)), none, [1, 0, 1]⟩] false)))))) (.seq (.region [⟨(some 4), (.mv (.c (.bool true))), none, []⟩] false) .ret))))⟩
theorem told35 : trFn seat 35 = some il35 := by kernel_rfl

def il40 : IFn := ⟨5, [(.t 2)], (.seq (.region [⟨(some 2), (.mv (.c (.list true []))), none, []⟩] false) (.seq (.region [⟨(some 3), (.mv (.t 0)), none, []⟩, ⟨(some 4), (.call (.f 47) [(.c (.list true [])), (.t 3)]), none, [0]⟩, ⟨(some 2), (.mv (.t 4)), none, [1, 1, 0, 1]⟩] false) .ret))⟩
theorem told40 : trFn seat 40 = some il40 := by kernel_rfl

def il41 : IFn := ⟨11, [], (.seq (.region [⟨(some 3), (.mv (.t 0)), none, []⟩, ⟨(some 4), (.len (.t 3)), none, [0]⟩, ⟨(some 2), (.mv (.t 4)), none, [1, 0, 1]⟩] false) (.region [⟨(some 5), (.mv (.t 0)), none, []⟩, ⟨(some 6), (.mv (.t 2)), none, []⟩, ⟨(some 7), (.mv (.t 2)), none, []⟩, ⟨(some 8), (.convI .u64 (.t 7)), none, [2]⟩, ⟨(some 9), (.call (.f 49) [(.t 8)]), none, [3]⟩, ⟨(some 10), (.call (.f 48) [(.t 5), (.c (.int .i64 0)), (.t 6), (.t 9)]), none, [0, 1, 4, 4]⟩] false))⟩
theorem told41 : trFn seat 41 = some il41 := by kernel_rfl

def il42 : IFn := ⟨16, [], (.seq (.region [⟨(some 5), (.load false 1 (.t 1)), none, []⟩, ⟨(some 6), (.len (.t 5)), none, [0]⟩, ⟨(some 7), (.mv (.c (.int .i64 0))), none, []⟩] false) (.block 0 (.loop (.seq (.region [⟨(some 8), (.bin false .lss (.t 7) (.t 6)), none, []⟩] false) (.seq (.cond (.t 8) .skip (.exit 0)) (.seq (.block 1 (.seq (.region [⟨(some 9), (.iaddr 1 (.t 5) (.t 7)), none, []⟩, ⟨(some 10), (.load false 1 (.t 9)), none, [0]⟩, ⟨(some 4), (.mv (.t 10)), none, [1, 0, 1]⟩] false) (.seq (.region [⟨(some 11), (.mv (.t 0)), none, []⟩, ⟨(some 12), (.mv (.t 4)), none, []⟩, ⟨(some 13), (.call (.t 11) [(.t 12)]), none, [0, 1]⟩, ⟨(some 14), (.un .not (.t 13)), none, [2]⟩] false) (.cond (.t 14) .ret .skip)))) (.region [⟨(some 15), (.bin false .add (.t 7) (.c (.int .i64 1))), none, []⟩, ⟨(some 7), (.mv (.t 15)), none, [0]⟩] false)))))))⟩
theorem told42 : trFn seat 42 = some il42 := by kernel_rfl

def il47 : IFn := ⟨13, [(.t 4)], (.seq (.region [⟨(some 2), (.box (.t 0)), none, []⟩, ⟨(some 4), (.mv (.c (.list true []))), none, []⟩] false) (.seq (.seq (.region [⟨(some 6), (.mv (.t 1)), none, []⟩] false) (.block 0 (.rangeFunc (.t 6) [7] (.region [⟨(some 5), (.mv (.t 7)), none, []⟩] false) (.block 1 (.region [⟨(some 8), (.load false 1 (.t 2)), none, []⟩, ⟨(some 9), (.mv (.t 5)), none, []⟩, ⟨(some 10), (.bslice 1 1 (.int .i64 0) [(0, (.t 9))]), none, [1]⟩, ⟨(some 11), (.append 1 8 (.t 8) (.t 10)), none, [0, 2]⟩, ⟨none, (.store 1 (.t 2) (.t 11)), none, [3, 3, 0, 1, 2, 3]⟩] false))))) (.seq (.region [⟨(some 12), (.load false 1 (.t 2)), none, []⟩, ⟨(some 4), (.mv (.t 12)), none, [0, 0]⟩] false) .ret)))⟩
theorem told47 : trFn seat 47 = some il47 := by kernel_rfl

def il100 : IFn := ⟨19, [(.t 2)], (.seq (.region [⟨(some 2), (.mv (.c (.bool false))), none, []⟩] false) (.seq (.seq (.region [⟨(some 3), (.mv (.c (.int .i64 0))), none, []⟩] false) (.block 0 (.loop (.seq (.seq (.region [⟨(some 4), (.mv (.t 3)), none, []⟩, ⟨(some 5), (.mv (.t 0)), none, []⟩, ⟨(some 6), (.len (.t 5)), none, [1]⟩, ⟨(some 7), (.bin false .lss (.t 4) (.t 6)), none, [0, 2]⟩] false) (.cond (.t 7) .skip (.exit 0))) (.seq (.block 1 (.seq (.region [⟨(some 10), (.mv (.t 0)), none, []⟩, ⟨(some 11), (.mv (.t 3)), none, []⟩, ⟨(some 12), (.iaddr 8 (.t 10) (.t 11)), none, [0, 1]⟩, ⟨(some 13), (.load true 8 (.t 12)), none, [2]⟩, ⟨(some 14), (.call (.f 122) [(.t 13)]), none, [3]⟩, ⟨(some 15), (.un .not (.t 14)), none, [4]⟩] false) (.cond (.t 15) (.seq (.region [⟨(some 2), (.mv (.c (.bool false))), none, []⟩] false) .ret) .skip))) (.region [⟨(some 8), (.mv (.t 3)), none, []⟩, ⟨(some 9), (.bin false .add (.t 8) (.c (.int .i64 1))), none, [0]⟩, ⟨(some 3), (.mv (.t 9)), none, [1, 0, 1]⟩] false)))))) (.seq (.region [⟨(some 16), (.mv (.t 0)), none, []⟩, ⟨(some 17), (.len (.t 16)), none, [0]⟩, ⟨(some 18), (.bin false .leq (.t 17) (.c (.int .i64 300))), none, [1]⟩, ⟨(some 2), (.mv (.t 18)), none, [2, 0, 1, 2]⟩] false) .ret)))⟩
theorem told100 : trFn seat 100 = some il100 := by kernel_rfl

def il101 : IFn := ⟨31, [(.t 2)], (.seq (.region [⟨(some 2), (.mv (.c (.bool false))), none, []⟩] false) (.seq (.seq (.region [⟨(some 5), (.mv (.t 0)), none, []⟩, ⟨(some 6), (.len (.t 5)), none, [0]⟩, ⟨(some 7), (.mv (.c (.int .i64 0))), none, []⟩] false) (.block 0 (.loop (.seq (.region [⟨(some 8), (.bin false .lss (.t 7) (.t 6)), none, []⟩] false) (.seq (.cond (.t 8) .skip (.exit 0)) (.seq (.block 1 (.seq (.region [⟨(some 9), (.mv (.t 7)), none, []⟩, ⟨(some 10), (.iaddr 8 (.t 5) (.t 7)), none, []⟩, ⟨(some 11), (.load true 8 (.t 10)), none, [1]⟩, ⟨(some 4), (.alloc [(.int .i64 0), (.list true []), (.list true []), (.int .i64 0), (.list true []), (.list true []), (.list true []), (.list true [])]), none, []⟩, ⟨(some 3), (.mv (.t 9)), none, [0, 0, 1, 2, 3]⟩, ⟨none, (.store 8 (.t 4) (.t 11)), none, [3, 2, 4, 0, 1, 2, 3, 4]⟩] false) (.seq (.region [⟨(some 12), (.mv (.t 3)), none, []⟩, ⟨(some 13), (.faddr 0 (.t 4)), none, []⟩, ⟨(some 14), (.load false 1 (.t 13)), none, [1]⟩, ⟨(some 15), (.call (.f 123) [(.t 12), (.t 14)]), none, [0, 2]⟩, ⟨(some 16), (.un .not (.t 15)), none, [3]⟩, ⟨(some 17), (.mv (.t 16)), none, [4, 3]⟩, ⟨(some 18), (.load true 8 (.t 4)), (some (17, false)), [5]⟩, ⟨(some 19), (.call (.f 124) [(.t 18)]), (some (17, false)), [6, 5, 5]⟩, ⟨(some 20), (.bin false .neq (.t 19) (.c (.int .i64 0))), (some (17, false)), [7, 5]⟩, ⟨(some 21), (.pick (.t 17) (.c (.bool true)) (.t 20)), none, [5, 8]⟩] false) (.cond (.t 21) (.seq (.region [⟨(some 2), (.mv (.c (.bool false))), none, []⟩] false) .ret) .skip)))) (.region [⟨(some 22), (.bin false .add (.t 7) (.c (.int .i64 1))), none, []⟩, ⟨(some 7), (.mv (.t 22)), none, [0]⟩] false))))))) (.seq (.region [⟨(some 23), (.mv (.t 0)), none, []⟩, ⟨(some 24), (.len (.t 23)), none, [0]⟩, ⟨(some 25), (.bin false .eql (.t 24) (.c (.int .i64 0))), none, [1]⟩, ⟨(some 26), (.mv (.t 25)), none, [2]⟩, ⟨(some 27), (.mv (.t 0)), (some (26, false)), [3]⟩, ⟨(some 28), (.len (.t 27)), (some (26, false)), [4, 3]⟩, ⟨(some 29), (.call (.f 125) [(.t 28)]), (some (26, false)), [5, 3, 3]⟩, ⟨(some 30), (.pick (.t 26) (.c (.bool true)) (.t 29)), none, [3, 6]⟩, ⟨(some 2), (.mv (.t 30)), none, [7, 6, 0, 1, 2, 3, 4, 5, 6, 7]⟩] false) .ret)))⟩
theorem told101 : trFn seat 101 = some il101 := by kernel_rfl

def il103 : IFn := ⟨8, [(.t 2)], (.seq (.region [⟨(some 2), (.mv (.c (.int .i64 0))), none, []⟩] false) (.seq (.region [⟨(some 3), (.mv (.t 0)), none, []⟩, ⟨(some 4), (.call (.f 126) [(.t 3)]), none, [0]⟩, ⟨(some 5), (.len (.t 4)), none, [1]⟩, ⟨(some 6), (.bin false .add (.t 5) (.c (.int .i64 1))), none, [2]⟩, ⟨(some 7), (.bin false .quo (.t 6) (.c (.int .i64 2))), none, [3]⟩, ⟨(some 2), (.mv (.t 7)), none, [4, 1, 0, 1, 2, 3, 4]⟩] false) .ret))⟩
theorem told103 : trFn seat 103 = some il103 := by kernel_rfl

def il104 : IFn := ⟨14, [(.cell 2 false 1)], (.seq (.region [⟨(some 2), (.alloc [(.int .i64 0)]), none, []⟩] false) (.seq (.seq (.region [⟨(some 5), (.mv (.t 0)), none, []⟩, ⟨(some 6), (.call (.f 126) [(.t 5)]), none, [0]⟩, ⟨(some 7), (.call (.f 128) [(.t 6)]), none, [1, 1]⟩] false) (.block 0 (.rangeFunc (.t 7) [8, 9] (.seq (.region [⟨(some 3), (.mv (.t 8)), none, []⟩] false) (.region [⟨(some 4), (.alloc [(.int .i64 0), (.list true []), (.list true []), (.int .i64 0), (.list true []), (.list true []), (.list true []), (.list true [])]), none, []⟩, ⟨none, (.store 8 (.t 4) (.t 9)), none, [0, 0]⟩] false)) (.block 1 (.seq (.region [⟨(some 10), (.load true 8 (.t 4)), none, []⟩, ⟨(some 11), (.call (.f 127) [(.t 10)]), none, [0]⟩, ⟨(some 12), (.un .not (.t 11)), none, [1]⟩] false) (.cond (.t 12) (.seq (.region [⟨(some 13), (.mv (.t 3)), none, []⟩, ⟨none, (.store 1 (.t 2) (.t 13)), none, [0, 0]⟩] false) .ret) .skip)))))) (.seq (.region [⟨none, (.store 1 (.t 2) (.c (.int .i64 (-1)))), none, []⟩] false) .ret)))⟩
theorem told104 : trFn seat 104 = some il104 := by kernel_rfl

def il106 : IFn := ⟨27, [(.t 4)], (.seq (.region [⟨(some 4), (.mv (.c (.bool false))), none, []⟩] false) (.seq (.seq (.region [⟨(some 6), (.mv (.t 0)), none, []⟩, ⟨(some 7), (.len (.t 6)), none, [0]⟩, ⟨(some 8), (.mv (.t 1)), none, []⟩, ⟨(some 9), (.len (.t 8)), none, [2]⟩, ⟨(some 10), (.bin false .neq (.t 7) (.t 9)), none, [1, 3]⟩] false) (.cond (.t 10) (.seq (.region [⟨(some 4), (.mv (.c (.bool false))), none, []⟩] false) .ret) .skip)) (.seq (.seq (.region [⟨(some 5), (.mv (.c (.int .i64 0))), none, []⟩] false) (.block 0 (.loop (.seq (.seq (.region [⟨(some 11), (.mv (.t 5)), none, []⟩, ⟨(some 12), (.mv (.t 0)), none, []⟩, ⟨(some 13), (.len (.t 12)), none, [1]⟩, ⟨(some 14), (.bin false .lss (.t 11) (.t 13)), none, [0, 2]⟩] false) (.cond (.t 14) .skip (.exit 0))) (.seq (.block 1 (.seq (.region [⟨(some 17), (.mv (.t 0)), none, []⟩, ⟨(some 18), (.mv (.t 5)), none, []⟩, ⟨(some 19), (.iaddr 8 (.t 17) (.t 18)), none, [0, 1]⟩, ⟨(some 20), (.load true 8 (.t 19)), none, [2]⟩, ⟨(some 21), (.mv (.t 1)), none, []⟩, ⟨(some 22), (.mv (.t 5)), none, []⟩, ⟨(some 23), (.iaddr 8 (.t 21) (.t 22)), none, [4, 5]⟩, ⟨(some 24), (.load true 8 (.t 23)), none, [6]⟩, ⟨(some 25), (.call (.f 130) [(.t 20), (.t 24)]), none, [3, 7]⟩, ⟨(some 26), (.un .not (.t 25)), none, [8]⟩] true) (.cond (.t 26) (.seq (.region [⟨(some 4), (.mv (.c (.bool false))), none, []⟩] false) .ret) .skip))) (.region [⟨(some 15), (.mv (.t 5)), none, []⟩, ⟨(some 16), (.bin false .add (.t 15) (.c (.int .i64 1))), none, [0]⟩, ⟨(some 5), (.mv (.t 16)), none, [1, 0, 1]⟩] false)))))) (.seq (.region [⟨(some 4), (.mv (.c (.bool true))), none, []⟩] false) .ret))))⟩
theorem told106 : trFn seat 106 = some il106 := by kernel_rfl

def il107 : IFn := ⟨19, [(.t 2), (.t 3)], (.seq (.region [⟨(some 2), (.mv (.c (.list true []))), none, []⟩, ⟨(some 3), (.mv (.c (.int .i64 0))), none, [0]⟩] false) (.seq (.region [⟨(some 4), (.mv (.t 0)), none, []⟩, ⟨(some 5), (.call (.f 126) [(.t 4)]), none, [0]⟩, ⟨(some 0), (.mv (.t 5)), none, [1, 1, 0, 1]⟩] false) (.seq (.seq (.region [⟨(some 6), (.mv (.t 0)), none, []⟩, ⟨(some 7), (.len (.t 6)), none, [0]⟩, ⟨(some 8), (.bin false .eql (.t 7) (.c (.int .i64 127))), none, [1]⟩] false) (.cond (.t 8) (.seq (.region [⟨(some 2), (.mv (.c (.list true []))), none, []⟩, ⟨(some 3), (.mv (.c (.int .i64 10))), none, [0, 0]⟩] false) .ret) .skip)) (.seq (.region [⟨(some 9), (.mv (.t 0)), none, []⟩, ⟨(some 10), (.mv (.t 0)), none, []⟩, ⟨(some 11), (.len (.t 10)), none, [1]⟩, ⟨(some 12), (.mv (.t 0)), none, []⟩, ⟨(some 13), (.len (.t 12)), none, [3]⟩, ⟨(some 14), (.slice 8 (.t 9) none (some (.t 11)) (some (.t 13))), none, [0, 2, 4]⟩, ⟨(some 15), (.mv (.t 0)), none, []⟩, ⟨(some 16), (.len (.t 15)), none, [6]⟩, ⟨(some 17), (.bin false .add (.t 16) (.c (.int .i64 1))), none, [7]⟩, ⟨(some 18), (.appendZ 8 160 (.agg [(.int .i64 0), (.list true []), (.list true []), (.int .i64 0), (.list true []), (.list true []), (.list true []), (.list true [])]) (.t 14) (.t 17)), none, [5, 8]⟩, ⟨(some 2), (.mv (.t 18)), none, [9, 9, 0, 1, 2, 3, 4, 5, 6, 7, 8, 9]⟩, ⟨(some 3), (.mv (.c (.int .i64 0))), none, [10, 0, 1, 2, 3, 4, 5, 6, 7, 8, 9, 10]⟩] false) .ret))))⟩
theorem told107 : trFn seat 107 = some il107 := by kernel_rfl

def il109 : IFn := ⟨8, [(.t 2)], (.seq (.region [⟨(some 2), (.mv (.c (.int .i64 0))), none, []⟩] false) (.seq (.seq (.region [⟨(some 3), (.mv (.t 0)), none, []⟩, ⟨(some 4), (.call (.f 125) [(.t 3)]), none, [0]⟩, ⟨(some 5), (.un .not (.t 4)), none, [1]⟩] false) (.cond (.t 5) (.seq (.region [⟨(some 2), (.mv (.c (.int .i64 (-1)))), none, []⟩] false) .ret) .skip)) (.seq (.region [⟨(some 6), (.mv (.t 0)), none, []⟩, ⟨(some 7), (.bin false .quo (.t 6) (.c (.int .i64 2))), none, [0]⟩, ⟨(some 2), (.mv (.t 7)), none, [1, 0, 1]⟩] false) .ret)))⟩
theorem told109 : trFn seat 109 = some il109 := by kernel_rfl

def il122 : IFn := ⟨11, [(.t 2)], (.seq (.region [⟨(some 1), (.box (.t 0)), none, []⟩, ⟨(some 2), (.mv (.c (.bool false))), none, []⟩] false) (.seq (.region [⟨(some 3), (.faddr 1 (.t 1)), none, []⟩, ⟨(some 4), (.load true 4 (.t 3)), none, [0]⟩, ⟨(some 5), (.call (.f 144) [(.t 4)]), none, [1]⟩, ⟨(some 6), (.mv (.t 5)), none, [2, 2]⟩, ⟨(some 7), (.faddr 5 (.t 1)), (some (6, true)), [3]⟩, ⟨(some 8), (.load true 3 (.t 7)), (some (6, true)), [4, 3]⟩, ⟨(some 9), (.call (.f 145) [(.t 8)]), (some (6, true)), [5, 3, 3]⟩, ⟨(some 10), (.pick (.t 6) (.t 9) (.c (.bool false))), none, [3, 6]⟩, ⟨(some 2), (.mv (.t 10)), none, [7, 6, 0, 1, 2, 3, 4, 5, 6, 7]⟩] false) .ret))⟩
theorem told122 : trFn seat 122 = some il122 := by kernel_rfl

def il123 : IFn := ⟨12, [(.t 4)], (.seq (.region [⟨(some 4), (.mv (.c (.bool false))), none, []⟩] false) (.seq (.seq (.region [⟨(some 5), (.mv (.t 0)), none, []⟩, ⟨(some 6), (.bin false .rem (.t 5) (.c (.int .i64 2))), none, [0]⟩, ⟨(some 7), (.bin false .eql (.t 6) (.c (.int .i64 0))), none, [1]⟩] false) (.cond (.t 7) (.seq (.region [⟨(some 8), (.mv (.t 1)), none, []⟩, ⟨(some 9), (.bin false .neq (.t 8) (.c (.int .i64 2))), none, [0]⟩, ⟨(some 4), (.mv (.t 9)), none, [1, 0, 1]⟩] false) .ret) .skip)) (.seq (.region [⟨(some 10), (.mv (.t 1)), none, []⟩, ⟨(some 11), (.bin false .neq (.t 10) (.c (.int .i64 1))), none, [0]⟩, ⟨(some 4), (.mv (.t 11)), none, [1, 0, 1]⟩] false) .ret)))⟩
theorem told123 : trFn seat 123 = some il123 := by kernel_rfl

def il124 : IFn := ⟨47, [(.t 2)], (.seq (.region [⟨(some 1), (.box (.t 0)), none, []⟩, ⟨(some 2), (.mv (.c (.int .i64 0))), none, []⟩] false) (.seq (.block 0 (.seq (.region [⟨(some 4), (.faddr 0 (.t 1)), none, []⟩, ⟨(some 5), (.load false 1 (.t 4)), none, [0]⟩, ⟨(some 6), (.bin false .lss (.t 5) (.c (.int .i64 0))), none, [1]⟩, ⟨(some 7), (.mv (.t 6)), none, [2]⟩, ⟨(some 8), (.faddr 0 (.t 1)), (some (7, false)), [3]⟩, ⟨(some 9), (.load false 1 (.t 8)), (some (7, false)), [4, 3]⟩, ⟨(some 10), (.bin false .gtr (.t 9) (.c (.int .i64 2))), (some (7, false)), [5, 3]⟩, ⟨(some 11), (.pick (.t 7) (.c (.bool true)) (.t 10)), none, [3, 6]⟩, ⟨(some 3), (.mv (.t 11)), none, [7, 3]⟩] false) (.cond (.t 3) (.seq (.region [⟨(some 2), (.mv (.c (.int .i64 7))), none, []⟩] false) .ret) (.seq (.seq (.region [⟨(some 13), (.faddr 0 (.t 1)), none, []⟩, ⟨(some 14), (.load false 1 (.t 13)), none, [0]⟩, ⟨(some 15), (.bin false .neq (.t 14) (.c (.int .i64 1))), none, [1]⟩, ⟨(some 16), (.mv (.t 15)), none, [2]⟩, ⟨(some 17), (.faddr 1 (.t 1)), (some (16, true)), [3]⟩, ⟨(some 18), (.load true 4 (.t 17)), (some (16, true)), [4, 3]⟩, ⟨(some 19), (.build [(.list true []), (.list true []), (.int .i64 0), (.list true [])] []), (some (16, true)), [3]⟩, ⟨(some 20), (.call (.f 142) [(.t 18), (.t 19)]), (some (16, true)), [5, 6, 3, 3]⟩, ⟨(some 21), (.un .not (.t 20)), (some (16, true)), [7, 3]⟩, ⟨(some 22), (.pick (.t 16) (.t 21) (.c (.bool false))), none, [3, 8]⟩, ⟨(some 12), (.mv (.t 22)), none, [9, 7]⟩] false) (.cond (.t 12) .skip (.region [⟨(some 23), (.faddr 0 (.t 1)), none, []⟩, ⟨(some 24), (.load false 1 (.t 23)), none, [0]⟩, ⟨(some 25), (.bin false .neq (.t 24) (.c (.int .i64 2))), none, [1]⟩, ⟨(some 26), (.mv (.t 25)), none, [2]⟩, ⟨(some 27), (.faddr 5 (.t 1)), (some (26, true)), [3]⟩, ⟨(some 28), (.load true 3 (.t 27)), (some (26, true)), [4, 3]⟩, ⟨(some 29), (.build [(.list true []), (.list true []), (.list true [])] []), (some (26, true)), [3]⟩, ⟨(some 30), (.call (.f 143) [(.t 28), (.t 29)]), (some (26, true)), [5, 6, 3, 3]⟩, ⟨(some 31), (.un .not (.t 30)), (some (26, true)), [7, 3]⟩, ⟨(some 32), (.pick (.t 26) (.t 31) (.c (.bool false))), none, [3, 8]⟩, ⟨(some 12), (.mv (.t 32)), none, [9, 7]⟩] false))) (.cond (.t 12) (.seq (.region [⟨(some 2), (.mv (.c (.int .i64 2))), none, []⟩] false) .ret) (.seq (.region [⟨(some 34), (.faddr 0 (.t 1)), none, []⟩, ⟨(some 35), (.load false 1 (.t 34)), none, [0]⟩, ⟨(some 36), (.bin false .eql (.t 35) (.c (.int .i64 1))), none, [1]⟩, ⟨(some 33), (.mv (.t 36)), none, [2]⟩] false) (.cond (.t 33) (.seq (.region [⟨(some 37), (.faddr 1 (.t 1)), none, []⟩, ⟨(some 38), (.load true 4 (.t 37)), none, [0]⟩, ⟨(some 39), (.call (.f 146) [(.t 38)]), none, [1]⟩, ⟨(some 2), (.mv (.t 39)), none, [2, 2, 0, 1, 2]⟩] false) .ret) (.seq (.region [⟨(some 41), (.faddr 0 (.t 1)), none, []⟩, ⟨(some 42), (.load false 1 (.t 41)), none, [0]⟩, ⟨(some 43), (.bin false .eql (.t 42) (.c (.int .i64 2))), none, [1]⟩, ⟨(some 40), (.mv (.t 43)), none, [2]⟩] false) (.cond (.t 40) (.seq (.region [⟨(some 44), (.faddr 5 (.t 1)), none, []⟩, ⟨(some 45), (.load true 3 (.t 44)), none, [0]⟩, ⟨(some 46), (.call (.f 147) [(.t 45)]), none, [1]⟩, ⟨(some 2), (.mv (.t 46)), none, [2, 2, 0, 1, 2]⟩] false) .ret) .skip))))))))) (.seq (.region [⟨(some 2), (.mv (.c (.int .i64 0))), none, []⟩] false) .ret)))⟩
theorem told124 : trFn seat 124 = some il124 := by kernel_rfl

def il125 : IFn := ⟨16, [(.t 2)], (.seq (.region [⟨(some 2), (.mv (.c (.bool false))), none, []⟩] false) (.seq (.region [⟨(some 3), (.mv (.t 0)), none, []⟩, ⟨(some 4), (.bin false .gtr (.t 3) (.c (.int .i64 0))), none, [0]⟩, ⟨(some 5), (.mv (.t 4)), none, [1]⟩, ⟨(some 6), (.mv (.t 0)), (some (5, true)), [2]⟩, ⟨(some 7), (.bin false .leq (.t 6) (.c (.int .i64 127))), (some (5, true)), [3, 2]⟩, ⟨(some 8), (.pick (.t 5) (.t 7) (.c (.bool false))), none, [2, 4]⟩, ⟨(some 9), (.mv (.t 8)), none, [5, 2]⟩, ⟨(some 10), (.mv (.t 0)), (some (9, true)), [6]⟩, ⟨(some 11), (.mv (.t 0)), (some (9, true)), [6]⟩, ⟨(some 12), (.bin false .add (.t 11) (.c (.int .i64 1))), (some (9, true)), [8, 6]⟩, ⟨(some 13), (.bin false .and (.t 10) (.t 12)), (some (9, true)), [7, 9, 6]⟩, ⟨(some 14), (.bin false .eql (.t 13) (.c (.int .i64 0))), (some (9, true)), [10, 6]⟩, ⟨(some 15), (.pick (.t 9) (.t 14) (.c (.bool false))), none, [6, 11]⟩, ⟨(some 2), (.mv (.t 15)), none, [12, 6, 0, 1, 2, 3, 4, 5, 6, 7, 8, 9, 10, 11, 12]⟩] false) .ret))⟩
theorem told125 : trFn seat 125 = some il125 := by kernel_rfl

def il126 : IFn := ⟨6, [(.t 2)], (.seq (.region [⟨(some 2), (.mv (.c (.list true []))), none, []⟩] false) (.seq (.seq (.region [⟨(some 3), (.mv (.t 0)), none, []⟩, ⟨(some 4), (.call (.f 101) [(.t 3)]), none, [0]⟩] false) (.cond (.t 4) (.seq (.region [⟨(some 5), (.mv (.t 0)), none, []⟩, ⟨(some 2), (.mv (.t 5)), none, [0, 0]⟩] false) .ret) .skip)) (.seq (.region [⟨(some 2), (.mv (.c (.list true []))), none, []⟩] false) .ret)))⟩
theorem told126 : trFn seat 126 = some il126 := by kernel_rfl

def il127 : IFn := ⟨6, [(.t 2)], (.seq (.region [⟨(some 1), (.box (.t 0)), none, []⟩, ⟨(some 2), (.mv (.c (.bool false))), none, []⟩] false) (.seq (.region [⟨(some 3), (.faddr 0 (.t 1)), none, []⟩, ⟨(some 4), (.load false 1 (.t 3)), none, [0]⟩, ⟨(some 5), (.bin false .eql (.t 4) (.c (.int .i64 0))), none, [1]⟩, ⟨(some 2), (.mv (.t 5)), none, [2, 0, 1, 2]⟩] false) .ret))⟩
theorem told127 : trFn seat 127 = some il127 := by kernel_rfl

def il128 : IFn := ⟨4, [(.t 2)], (.seq (.region [⟨(some 1), (.box (.t 0)), none, []⟩, ⟨(some 2), (.mv (.c .nilfunc)), none, []⟩] false) (.seq (.region [⟨(some 3), (.mkfunc 148 [] [(.t 1)]), none, []⟩, ⟨(some 2), (.mv (.t 3)), none, [0, 0]⟩] false) .ret))⟩
theorem told128 : trFn seat 128 = some il128 := by kernel_rfl

def il129 : IFn := ⟨8, [(.t 2)], (.seq (.region [⟨(some 2), (.mv (.c (.list true []))), none, []⟩] false) (.seq (.seq (.region [⟨(some 3), (.mv (.t 0)), none, []⟩, ⟨(some 4), (.isnil .slice false (.t 3)), none, [0]⟩] false) (.cond (.t 4) (.seq (.region [⟨(some 2), (.mv (.c (.list true []))), none, []⟩] false) .ret) .skip)) (.seq (.region [⟨(some 5), (.bslice 8 0 (.agg [(.int .i64 0), (.list true []), (.list true []), (.int .i64 0), (.list true []), (.list true []), (.list true []), (.list true [])]) []), none, []⟩, ⟨(some 6), (.mv (.t 0)), none, []⟩, ⟨(some 7), (.append 8 160 (.t 5) (.t 6)), none, [0, 1]⟩, ⟨(some 2), (.mv (.t 7)), none, [2, 2, 0, 1, 2]⟩] false) .ret)))⟩
theorem told129 : trFn seat 129 = some il129 := by kernel_rfl

def il130 : IFn := ⟨24, [(.t 4)], (.seq (.region [⟨(some 2), (.box (.t 0)), none, []⟩, ⟨(some 3), (.box (.t 1)), none, []⟩, ⟨(some 4), (.mv (.c (.bool false))), none, []⟩] false) (.seq (.region [⟨(some 5), (.faddr 0 (.t 2)), none, []⟩, ⟨(some 6), (.load false 1 (.t 5)), none, [0]⟩, ⟨(some 7), (.faddr 0 (.t 3)), none, []⟩, ⟨(some 8), (.load false 1 (.t 7)), none, [2]⟩, ⟨(some 9), (.bin false .eql (.t 6) (.t 8)), none, [1, 3]⟩, ⟨(some 10), (.mv (.t 9)), none, [4]⟩, ⟨(some 11), (.faddr 1 (.t 2)), (some (10, true)), [5]⟩, ⟨(some 12), (.load true 4 (.t 11)), (some (10, true)), [6, 5]⟩, ⟨(some 13), (.faddr 1 (.t 3)), (some (10, true)), [5]⟩, ⟨(some 14), (.load true 4 (.t 13)), (some (10, true)), [8, 5]⟩, ⟨(some 15), (.call (.f 149) [(.t 12), (.t 14)]), (some (10, true)), [7, 9, 5, 5]⟩, ⟨(some 16), (.pick (.t 10) (.t 15) (.c (.bool false))), none, [5, 10]⟩, ⟨(some 17), (.mv (.t 16)), none, [11, 10]⟩, ⟨(some 18), (.faddr 5 (.t 2)), (some (17, true)), [12]⟩, ⟨(some 19), (.load true 3 (.t 18)), (some (17, true)), [13, 12]⟩, ⟨(some 20), (.faddr 5 (.t 3)), (some (17, true)), [12]⟩, ⟨(some 21), (.load true 3 (.t 20)), (some (17, true)), [15, 12]⟩, ⟨(some 22), (.call (.f 150) [(.t 19), (.t 21)]), (some (17, true)), [14, 16, 12, 12]⟩, ⟨(some 23), (.pick (.t 17) (.t 22) (.c (.bool false))), none, [12, 17]⟩, ⟨(some 4), (.mv (.t 23)), none, [18, 17, 0, 1, 2, 3, 4, 5, 6, 7, 8, 9, 10, 11, 12, 13, 14, 15, 16, 17, 18]⟩] false) .ret))⟩
theorem told130 : trFn seat 130 = some il130 := by kernel_rfl

def il142 : IFn := ⟨31, [(.t 4)], (.seq (.region [⟨(some 2), (.box (.t 0)), none, []⟩, ⟨(some 3), (.box (.t 1)), none, []⟩, ⟨(some 4), (.mv (.c (.bool false))), none, []⟩] false) (.seq (.region [⟨(some 5), (.faddr 2 (.t 2)), none, []⟩, ⟨(some 6), (.load false 1 (.t 5)), none, [0]⟩, ⟨(some 7), (.faddr 2 (.t 3)), none, []⟩, ⟨(some 8), (.load false 1 (.t 7)), none, [2]⟩, ⟨(some 9), (.bin false .eql (.t 6) (.t 8)), none, [1, 3]⟩, ⟨(some 10), (.mv (.t 9)), none, [4]⟩, ⟨(some 11), (.faddr 0 (.t 2)), (some (10, true)), [5]⟩, ⟨(some 12), (.load false 1 (.t 11)), (some (10, true)), [6, 5]⟩, ⟨(some 13), (.faddr 0 (.t 3)), (some (10, true)), [5]⟩, ⟨(some 14), (.load false 1 (.t 13)), (some (10, true)), [8, 5]⟩, ⟨(some 15), (.call (.f 156) [(.t 12), (.t 14)]), (some (10, true)), [7, 9, 5, 5]⟩, ⟨(some 16), (.pick (.t 10) (.t 15) (.c (.bool false))), none, [5, 10]⟩, ⟨(some 17), (.mv (.t 16)), none, [11, 10]⟩, ⟨(some 18), (.faddr 1 (.t 2)), (some (17, true)), [12]⟩, ⟨(some 19), (.load false 1 (.t 18)), (some (17, true)), [13, 12]⟩, ⟨(some 20), (.faddr 1 (.t 3)), (some (17, true)), [12]⟩, ⟨(some 21), (.load false 1 (.t 20)), (some (17, true)), [15, 12]⟩, ⟨(some 22), (.call (.f 156) [(.t 19), (.t 21)]), (some (17, true)), [14, 16, 12, 12]⟩, ⟨(some 23), (.pick (.t 17) (.t 22) (.c (.bool false))), none, [12, 17]⟩, ⟨(some 24), (.mv (.t 23)), none, [18, 17]⟩, ⟨(some 25), (.faddr 3 (.t 2)), (some (24, true)), [19]⟩, ⟨(some 26), (.load false 1 (.t 25)), (some (24, true)), [20, 19]⟩, ⟨(some 27), (.faddr 3 (.t 3)), (some (24, true)), [19]⟩, ⟨(some 28), (.load false 1 (.t 27)), (some (24, true)), [22, 19]⟩, ⟨(some 29), (.call (.f 156) [(.t 26), (.t 28)]), (some (24, true)), [21, 23, 19, 19]⟩, ⟨(some 30), (.pick (.t 24) (.t 29) (.c (.bool false))), none, [19, 24]⟩, ⟨(some 4), (.mv (.t 30)), none, [25, 24, 0, 1, 2, 3, 4, 5, 6, 7, 8, 9, 10, 11, 12, 13, 14, 15, 16, 17, 18, 19, 20, 21, 22, 23, 24, 25]⟩] false) .ret))⟩
theorem told142 : trFn seat 142 = some il142 := by kernel_rfl

def il143 : IFn := ⟨24, [(.t 4)], (.seq (.region [⟨(some 2), (.box (.t 0)), none, []⟩, ⟨(some 3), (.box (.t 1)), none, []⟩, ⟨(some 4), (.mv (.c (.bool false))), none, []⟩] false) (.seq (.region [⟨(some 5), (.faddr 0 (.t 2)), none, []⟩, ⟨(some 6), (.load false 1 (.t 5)), none, [0]⟩, ⟨(some 7), (.faddr 0 (.t 3)), none, []⟩, ⟨(some 8), (.load false 1 (.t 7)), none, [2]⟩, ⟨(some 9), (.call (.f 156) [(.t 6), (.t 8)]), none, [1, 3]⟩, ⟨(some 10), (.mv (.t 9)), none, [4, 4]⟩, ⟨(some 11), (.faddr 1 (.t 2)), (some (10, true)), [5]⟩, ⟨(some 12), (.load false 1 (.t 11)), (some (10, true)), [6, 5]⟩, ⟨(some 13), (.faddr 1 (.t 3)), (some (10, true)), [5]⟩, ⟨(some 14), (.load false 1 (.t 13)), (some (10, true)), [8, 5]⟩, ⟨(some 15), (.call (.f 156) [(.t 12), (.t 14)]), (some (10, true)), [7, 9, 5, 5]⟩, ⟨(some 16), (.pick (.t 10) (.t 15) (.c (.bool false))), none, [5, 10]⟩, ⟨(some 17), (.mv (.t 16)), none, [11, 10]⟩, ⟨(some 18), (.faddr 2 (.t 2)), (some (17, true)), [12]⟩, ⟨(some 19), (.load false 1 (.t 18)), (some (17, true)), [13, 12]⟩, ⟨(some 20), (.faddr 2 (.t 3)), (some (17, true)), [12]⟩, ⟨(some 21), (.load false 1 (.t 20)), (some (17, true)), [15, 12]⟩, ⟨(some 22), (.call (.f 157) [(.t 19), (.t 21)]), (some (17, true)), [14, 16, 12, 12]⟩, ⟨(some 23), (.pick (.t 17) (.t 22) (.c (.bool false))), none, [12, 17]⟩, ⟨(some 4), (.mv (.t 23)), none, [18, 17, 0, 1, 2, 3, 4, 5, 6, 7, 8, 9, 10, 11, 12, 13, 14, 15, 16, 17, 18]⟩] false) .ret))⟩
theorem told143 : trFn seat 143 = some il143 := by kernel_rfl

def il144 : IFn := ⟨15, [(.t 2)], (.seq (.region [⟨(some 1), (.box (.t 0)), none, []⟩, ⟨(some 2), (.mv (.c (.bool false))), none, []⟩] false) (.seq (.region [⟨(some 3), (.faddr 0 (.t 1)), none, []⟩, ⟨(some 4), (.load false 1 (.t 3)), none, [0]⟩, ⟨(some 5), (.len (.t 4)), none, [1]⟩, ⟨(some 6), (.faddr 1 (.t 1)), none, []⟩, ⟨(some 7), (.load false 1 (.t 6)), none, [3]⟩, ⟨(some 8), (.len (.t 7)), none, [4]⟩, ⟨(some 9), (.bin false .add (.t 5) (.t 8)), none, [2, 5]⟩, ⟨(some 10), (.faddr 3 (.t 1)), none, []⟩, ⟨(some 11), (.load false 1 (.t 10)), none, [7]⟩, ⟨(some 12), (.len (.t 11)), none, [8]⟩, ⟨(some 13), (.bin false .add (.t 9) (.t 12)), none, [6, 9]⟩, ⟨(some 14), (.bin false .leq (.t 13) (.c (.int .i64 1000))), none, [10]⟩, ⟨(some 2), (.mv (.t 14)), none, [11, 0, 1, 2, 3, 4, 5, 6, 7, 8, 9, 10, 11]⟩] false) .ret))⟩
theorem told144 : trFn seat 144 = some il144 := by kernel_rfl

def il145 : IFn := ⟨15, [(.t 2)], (.seq (.region [⟨(some 1), (.box (.t 0)), none, []⟩, ⟨(some 2), (.mv (.c (.bool false))), none, []⟩] false) (.seq (.region [⟨(some 3), (.faddr 0 (.t 1)), none, []⟩, ⟨(some 4), (.load false 1 (.t 3)), none, [0]⟩, ⟨(some 5), (.len (.t 4)), none, [1]⟩, ⟨(some 6), (.faddr 1 (.t 1)), none, []⟩, ⟨(some 7), (.load false 1 (.t 6)), none, [3]⟩, ⟨(some 8), (.len (.t 7)), none, [4]⟩, ⟨(some 9), (.bin false .add (.t 5) (.t 8)), none, [2, 5]⟩, ⟨(some 10), (.faddr 2 (.t 1)), none, []⟩, ⟨(some 11), (.load false 1 (.t 10)), none, [7]⟩, ⟨(some 12), (.len (.t 11)), none, [8]⟩, ⟨(some 13), (.bin false .add (.t 9) (.t 12)), none, [6, 9]⟩, ⟨(some 14), (.bin false .leq (.t 13) (.c (.int .i64 600))), none, [10]⟩, ⟨(some 2), (.mv (.t 14)), none, [11, 0, 1, 2, 3, 4, 5, 6, 7, 8, 9, 10, 11]⟩] false) .ret))⟩
theorem told145 : trFn seat 145 = some il145 := by kernel_rfl

def il146 : IFn := ⟨34, [(.t 2)], (.seq (.region [⟨(some 1), (.box (.t 0)), none, []⟩, ⟨(some 2), (.mv (.c (.int .i64 0))), none, []⟩] false) (.seq (.region [⟨(some 3), (.mv (.f 158)), none, []⟩] false) (.seq (.block 0 (.seq (.region [⟨(some 5), (.faddr 0 (.t 1)), none, []⟩, ⟨(some 6), (.load false 1 (.t 5)), none, [0]⟩, ⟨(some 7), (.len (.t 6)), none, [1]⟩, ⟨(some 8), (.bin false .eql (.t 7) (.c (.int .i64 0))), none, [2]⟩, ⟨(some 4), (.mv (.t 8)), none, [3]⟩] false) (.cond (.t 4) (.seq (.region [⟨(some 2), (.mv (.c (.int .i64 5))), none, []⟩] false) .ret) (.seq (.region [⟨(some 10), (.faddr 0 (.t 1)), none, []⟩, ⟨(some 11), (.load false 1 (.t 10)), none, [0]⟩, ⟨(some 12), (.faddr 1 (.t 1)), none, []⟩, ⟨(some 13), (.load false 1 (.t 12)), none, [2]⟩, ⟨(some 14), (.faddr 3 (.t 1)), none, []⟩, ⟨(some 15), (.load false 1 (.t 14)), none, [4]⟩, ⟨(some 16), (.bslice 1 3 (.list true []) [(0, (.t 11)), (1, (.t 13)), (2, (.t 15))]), none, [1, 3, 5]⟩, ⟨(some 17), (.mv (.t 3)), none, []⟩, ⟨(some 18), (.call (.f 159) [(.t 16), (.t 17)]), none, [6, 7]⟩, ⟨(some 9), (.mv (.t 18)), none, [8, 8]⟩] false) (.cond (.t 9) (.seq (.region [⟨(some 2), (.mv (.c (.int .i64 4))), none, []⟩] false) .ret) (.seq (.region [⟨(some 20), (.faddr 2 (.t 1)), none, []⟩, ⟨(some 21), (.load false 1 (.t 20)), none, [0]⟩, ⟨(some 22), (.call (.f 160) [(.t 21)]), none, [1]⟩, ⟨(some 23), (.un .not (.t 22)), none, [2]⟩, ⟨(some 19), (.mv (.t 23)), none, [3, 2]⟩] false) (.cond (.t 19) (.seq (.region [⟨(some 2), (.mv (.c (.int .i64 7))), none, []⟩] false) .ret) (.seq (.region [⟨(some 25), (.faddr 2 (.t 1)), none, []⟩, ⟨(some 26), (.load false 1 (.t 25)), none, [0]⟩, ⟨(some 27), (.bin false .neq (.t 26) (.c (.int .i64 3))), none, [1]⟩, ⟨(some 28), (.mv (.t 27)), none, [2]⟩, ⟨(some 29), (.faddr 3 (.t 1)), (some (28, true)), [3]⟩, ⟨(some 30), (.load false 1 (.t 29)), (some (28, true)), [4, 3]⟩, ⟨(some 31), (.len (.t 30)), (some (28, true)), [5, 3]⟩, ⟨(some 32), (.bin false .gtr (.t 31) (.c (.int .i64 0))), (some (28, true)), [6, 3]⟩, ⟨(some 33), (.pick (.t 28) (.t 32) (.c (.bool false))), none, [3, 7]⟩, ⟨(some 24), (.mv (.t 33)), none, [8, 3]⟩] false) (.cond (.t 24) (.seq (.region [⟨(some 2), (.mv (.c (.int .i64 2))), none, []⟩] false) .ret) .skip))))))))) (.seq (.region [⟨(some 2), (.mv (.c (.int .i64 0))), none, []⟩] false) .ret))))⟩
theorem told146 : trFn seat 146 = some il146 := by kernel_rfl

def il147 : IFn := ⟨39, [(.t 2)], (.seq (.region [⟨(some 1), (.box (.t 0)), none, []⟩, ⟨(some 2), (.mv (.c (.int .i64 0))), none, []⟩] false) (.seq (.region [⟨(some 3), (.mv (.f 161)), none, []⟩] false) (.seq (.block 0 (.seq (.region [⟨(some 5), (.faddr 0 (.t 1)), none, []⟩, ⟨(some 6), (.load false 1 (.t 5)), none, [0]⟩, ⟨(some 7), (.len (.t 6)), none, [1]⟩, ⟨(some 8), (.bin false .eql (.t 7) (.c (.int .i64 0))), none, [2]⟩, ⟨(some 4), (.mv (.t 8)), none, [3]⟩] false) (.cond (.t 4) (.seq (.region [⟨(some 2), (.mv (.c (.int .i64 5))), none, []⟩] false) .ret) (.seq (.region [⟨(some 10), (.faddr 0 (.t 1)), none, []⟩, ⟨(some 11), (.load false 1 (.t 10)), none, [0]⟩, ⟨(some 12), (.len (.t 11)), none, [1]⟩, ⟨(some 13), (.bin false .gtr (.t 12) (.c (.int .i64 200))), none, [2]⟩, ⟨(some 14), (.mv (.t 13)), none, [3]⟩, ⟨(some 15), (.faddr 1 (.t 1)), (some (14, false)), [4]⟩, ⟨(some 16), (.load false 1 (.t 15)), (some (14, false)), [5, 4]⟩, ⟨(some 17), (.len (.t 16)), (some (14, false)), [6, 4]⟩, ⟨(some 18), (.bin false .gtr (.t 17) (.c (.int .i64 200))), (some (14, false)), [7, 4]⟩, ⟨(some 19), (.pick (.t 14) (.c (.bool true)) (.t 18)), none, [4, 8]⟩, ⟨(some 20), (.mv (.t 19)), none, [9, 4]⟩, ⟨(some 21), (.faddr 2 (.t 1)), (some (20, false)), [10]⟩, ⟨(some 22), (.load false 1 (.t 21)), (some (20, false)), [11, 10]⟩, ⟨(some 23), (.len (.t 22)), (some (20, false)), [12, 10]⟩, ⟨(some 24), (.bin false .gtr (.t 23) (.c (.int .i64 64))), (some (20, false)), [13, 10]⟩, ⟨(some 25), (.pick (.t 20) (.c (.bool true)) (.t 24)), none, [10, 14]⟩, ⟨(some 9), (.mv (.t 25)), none, [15, 10]⟩] false) (.cond (.t 9) (.seq (.region [⟨(some 2), (.mv (.c (.int .i64 4))), none, []⟩] false) .ret) (.seq (.region [⟨(some 27), (.faddr 2 (.t 1)), none, []⟩, ⟨(some 28), (.load false 1 (.t 27)), none, [0]⟩, ⟨(some 29), (.mv (.t 3)), none, []⟩, ⟨(some 30), (.call (.f 162) [(.t 28), (.t 29)]), none, [1, 2]⟩, ⟨(some 26), (.mv (.t 30)), none, [3, 3]⟩] false) (.cond (.t 26) (.seq (.region [⟨(some 2), (.mv (.c (.int .i64 3))), none, []⟩] false) .ret) (.seq (.region [⟨(some 32), (.faddr 2 (.t 1)), none, []⟩, ⟨(some 33), (.load false 1 (.t 32)), none, [0]⟩, ⟨(some 34), (.call (.f 163) [(.t 33)]), none, [1]⟩, ⟨(some 35), (.faddr 2 (.t 1)), none, []⟩, ⟨(some 36), (.load false 1 (.t 35)), none, [3]⟩, ⟨(some 37), (.call (.f 157) [(.t 34), (.t 36)]), none, [2, 4, 2]⟩, ⟨(some 38), (.un .not (.t 37)), none, [5]⟩, ⟨(some 31), (.mv (.t 38)), none, [6, 5]⟩] true) (.cond (.t 31) (.seq (.region [⟨(some 2), (.mv (.c (.int .i64 8))), none, []⟩] false) .ret) .skip))))))))) (.seq (.region [⟨(some 2), (.mv (.c (.int .i64 0))), none, []⟩] false) .ret))))⟩
theorem told147 : trFn seat 147 = some il147 := by kernel_rfl

def il148 : IFn := ⟨19, [], (.seq (.region [⟨(some 4), (.load false 1 (.t 1)), none, []⟩, ⟨(some 5), (.len (.t 4)), none, [0]⟩, ⟨(some 6), (.bin false .sub (.t 5) (.c (.int .i64 1))), none, [1]⟩, ⟨(some 3), (.mv (.t 6)), none, [2, 0, 1, 2]⟩] false) (.block 0 (.loop (.seq (.seq (.region [⟨(some 7), (.mv (.t 3)), none, []⟩, ⟨(some 8), (.bin false .geq (.t 7) (.c (.int .i64 0))), none, [0]⟩] false) (.cond (.t 8) .skip (.exit 0))) (.seq (.block 1 (.seq (.region [⟨(some 11), (.mv (.t 0)), none, []⟩, ⟨(some 12), (.mv (.t 3)), none, []⟩, ⟨(some 13), (.load false 1 (.t 1)), none, []⟩, ⟨(some 14), (.mv (.t 3)), none, []⟩, ⟨(some 15), (.iaddr 8 (.t 13) (.t 14)), none, [2, 3]⟩, ⟨(some 16), (.load true 8 (.t 15)), none, [4]⟩, ⟨(some 17), (.call (.t 11) [(.t 12), (.t 16)]), none, [0, 1, 5]⟩, ⟨(some 18), (.un .not (.t 17)), none, [6]⟩] false) (.cond (.t 18) .ret .skip))) (.region [⟨(some 9), (.mv (.t 3)), none, []⟩, ⟨(some 10), (.bin false .sub (.t 9) (.c (.int .i64 1))), none, [0]⟩, ⟨(some 3), (.mv (.t 10)), none, [1, 0, 1]⟩] false))))))⟩
theorem told148 : trFn seat 148 = some il148 := by kernel_rfl

def il149 : IFn := ⟨37, [(.t 4)], (.seq (.region [⟨(some 2), (.box (.t 0)), none, []⟩, ⟨(some 3), (.box (.t 1)), none, []⟩, ⟨(some 4), (.mv (.c (.bool false))), none, []⟩] false) (.seq (.region [⟨(some 5), (.faddr 0 (.t 2)), none, []⟩, ⟨(some 6), (.load false 1 (.t 5)), none, [0]⟩, ⟨(some 7), (.convS (.t 6)), none, [1]⟩, ⟨(some 8), (.faddr 0 (.t 3)), none, []⟩, ⟨(some 9), (.load false 1 (.t 8)), none, [3]⟩, ⟨(some 10), (.convS (.t 9)), none, [4]⟩, ⟨(some 11), (.bin false .eql (.t 7) (.t 10)), none, [2, 5]⟩, ⟨(some 12), (.mv (.t 11)), none, [6]⟩, ⟨(some 13), (.faddr 1 (.t 2)), (some (12, true)), [7]⟩, ⟨(some 14), (.load false 1 (.t 13)), (some (12, true)), [8, 7]⟩, ⟨(some 15), (.convS (.t 14)), (some (12, true)), [9, 7]⟩, ⟨(some 16), (.faddr 1 (.t 3)), (some (12, true)), [7]⟩, ⟨(some 17), (.load false 1 (.t 16)), (some (12, true)), [11, 7]⟩, ⟨(some 18), (.convS (.t 17)), (some (12, true)), [12, 7]⟩, ⟨(some 19), (.bin false .eql (.t 15) (.t 18)), (some (12, true)), [10, 13, 7]⟩, ⟨(some 20), (.pick (.t 12) (.t 19) (.c (.bool false))), none, [7, 14]⟩, ⟨(some 21), (.mv (.t 20)), none, [15, 7]⟩, ⟨(some 22), (.faddr 2 (.t 2)), (some (21, true)), [16]⟩, ⟨(some 23), (.load false 1 (.t 22)), (some (21, true)), [17, 16]⟩, ⟨(some 24), (.faddr 2 (.t 3)), (some (21, true)), [16]⟩, ⟨(some 25), (.load false 1 (.t 24)), (some (21, true)), [19, 16]⟩, ⟨(some 26), (.bin false .eql (.t 23) (.t 25)), (some (21, true)), [18, 20, 16]⟩, ⟨(some 27), (.pick (.t 21) (.t 26) (.c (.bool false))), none, [16, 21]⟩, ⟨(some 28), (.mv (.t 27)), none, [22, 16]⟩, ⟨(some 29), (.faddr 3 (.t 2)), (some (28, true)), [23]⟩, ⟨(some 30), (.load false 1 (.t 29)), (some (28, true)), [24, 23]⟩, ⟨(some 31), (.convS (.t 30)), (some (28, true)), [25, 23]⟩, ⟨(some 32), (.faddr 3 (.t 3)), (some (28, true)), [23]⟩, ⟨(some 33), (.load false 1 (.t 32)), (some (28, true)), [27, 23]⟩, ⟨(some 34), (.convS (.t 33)), (some (28, true)), [28, 23]⟩, ⟨(some 35), (.bin false .eql (.t 31) (.t 34)), (some (28, true)), [26, 29, 23]⟩, ⟨(some 36), (.pick (.t 28) (.t 35) (.c (.bool false))), none, [23, 30]⟩, ⟨(some 4), (.mv (.t 36)), none, [31, 23, 0, 1, 2, 3, 4, 5, 6, 7, 8, 9, 10, 11, 12, 13, 14, 15, 16, 17, 18, 19, 20, 21, 22, 23, 24, 25, 26, 27, 28, 29, 30, 31]⟩] false) .ret))⟩
theorem told149 : trFn seat 149 = some il149 := by kernel_rfl

def il150 : IFn := ⟨28, [(.t 4)], (.seq (.region [⟨(some 2), (.box (.t 0)), none, []⟩, ⟨(some 3), (.box (.t 1)), none, []⟩, ⟨(some 4), (.mv (.c (.bool false))), none, []⟩] false) (.seq (.region [⟨(some 5), (.faddr 0 (.t 2)), none, []⟩, ⟨(some 6), (.load false 1 (.t 5)), none, [0]⟩, ⟨(some 7), (.convS (.t 6)), none, [1]⟩, ⟨(some 8), (.faddr 0 (.t 3)), none, []⟩, ⟨(some 9), (.load false 1 (.t 8)), none, [3]⟩, ⟨(some 10), (.convS (.t 9)), none, [4]⟩, ⟨(some 11), (.bin false .eql (.t 7) (.t 10)), none, [2, 5]⟩, ⟨(some 12), (.mv (.t 11)), none, [6]⟩, ⟨(some 13), (.faddr 1 (.t 2)), (some (12, true)), [7]⟩, ⟨(some 14), (.load false 1 (.t 13)), (some (12, true)), [8, 7]⟩, ⟨(some 15), (.convS (.t 14)), (some (12, true)), [9, 7]⟩, ⟨(some 16), (.faddr 1 (.t 3)), (some (12, true)), [7]⟩, ⟨(some 17), (.load false 1 (.t 16)), (some (12, true)), [11, 7]⟩, ⟨(some 18), (.convS (.t 17)), (some (12, true)), [12, 7]⟩, ⟨(some 19), (.bin false .eql (.t 15) (.t 18)), (some (12, true)), [10, 13, 7]⟩, ⟨(some 20), (.pick (.t 12) (.t 19) (.c (.bool false))), none, [7, 14]⟩, ⟨(some 21), (.mv (.t 20)), none, [15, 7]⟩, ⟨(some 22), (.faddr 2 (.t 2)), (some (21, true)), [16]⟩, ⟨(some 23), (.load false 1 (.t 22)), (some (21, true)), [17, 16]⟩, ⟨(some 24), (.faddr 2 (.t 3)), (some (21, true)), [16]⟩, ⟨(some 25), (.load false 1 (.t 24)), (some (21, true)), [19, 16]⟩, ⟨(some 26), (.call (.f 35) [(.t 23), (.t 25)]), (some (21, true)), [18, 20, 16, 16]⟩, ⟨(some 27), (.pick (.t 21) (.t 26) (.c (.bool false))), none, [16, 21]⟩, ⟨(some 4), (.mv (.t 27)), none, [22, 21, 0, 1, 2, 3, 4, 5, 6, 7, 8, 9, 10, 11, 12, 13, 14, 15, 16, 17, 18, 19, 20, 21, 22]⟩] false) .ret))⟩
theorem told150 : trFn seat 150 = some il150 := by kernel_rfl

def il156 : IFn := ⟨10, [(.t 4)], (.seq (.region [⟨(some 4), (.mv (.c (.bool false))), none, []⟩] false) (.seq (.region [⟨(some 5), (.mv (.t 0)), none, []⟩, ⟨(some 6), (.convS (.t 5)), none, [0]⟩, ⟨(some 7), (.mv (.t 1)), none, []⟩, ⟨(some 8), (.convS (.t 7)), none, [2]⟩, ⟨(some 9), (.bin false .eql (.t 6) (.t 8)), none, [1, 3]⟩, ⟨(some 4), (.mv (.t 9)), none, [4, 0, 1, 2, 3, 4]⟩] false) .ret))⟩
theorem told156 : trFn seat 156 = some il156 := by kernel_rfl

def il157 : IFn := ⟨26, [(.t 4)], (.seq (.region [⟨(some 4), (.mv (.c (.bool false))), none, []⟩] false) (.seq (.seq (.region [⟨(some 6), (.mv (.t 0)), none, []⟩, ⟨(some 7), (.len (.t 6)), none, [0]⟩, ⟨(some 8), (.mv (.t 1)), none, []⟩, ⟨(some 9), (.len (.t 8)), none, [2]⟩, ⟨(some 10), (.bin false .neq (.t 7) (.t 9)), none, [1, 3]⟩] false) (.cond (.t 10) (.seq (.region [⟨(some 4), (.mv (.c (.bool false))), none, []⟩] false) .ret) .skip)) (.seq (.seq (.region [⟨(some 11), (.mv (.t 0)), none, []⟩, ⟨(some 12), (.len (.t 11)), none, [0]⟩, ⟨(some 13), (.mv (.c (.int .i64 0))), none, []⟩] false) (.block 0 (.loop (.seq (.region [⟨(some 14), (.bin false .lss (.t 13) (.t 12)), none, []⟩] false) (.seq (.cond (.t 14) .skip (.exit 0)) (.seq (.block 1 (.seq (.region [⟨(some 15), (.mv (.t 13)), none, []⟩, ⟨(some 5), (.mv (.t 15)), none, [0, 0]⟩] false) (.seq (.region [⟨(some 16), (.mv (.t 0)), none, []⟩, ⟨(some 17), (.mv (.t 5)), none, []⟩, ⟨(some 18), (.iaddr 1 (.t 16) (.t 17)), none, [0, 1]⟩, ⟨(some 19), (.load false 1 (.t 18)), none, [2]⟩, ⟨(some 20), (.mv (.t 1)), none, []⟩, ⟨(some 21), (.mv (.t 5)), none, []⟩, ⟨(some 22), (.iaddr 1 (.t 20) (.t 21)), none, [4, 5]⟩, ⟨(some 23), (.load false 1 (.t 22)), none, [6]⟩, ⟨(some 24), (.bin false .neq (.t 19) (.t 23)), none, [3, 7]⟩] true) (.cond (.t 24) (.seq (.region [⟨(some 4), (.mv (.c (.bool false))), none, []⟩] false) .ret) .skip)))) (.region [⟨(some 25), (.bin false .add (.t 13) (.c (.int .i64 1))), none, []⟩, ⟨(some 13), (.mv (.t 25)), none, [0]⟩] false))))))) (.seq (.region [⟨(some 4), (.mv (.c (.bool true))), none, []⟩] false) .ret))))⟩
theorem told157 : trFn seat 157 = some il157 := by kernel_rfl

def il158 : IFn := ⟨6, [(.t 2)], (.seq (.region [⟨(some 2), (.mv (.c (.bool false))), none, []⟩] false) (.seq (.region [⟨(some 3), (.mv (.t 0)), none, []⟩, ⟨(some 4), (.len (.t 3)), none, [0]⟩, ⟨(some 5), (.bin false .gtr (.t 4) (.c (.int .i64 200))), none, [1]⟩, ⟨(some 2), (.mv (.t 5)), none, [2, 0, 1, 2]⟩] false) .ret))⟩
theorem told158 : trFn seat 158 = some il158 := by kernel_rfl

def il159 : IFn := ⟨9, [(.t 4)], (.seq (.region [⟨(some 4), (.mv (.c (.bool false))), none, []⟩] false) (.seq (.region [⟨(some 5), (.mv (.t 0)), none, []⟩, ⟨(some 6), (.mv (.t 1)), none, []⟩, ⟨(some 7), (.call (.f 166) [(.t 5), (.t 6)]), none, [0, 1]⟩, ⟨(some 8), (.bin false .geq (.t 7) (.c (.int .i64 0))), none, [2]⟩, ⟨(some 4), (.mv (.t 8)), none, [3, 2, 0, 1, 2, 3]⟩] false) .ret))⟩
theorem told159 : trFn seat 159 = some il159 := by kernel_rfl

def il160 : IFn := ⟨9, [(.t 2)], (.seq (.region [⟨(some 2), (.mv (.c (.bool false))), none, []⟩] false) (.seq (.region [⟨(some 3), (.mv (.t 0)), none, []⟩, ⟨(some 4), (.bin false .geq (.t 3) (.c (.int .i64 1))), none, [0]⟩, ⟨(some 5), (.mv (.t 4)), none, [1]⟩, ⟨(some 6), (.mv (.t 0)), (some (5, true)), [2]⟩, ⟨(some 7), (.bin false .leq (.t 6) (.c (.int .i64 3))), (some (5, true)), [3, 2]⟩, ⟨(some 8), (.pick (.t 5) (.t 7) (.c (.bool false))), none, [2, 4]⟩, ⟨(some 2), (.mv (.t 8)), none, [5, 2, 0, 1, 2, 3, 4, 5]⟩] false) .ret))⟩
theorem told160 : trFn seat 160 = some il160 := by kernel_rfl

def il161 : IFn := ⟨9, [(.t 2)], (.seq (.region [⟨(some 2), (.mv (.c (.bool false))), none, []⟩] false) (.seq (.region [⟨(some 3), (.mv (.t 0)), none, []⟩, ⟨(some 4), (.bin false .lss (.t 3) (.c (.int .i64 0))), none, [0]⟩, ⟨(some 5), (.mv (.t 4)), none, [1]⟩, ⟨(some 6), (.mv (.t 0)), (some (5, false)), [2]⟩, ⟨(some 7), (.bin false .gtr (.t 6) (.c (.int .i64 63))), (some (5, false)), [3, 2]⟩, ⟨(some 8), (.pick (.t 5) (.c (.bool true)) (.t 7)), none, [2, 4]⟩, ⟨(some 2), (.mv (.t 8)), none, [5, 2, 0, 1, 2, 3, 4, 5]⟩] false) .ret))⟩
theorem told161 : trFn seat 161 = some il161 := by kernel_rfl

def il162 : IFn := ⟨9, [(.t 4)], (.seq (.region [⟨(some 4), (.mv (.c (.bool false))), none, []⟩] false) (.seq (.region [⟨(some 5), (.mv (.t 0)), none, []⟩, ⟨(some 6), (.mv (.t 1)), none, []⟩, ⟨(some 7), (.call (.f 167) [(.t 5), (.t 6)]), none, [0, 1]⟩, ⟨(some 8), (.bin false .geq (.t 7) (.c (.int .i64 0))), none, [2]⟩, ⟨(some 4), (.mv (.t 8)), none, [3, 2, 0, 1, 2, 3]⟩] false) .ret))⟩
theorem told162 : trFn seat 162 = some il162 := by kernel_rfl

def il163 : IFn := ⟨7, [(.t 2)], (.seq (.region [⟨(some 2), (.mv (.c (.list true []))), none, []⟩] false) (.seq (.region [⟨(some 3), (.mv (.t 0)), none, []⟩, ⟨(some 4), (.call (.f 26) [(.t 3)]), none, [0]⟩, ⟨(some 5), (.call (.f 25) [(.t 4)]), none, [1, 1]⟩, ⟨(some 6), (.call (.f 24) [(.t 5)]), none, [2, 2]⟩, ⟨(some 2), (.mv (.t 6)), none, [3, 3, 0, 1, 2, 3]⟩] false) .ret))⟩
theorem told163 : trFn seat 163 = some il163 := by kernel_rfl

def il166 : IFn := ⟨19, [(.t 4)], (.seq (.region [⟨(some 4), (.mv (.c (.int .i64 0))), none, []⟩] false) (.seq (.seq (.region [⟨(some 6), (.mv (.t 0)), none, []⟩, ⟨(some 7), (.len (.t 6)), none, [0]⟩, ⟨(some 8), (.mv (.c (.int .i64 0))), none, []⟩] false) (.block 0 (.loop (.seq (.region [⟨(some 9), (.bin false .lss (.t 8) (.t 7)), none, []⟩] false) (.seq (.cond (.t 9) .skip (.exit 0)) (.seq (.block 1 (.seq (.region [⟨(some 10), (.mv (.t 8)), none, []⟩, ⟨(some 5), (.mv (.t 10)), none, [0, 0]⟩] false) (.seq (.region [⟨(some 11), (.mv (.t 1)), none, []⟩, ⟨(some 12), (.mv (.t 0)), none, []⟩, ⟨(some 13), (.mv (.t 5)), none, []⟩, ⟨(some 14), (.iaddr 1 (.t 12) (.t 13)), none, [1, 2]⟩, ⟨(some 15), (.load false 1 (.t 14)), none, [3]⟩, ⟨(some 16), (.call (.t 11) [(.t 15)]), none, [0, 4]⟩] false) (.cond (.t 16) (.seq (.region [⟨(some 17), (.mv (.t 5)), none, []⟩, ⟨(some 4), (.mv (.t 17)), none, [0, 0]⟩] false) .ret) .skip)))) (.region [⟨(some 18), (.bin false .add (.t 8) (.c (.int .i64 1))), none, []⟩, ⟨(some 8), (.mv (.t 18)), none, [0]⟩] false))))))) (.seq (.region [⟨(some 4), (.mv (.c (.int .i64 (-1)))), none, []⟩] false) .ret)))⟩
theorem told166 : trFn seat 166 = some il166 := by kernel_rfl

def il167 : IFn := ⟨19, [(.t 4)], (.seq (.region [⟨(some 4), (.mv (.c (.int .i64 0))), none, []⟩] false) (.seq (.seq (.region [⟨(some 6), (.mv (.t 0)), none, []⟩, ⟨(some 7), (.len (.t 6)), none, [0]⟩, ⟨(some 8), (.mv (.c (.int .i64 0))), none, []⟩] false) (.block 0 (.loop (.seq (.region [⟨(some 9), (.bin false .lss (.t 8) (.t 7)), none, []⟩] false) (.seq (.cond (.t 9) .skip (.exit 0)) (.seq (.block 1 (.seq (.region [⟨(some 10), (.mv (.t 8)), none, []⟩, ⟨(some 5), (.mv (.t 10)), none, [0, 0]⟩] false) (.seq (.region [⟨(some 11), (.mv (.t 1)), none, []⟩, ⟨(some 12), (.mv (.t 0)), none, []⟩, ⟨(some 13), (.mv (.t 5)), none, []⟩, ⟨(some 14), (.iaddr 1 (.t 12) (.t 13)), none, [1, 2]⟩, ⟨(some 15), (.load false 1 (.t 14)), none, [3]⟩, ⟨(some 16), (.call (.t 11) [(.t 15)]), none, [0, 4]⟩] false) (.cond (.t 16) (.seq (.region [⟨(some 17), (.mv (.t 5)), none, []⟩, ⟨(some 4), (.mv (.t 17)), none, [0, 0]⟩] false) .ret) .skip)))) (.region [⟨(some 18), (.bin false .add (.t 8) (.c (.int .i64 1))), none, []⟩, ⟨(some 8), (.mv (.t 18)), none, [0]⟩] false))))))) (.seq (.region [⟨(some 4), (.mv (.c (.int .i64 (-1)))), none, []⟩] false) .ret)))⟩
theorem told167 : trFn seat 167 = some il167 := by kernel_rfl

def il201 : IFn := ⟨8, [(.t 2)], (.seq (.region [⟨(some 2), (.mv (.c (.list true []))), none, []⟩] false) (.seq (.seq (.region [⟨(some 3), (.mv (.t 0)), none, []⟩, ⟨(some 4), (.isnil .slice false (.t 3)), none, [0]⟩] false) (.cond (.t 4) (.seq (.region [⟨(some 2), (.mv (.c (.list true []))), none, []⟩] false) .ret) .skip)) (.seq (.region [⟨(some 5), (.bslice 1 0 (.int .i64 0) []), none, []⟩, ⟨(some 6), (.mv (.t 0)), none, []⟩, ⟨(some 7), (.append 1 8 (.t 5) (.t 6)), none, [0, 1]⟩, ⟨(some 2), (.mv (.t 7)), none, [2, 2, 0, 1, 2]⟩] false) .ret)))⟩
theorem told201 : trFn seat 201 = some il201 := by kernel_rfl

def il255 : IFn := ⟨15, [(.cell 6 false 1)], (.seq (.region [⟨(some 4), (.box (.t 1)), none, []⟩, ⟨(some 6), (.alloc [(.bool false)]), none, []⟩] false) (.seq (.seq (.region [⟨(some 8), (.mv (.t 0)), none, []⟩, ⟨(some 9), (.mv (.t 2)), none, []⟩, ⟨(some 10), (.call (.f 266) [(.t 8), (.t 9)]), none, [0, 1]⟩] false) (.block 0 (.rangeFunc (.t 10) [11] (.region [⟨(some 7), (.mv (.t 11)), none, []⟩] false) (.block 1 (.seq (.region [⟨(some 12), (.mv (.t 7)), none, []⟩, ⟨(some 13), (.load false 1 (.t 4)), none, []⟩, ⟨(some 14), (.bin false .eql (.t 12) (.t 13)), none, [0, 1]⟩] false) (.cond (.t 14) (.seq (.region [⟨none, (.store 1 (.t 6) (.c (.bool true))), none, []⟩] false) .ret) .skip)))))) (.seq (.region [⟨none, (.store 1 (.t 6) (.c (.bool false))), none, []⟩] false) .ret)))⟩
theorem told255 : trFn seat 255 = some il255 := by kernel_rfl

def il257 : IFn := ⟨16, [(.t 4)], (.seq (.region [⟨(some 4), (.mv (.c (.bool false))), none, []⟩] false) (.seq (.region [⟨(some 5), (.mv (.t 1)), none, []⟩, ⟨(some 6), (.call (.f 125) [(.t 5)]), none, [0]⟩, ⟨(some 7), (.mv (.t 6)), none, [1, 1]⟩, ⟨(some 8), (.mv (.t 0)), (some (7, true)), [2]⟩, ⟨(some 9), (.bin false .geq (.t 8) (.c (.int .i64 0))), (some (7, true)), [3, 2]⟩, ⟨(some 10), (.pick (.t 7) (.t 9) (.c (.bool false))), none, [2, 4]⟩, ⟨(some 11), (.mv (.t 10)), none, [5, 2]⟩, ⟨(some 12), (.mv (.t 0)), (some (11, true)), [6]⟩, ⟨(some 13), (.mv (.t 1)), (some (11, true)), [6]⟩, ⟨(some 14), (.bin false .lss (.t 12) (.t 13)), (some (11, true)), [7, 8, 6]⟩, ⟨(some 15), (.pick (.t 11) (.t 14) (.c (.bool false))), none, [6, 9]⟩, ⟨(some 4), (.mv (.t 15)), none, [10, 6, 0, 1, 2, 3, 4, 5, 6, 7, 8, 9, 10]⟩] false) .ret))⟩
theorem told257 : trFn seat 257 = some il257 := by kernel_rfl

def il263 : IFn := ⟨15, [(.t 4)], (.seq (.region [⟨(some 4), (.mv (.c (.list true []))), none, []⟩] false) (.seq (.region [⟨(some 6), (.mv (.t 0)), none, []⟩, ⟨(some 7), (.mv (.t 1)), none, []⟩, ⟨(some 8), (.call (.f 266) [(.t 6), (.t 7)]), none, [0, 1]⟩, ⟨(some 9), (.call (.f 40) [(.t 8)]), none, [2, 2]⟩, ⟨(some 5), (.mv (.t 9)), none, [3, 3, 0, 1, 2, 3]⟩] false) (.seq (.region [⟨(some 10), (.mv (.t 5)), none, []⟩, ⟨(some 11), (.mv (.t 5)), none, []⟩, ⟨(some 12), (.len (.t 11)), none, [1]⟩, ⟨(some 13), (.min [(.c (.int .i64 1)), (.t 12)]), none, [2]⟩, ⟨(some 14), (.slice 1 (.t 10) (some (.t 13)) none none), none, [0, 3]⟩, ⟨(some 4), (.mv (.t 14)), none, [4, 0, 1, 2, 3, 4]⟩] false) .ret)))⟩
theorem told263 : trFn seat 263 = some il263 := by kernel_rfl

def il266 : IFn := ⟨6, [(.t 4)], (.seq (.region [⟨(some 2), (.box (.t 0)), none, []⟩, ⟨(some 3), (.box (.t 1)), none, []⟩, ⟨(some 4), (.mv (.c .nilfunc)), none, []⟩] false) (.seq (.region [⟨(some 5), (.mkfunc 277 [] [(.t 2), (.t 3)]), none, []⟩, ⟨(some 4), (.mv (.t 5)), none, [0, 0]⟩] false) .ret))⟩
theorem told266 : trFn seat 266 = some il266 := by kernel_rfl

def il270 : IFn := ⟨15, [(.t 6)], (.seq (.region [⟨(some 6), (.mv (.c (.int .i64 0))), none, []⟩] false) (.seq (.seq (.region [⟨(some 7), (.mv (.t 1)), none, []⟩, ⟨(some 8), (.mv (.t 2)), none, []⟩, ⟨(some 9), (.call (.f 257) [(.t 7), (.t 8)]), none, [0, 1]⟩, ⟨(some 10), (.un .not (.t 9)), none, [2]⟩] false) (.cond (.t 10) (.seq (.region [⟨(some 6), (.mv (.c (.int .i64 (-1)))), none, []⟩] false) .ret) .skip)) (.seq (.region [⟨(some 11), (.mv (.t 0)), none, []⟩, ⟨(some 12), (.mv (.t 2)), none, []⟩, ⟨(some 13), (.mv (.t 1)), none, []⟩, ⟨(some 14), (.call (.t 11) [(.t 12), (.t 13)]), none, [0, 1, 2]⟩, ⟨(some 6), (.mv (.t 14)), none, [3, 3, 0, 1, 2, 3]⟩] false) .ret)))⟩
theorem told270 : trFn seat 270 = some il270 := by kernel_rfl

def il273 : IFn := ⟨8, [(.t 4)], (.seq (.region [⟨(some 4), (.mv (.c (.int .i64 0))), none, []⟩] false) (.seq (.region [⟨(some 5), (.mv (.t 0)), none, []⟩, ⟨(some 6), (.mv (.t 1)), none, []⟩, ⟨(some 7), (.call (.f 270) [(.f 280), (.t 5), (.t 6)]), none, [0, 1]⟩, ⟨(some 4), (.mv (.t 7)), none, [2, 2, 0, 1, 2]⟩] false) .ret))⟩
theorem told273 : trFn seat 273 = some il273 := by kernel_rfl

def il277 : IFn := ⟨18, [], (.seq (.seq (.region [⟨(some 4), (.load false 1 (.t 1)), none, []⟩, ⟨(some 5), (.load false 1 (.t 2)), none, []⟩, ⟨(some 6), (.call (.f 257) [(.t 4), (.t 5)]), none, [0, 1]⟩, ⟨(some 7), (.un .not (.t 6)), none, [2]⟩] false) (.cond (.t 7) .ret .skip)) (.block 0 (.loop (.seq (.seq (.region [⟨(some 8), (.load false 1 (.t 1)), none, []⟩, ⟨(some 9), (.bin false .geq (.t 8) (.c (.int .i64 0))), none, [0]⟩, ⟨(some 10), (.mv (.t 9)), none, [1]⟩, ⟨(some 11), (.mv (.t 0)), (some (10, true)), [2]⟩, ⟨(some 12), (.load false 1 (.t 1)), (some (10, true)), [2]⟩, ⟨(some 13), (.call (.t 11) [(.t 12)]), (some (10, true)), [3, 4, 2, 2]⟩, ⟨(some 14), (.pick (.t 10) (.t 13) (.c (.bool false))), none, [2, 5]⟩] false) (.cond (.t 14) .skip (.exit 0))) (.block 1 (.region [⟨(some 15), (.load false 1 (.t 1)), none, []⟩, ⟨(some 16), (.load false 1 (.t 2)), none, []⟩, ⟨(some 17), (.call (.f 273) [(.t 15), (.t 16)]), none, [0, 1]⟩, ⟨none, (.store 1 (.t 1) (.t 17)), none, [2, 2, 0, 1, 2]⟩] false))))))⟩
theorem told277 : trFn seat 277 = some il277 := by kernel_rfl

def il279 : IFn := ⟨13, [(.t 2)], (.seq (.region [⟨(some 2), (.mv (.c (.int .i64 0))), none, []⟩] false) (.seq (.seq (.region [⟨(some 3), (.mv (.t 0)), none, []⟩, ⟨(some 4), (.bin false .lss (.t 3) (.c (.int .i64 0))), none, [0]⟩, ⟨(some 5), (.mv (.t 4)), none, [1]⟩, ⟨(some 6), (.mv (.t 0)), (some (5, false)), [2]⟩, ⟨(some 7), (.bin false .geq (.t 6) (.c (.int .i64 127))), (some (5, false)), [3, 2]⟩, ⟨(some 8), (.pick (.t 5) (.c (.bool true)) (.t 7)), none, [2, 4]⟩] false) (.cond (.t 8) (.seq (.region [⟨(some 2), (.mv (.c (.int .i64 (-1)))), none, []⟩] false) .ret) .skip)) (.seq (.region [⟨(some 9), (.mv (.t 0)), none, []⟩, ⟨(some 10), (.convI .u64 (.t 9)), none, [0]⟩, ⟨(some 11), (.un .xor (.t 10)), none, [1]⟩, ⟨(some 12), (.call (.f 281) [(.t 11)]), none, [2]⟩, ⟨(some 2), (.mv (.t 12)), none, [3, 3, 0, 1, 2, 3]⟩] false) .ret)))⟩
theorem told279 : trFn seat 279 = some il279 := by kernel_rfl

def il280 : IFn := ⟨20, [(.t 4)], (.seq (.region [⟨(some 4), (.mv (.c (.int .i64 0))), none, []⟩] false) (.seq (.seq (.region [⟨(some 6), (.mv (.t 1)), none, []⟩, ⟨(some 7), (.mv (.t 0)), none, []⟩, ⟨(some 8), (.call (.f 109) [(.t 7)]), none, [1]⟩, ⟨(some 9), (.bin false .eql (.t 6) (.t 8)), none, [0, 2]⟩] false) (.cond (.t 9) (.seq (.region [⟨(some 4), (.mv (.c (.int .i64 (-1)))), none, []⟩] false) .ret) .skip)) (.seq (.region [⟨(some 10), (.mv (.t 1)), none, []⟩, ⟨(some 11), (.call (.f 279) [(.t 10)]), none, [0]⟩, ⟨(some 5), (.mv (.t 11)), none, [1, 1, 0, 1]⟩] false) (.seq (.region [⟨(some 12), (.mv (.t 1)), none, []⟩, ⟨(some 13), (.mv (.t 5)), none, []⟩, ⟨(some 14), (.bin false .shl (.c (.int .i64 1)) (.t 13)), none, [1]⟩, ⟨(some 15), (.bin false .or (.t 12) (.t 14)), none, [0, 2]⟩, ⟨(some 16), (.mv (.t 5)), none, []⟩, ⟨(some 17), (.bin false .add (.t 16) (.c (.int .i64 1))), none, [4]⟩, ⟨(some 18), (.bin false .shl (.c (.int .i64 1)) (.t 17)), none, [5]⟩, ⟨(some 19), (.bin false .andNot (.t 15) (.t 18)), none, [3, 6]⟩, ⟨(some 4), (.mv (.t 19)), none, [7, 0, 1, 2, 3, 4, 5, 6, 7]⟩] true) .ret))))⟩
theorem told280 : trFn seat 280 = some il280 := by kernel_rfl

def il281 : IFn := ⟨8, [(.t 2)], (.seq (.region [⟨(some 2), (.mv (.c (.int .i64 0))), none, []⟩] false) (.seq (.cond (.c (.bool false)) (.seq (.region [⟨(some 3), (.mv (.t 0)), none, []⟩, ⟨(some 4), (.convI .u32 (.t 3)), none, [0]⟩, ⟨(some 5), (.call (.f 282) [(.t 4)]), none, [1]⟩, ⟨(some 2), (.mv (.t 5)), none, [2, 2, 0, 1, 2]⟩] false) .ret) .skip) (.seq (.region [⟨(some 6), (.mv (.t 0)), none, []⟩, ⟨(some 7), (.call (.f 283) [(.t 6)]), none, [0]⟩, ⟨(some 2), (.mv (.t 7)), none, [1, 1, 0, 1]⟩] false) .ret)))⟩
theorem told281 : trFn seat 281 = some il281 := by kernel_rfl

end Go.Proofs.YtihhinbjhiankaaGreatDoor.Al

namespace Go.Proofs.YtihhinbjhiankaaGreatDoor.Al
open Go Go.Shelf
def lays189f : List (Nat × Nat) := [(189, 197), (125, 218), (257, 217), (128, 237), (129, 238), (294, 229), (295, 230), (296, 231), (297, 232), (298, 233), (299, 234), (216, 145), (300, 235), (301, 236), (328, 246), (329, 247), (330, 248), (331, 249), (332, 250), (215, 195), (343, 253)]
def lays189t : List (Nat × Nat) := [(28, 35), (3, 3), (46, 147), (0, 0), (51, 172), (53, 199), (4, 4), (183, 193), (182, 192), (131, 101), (5, 5), (9, 9), (218, 206), (222, 210), (228, 216), (229, 217)]
def lays189g : List (Nat × Nat) := []
def lays189Ren : Ren := ⟨fun x => ((lays189f.lookup x).getD x), fun x => ((lays189t.lookup x).getD x), fun x => ((lays189g.lookup x).getD x)⟩
theorem lays189At : Lays.n189 seat.P lays189Ren where
  mixed := by kernel_rfl
  f125 := by kernel_rfl
  f128 := by kernel_rfl
  f129 := by kernel_rfl
  f189 := by kernel_rfl
  f215 := by kernel_rfl
  f216 := by kernel_rfl
  f257 := by kernel_rfl
  f294 := by kernel_rfl
  f295 := by kernel_rfl
  f296 := by kernel_rfl
  f297 := by kernel_rfl
  f298 := by kernel_rfl
  f299 := by kernel_rfl
  f300 := by kernel_rfl
  f301 := by kernel_rfl
  f328 := by kernel_rfl
  f329 := by kernel_rfl
  f330 := by kernel_rfl
  f331 := by kernel_rfl
  f332 := by kernel_rfl
  f343 := by kernel_rfl
  t0 := by kernel_rfl
  a0 := fun w => by kernel_rfl
  z0 := fun w => by kernel_rfl
  v0 := fun w => by kernel_rfl
  t3 := by kernel_rfl
  a3 := fun w => by kernel_rfl
  z3 := fun w => by kernel_rfl
  v3 := fun w => by kernel_rfl
  t4 := by kernel_rfl
  a4 := fun w => by kernel_rfl
  z4 := fun w => by kernel_rfl
  v4 := fun w => by kernel_rfl
  t5 := by kernel_rfl
  a5 := fun w => by kernel_rfl
  z5 := fun w => by kernel_rfl
  v5 := fun w => by kernel_rfl
  t9 := by kernel_rfl
  a9 := fun w => by kernel_rfl
  z9 := fun w => by kernel_rfl
  v9 := fun w => by kernel_rfl
  t28 := by kernel_rfl
  a28 := fun w => by kernel_rfl
  z28 := fun w => by kernel_rfl
  v28 := fun w => by kernel_rfl
  t46 := by kernel_rfl
  a46 := fun w => by kernel_rfl
  z46 := fun w => by kernel_rfl
  v46 := fun w => by kernel_rfl
  t51 := by kernel_rfl
  a51 := fun w => by kernel_rfl
  z51 := fun w => by kernel_rfl
  v51 := fun w => by kernel_rfl
  t53 := by kernel_rfl
  a53 := fun w => by kernel_rfl
  z53 := fun w => by kernel_rfl
  v53 := fun w => by kernel_rfl
  t131 := by kernel_rfl
  a131 := fun w => by kernel_rfl
  z131 := fun w => by kernel_rfl
  v131 := fun w => by kernel_rfl
  t182 := by kernel_rfl
  a182 := fun w => by kernel_rfl
  z182 := fun w => by kernel_rfl
  v182 := fun w => by kernel_rfl
  t183 := by kernel_rfl
  a183 := fun w => by kernel_rfl
  z183 := fun w => by kernel_rfl
  v183 := fun w => by kernel_rfl
  t218 := by kernel_rfl
  a218 := fun w => by kernel_rfl
  z218 := fun w => by kernel_rfl
  v218 := fun w => by kernel_rfl
  t222 := by kernel_rfl
  a222 := fun w => by kernel_rfl
  z222 := fun w => by kernel_rfl
  v222 := fun w => by kernel_rfl
  t228 := by kernel_rfl
  a228 := fun w => by kernel_rfl
  z228 := fun w => by kernel_rfl
  v228 := fun w => by kernel_rfl
  t229 := by kernel_rfl
  a229 := fun w => by kernel_rfl
  z229 := fun w => by kernel_rfl
  v229 := fun w => by kernel_rfl
def lays220f : List (Nat × Nat) := [(20, 153)]
def lays220t : List (Nat × Nat) := [(22, 35), (3, 3), (4, 4), (0, 0)]
def lays220g : List (Nat × Nat) := []
def lays220Ren : Ren := ⟨fun x => ((lays220f.lookup x).getD x), fun x => ((lays220t.lookup x).getD x), fun x => ((lays220g.lookup x).getD x)⟩
theorem lays220At : Lays2.n20 seat.P lays220Ren where
  mixed := by kernel_rfl
  f20 := by kernel_rfl
  t0 := by kernel_rfl
  a0 := fun w => by kernel_rfl
  z0 := fun w => by kernel_rfl
  v0 := fun w => by kernel_rfl
  t3 := by kernel_rfl
  a3 := fun w => by kernel_rfl
  z3 := fun w => by kernel_rfl
  v3 := fun w => by kernel_rfl
  t4 := by kernel_rfl
  a4 := fun w => by kernel_rfl
  z4 := fun w => by kernel_rfl
  v4 := fun w => by kernel_rfl
  t22 := by kernel_rfl
  a22 := fun w => by kernel_rfl
  z22 := fun w => by kernel_rfl
  v22 := fun w => by kernel_rfl
  i3 := by kernel_rfl
def lays727f : List (Nat × Nat) := [(27, 221), (28, 240), (29, 241)]
def lays727t : List (Nat × Nat) := [(25, 147), (3, 3), (27, 172), (22, 199), (4, 4), (53, 212), (0, 0), (5, 5), (54, 205)]
def lays727g : List (Nat × Nat) := [(0, 0), (1, 1)]
def lays727Ren : Ren := ⟨fun x => ((lays727f.lookup x).getD x), fun x => ((lays727t.lookup x).getD x), fun x => ((lays727g.lookup x).getD x)⟩
theorem lays727At : Lays7.n27 seat.P lays727Ren where
  mixed := by kernel_rfl
  f27 := by kernel_rfl
  f28 := by kernel_rfl
  f29 := by kernel_rfl
  t0 := by kernel_rfl
  a0 := fun w => by kernel_rfl
  z0 := fun w => by kernel_rfl
  v0 := fun w => by kernel_rfl
  i0 := by kernel_rfl
  t3 := by kernel_rfl
  a3 := fun w => by kernel_rfl
  z3 := fun w => by kernel_rfl
  v3 := fun w => by kernel_rfl
  i3 := by kernel_rfl
  t4 := by kernel_rfl
  a4 := fun w => by kernel_rfl
  z4 := fun w => by kernel_rfl
  v4 := fun w => by kernel_rfl
  i4 := by kernel_rfl
  t5 := by kernel_rfl
  a5 := fun w => by kernel_rfl
  z5 := fun w => by kernel_rfl
  v5 := fun w => by kernel_rfl
  i5 := by kernel_rfl
  t22 := by kernel_rfl
  a22 := fun w => by kernel_rfl
  z22 := fun w => by kernel_rfl
  v22 := fun w => by kernel_rfl
  i22 := by kernel_rfl
  t25 := by kernel_rfl
  a25 := fun w => by kernel_rfl
  z25 := fun w => by kernel_rfl
  v25 := fun w => by kernel_rfl
  i25 := by kernel_rfl
  t27 := by kernel_rfl
  a27 := fun w => by kernel_rfl
  z27 := fun w => by kernel_rfl
  v27 := fun w => by kernel_rfl
  i27 := by kernel_rfl
  t53 := by kernel_rfl
  a53 := fun w => by kernel_rfl
  z53 := fun w => by kernel_rfl
  v53 := fun w => by kernel_rfl
  i53 := by kernel_rfl
  t54 := by kernel_rfl
  a54 := fun w => by kernel_rfl
  z54 := fun w => by kernel_rfl
  g0 := by kernel_rfl
  g1 := by kernel_rfl
end Go.Proofs.YtihhinbjhiankaaGreatDoor.Al

set_option linter.unusedSimpArgs false
set_option linter.unusedVariables false
namespace Go.Proofs.YtihhinbjhiankaaGreatDoor.Al
open Go

theorem mixed : seat.P.follows .mixedOrders = true := by kernel_rfl

theorem args1 {S : Seat} {m : List ME} {I : Nat → Prop} {w : World} {x : AV} {vs : Array Value} (h : Rels S m I w [x] vs) : ∃ v, vs = #[v] ∧ Rel S m I w x v := by
  obtain ⟨h1, h2⟩ := h
  have : vs.size = 1 := h1
  have h3 := h2 0 x rfl
  refine ⟨vs[0], ?_, ?_⟩
  · apply Array.ext
    · simpa using this
    · intro i hi _
      have : i = 0 := by omega
      subst this; rfl
  · rwa [Array.getD_eq_getD_getElem?, Array.getElem?_eq_getElem (by omega)] at h3

theorem rel_tup0 {S : Seat} {m : List ME} {I : Nat → Prop} {w : World} : Rel S m I w (.tup []) (.tuple #[]) := .tup [] #[] rfl (fun i x h => by simp at h)

/-- slices.Sort. -/
theorem sort_spec (l : List Int) {H : List Entry} {id ver : Nat} (hH : H[id]? = some (.arr 1 ver (l.map (AV.int .i64)))) (hl : l.length < 4611686018427387904) :
    ACall seat 41 [.own id ver 0 l.length] H fun r H' => r = .tup [] ∧ H' = H.set id (.arr 1 ver ((sorted l).map (AV.int .i64))) := by
  intro m I X w vs hs hv
  obtain ⟨v, rfl, hw⟩ := args1 hv
  obtain ⟨e, h1, hsz, hver, hcase⟩ := own_ints hs hH hw
  have ef : seat.fn 41 = lays189Ren.f 189 := rfl
  rw [ef]
  rcases hcase with ⟨rfl, a, c, rfl⟩ | ⟨hn, h0, hcap, rfl, hh, hb, arr, T, ha, hasz⟩
  · refine (Any.slices_Sort_int_none lays189At a c w).mono ?_
    rintro e' w' ⟨rfl, rfl⟩
    refine ⟨_, _, _, m, I, rfl, ⟨rfl, rfl⟩, rel_tup0, ?_, .refl m, fun _ hb => hb, .refl I X w'⟩
    have : H.set id (.arr 1 ver ((sorted []).map (AV.int .i64))) = H := set_self (by rw [hH]; simp [sorted])
    rw [this]; exact hs
  · refine (Any.slices_Sort_int lays189At e.blk 0 e.cap l w hh hb hl).mono ?_
    rintro e' w' ⟨rfl, n, os, rfl⟩
    obtain ⟨q1, q2, q3⟩ := hs.putInts (n := n) (os := os) (l' := sorted l) hH h1 hn hsz hver ha hasz (sorted_length l) hcap
    exact ⟨_, _, _, m, I, rfl, ⟨rfl, rfl⟩, rel_tup0, q1, q2, fun _ hb => hb, q3⟩

theorem compact_length (l : List Int) : (Lib.compact l).length ≤ l.length := by
  simp only [Lib.compact, Lib.compactUpTo, List.length_map]
  exact Nat.le_trans (List.length_filter_le _ _) (by simp)

/-- slices.Compact. -/
theorem compact_spec (l : List Int) {H : List Entry} {id ver : Nat} (hH : H[id]? = some (.arr 1 ver (l.map (AV.int .i64)))) :
    ACall seat 24 [.own id ver 0 l.length] H fun r H' => r = .own id ver 0 (Lib.compact l).length ∧ H' = H.set id (.arr 1 ver ((Lib.compact l ++ List.replicate (l.length - (Lib.compact l).length) 0).map (AV.int .i64))) := by
  intro m I X w vs hs hv
  obtain ⟨v, rfl, hw⟩ := args1 hv
  obtain ⟨e, h1, hsz, hver, hcase⟩ := own_ints hs hH hw
  have hle := compact_length l
  have ef : seat.fn 24 = lays220Ren.f 20 := rfl
  rw [ef]
  rcases hcase with ⟨rfl, a, c, rfl⟩ | ⟨hn, h0, hcap, rfl, hh, hb, arr, T, ha, hasz⟩
  · refine (Any.slices_Compact_int_empty lays220At a c w).mono ?_
    rintro e' w' ⟨rfl, rfl⟩
    have : H.set id (.arr 1 ver ((Lib.compact ([] : List Int) ++ List.replicate (([] : List Int).length - (Lib.compact ([] : List Int)).length) 0).map (AV.int .i64))) = H := set_self (by rw [hH]; simp [Lib.compact, Lib.compactUpTo])
    refine ⟨_, _, _, m, I, rfl, ⟨rfl, rfl⟩, ?_, by rw [this]; exact hs, .refl m, fun _ hb => hb, .refl I X w'⟩
    exact hw
  · have hcle : e.cap ≤ 9223372036854775807 := by
      obtain ⟨e', h1', hrow⟩ := hs.hok id _ hH
      rw [h1] at h1'; cases h1'
      exact hrow.2.2.2.1
    refine (Any.slices_Compact_int lays220At e.blk 0 e.cap l w hh (by omega) hcap).mono ?_
    rintro e' w' ⟨rfl, n, rfl⟩
    obtain ⟨q1, q2, q3⟩ := hs.putInts (n := n) (os := #[]) (l' := Lib.compact l ++ List.replicate (l.length - (Lib.compact l).length) 0) hH h1 hn hsz hver ha hasz (by simp; omega) hcap
    rw [Sort.grow_empty] at q1 q3
    refine ⟨_, _, _, m, I, rfl, ⟨rfl, rfl⟩, ?_, q1, q2, fun _ hb => hb, q3⟩
    refine .own id ver 0 _ e _ h1 (by omega) fun _ => ⟨Nat.zero_le _, by omega, .inr ⟨hn, 0, by simp, fun _ => by simp⟩⟩

/-- .. what is left of the row behind it is forgotten. -/
theorem compact_spec' (l : List Int) {H : List Entry} {id ver : Nat} (hH : H[id]? = some (.arr 1 ver (l.map (AV.int .i64)))) :
    ACall seat 24 [.own id ver 0 l.length] H fun r H' => r = .own id ver 0 (Lib.compact l).length ∧ H' = H.set id (.arr 1 ver ((Lib.compact l).map (AV.int .i64))) := by
  refine ACall.shrink (compact_spec l hH) ?_
  rintro _ _ ⟨rfl, rfl⟩
  refine ⟨id, 1, ver, _, (Lib.compact l).length, List.getElem?_set_self (lt_of_get hH), rfl, ?_⟩
  rw [List.set_set, ← List.map_take, List.take_left']
  rfl

end Go.Proofs.YtihhinbjhiankaaGreatDoor.Al
namespace Go.Proofs.YtihhinbjhiankaaGreatDoor.Al
open Go
attribute [local go_sem] W_mv W_pick W_alloc W_box W_build W_bslice W_load W_store W_bin W_isnil W_un W_convI W_convS W_mkiface W_mkfunc W_slice W_faddr W_iaddr W_idxA W_extract W_len W_min W_max W_append W_appendZ W_clear W_invoke thenQ_normal thenQ_exit thenQ_goto thenQ_ret blockQ_normal blockQ_ret blockQ_goto blockQ_exit wpc_skip wpc_region wpc_draw wpc_seq wpc_cond wpc_block wpc_exit wpc_goto wpc_label wpc_ret wpc_loop wpc_range wpc_scope condW_true condW_false condW_dec condW_any W_nil W_call resW_some evalOp Opd.ev updo_envL updo_none setL_cons setL_nil envL_cons Option.map_some Option.bind_some evBin evInt List.map_cons List.map_nil Option.pure_def Option.bind_eq_bind W_grd' grdW_tt grdW_ff grdW_tf grdW_ft grdW_tup grdW_dt grdW_df lgrdW_tup L_mv L_load L_bin L_un L_faddr L_iaddr L_nil L_call lresW_some upd_envL evUn beq_dec bne_dec leaves_ret1 leaves_ret0 leaves_end0 rowLen_ints load_iptr0 not_dec heap_get0 heap_get1 heap_set0 heap_set1 heap_len1 heap_app bslice1_int seen_ints seen_one0 bslice0_int Nat.sub_zero Bool.not_true Bool.not_false List.length_nil List.length_cons List.nil_append List.cons_append Nat.zero_add load_iptrA canon_ptrI canon_bool canon_tup canon_agg canon_ints' canon_ints0 rowLen_ints1 rowLen_octs seen_octs canon_octs' seen_intss seen_octss rowLen_nodes seen_nodes canon_nodes' rowLen_nodes3 seen_list cells_int oneIn_int cells_bool oneIn_bool cells_str oneIn_str cells_list oneIn_list cells_func oneIn_func cells_nilfunc oneIn_nilfunc cells_iptr oneIn_iptr cells_iface oneIn_iface cells_nilIface oneIn_nilIface cells_own cells_ptr cells_anybool oneIn_anybool cells_agg oneIn_own0 oneIn_own1 seenL1 seenM1 oneIn_ptr2 seenL2 oneIn_own3 seenL3 cells_ints oneIn_ints cells_octs oneIn_octs cells_intss oneIn_intss cells_octss oneIn_octss cells_nodes oneIn_nodes ldB0 ldA0 adB0 stB0 ldB1 ldA1 adB1 stB1 ldB2 ldA2 adB2 stB2 ldB3 ldA3 adB3 stB3 ldB4 ldA4 adB4 stB4 ldB5 ldA5 adB5 stB5 List.getElem?_cons_zero List.getElem?_cons_succ beq_self_eq_true splice List.take_zero List.take_succ_cons List.drop_zero List.drop_succ_cons List.append_nil List.set_cons_zero List.set_cons_succ List.all_cons List.all_nil Bool.and_self and_self and_true true_and Nat.lt_irrefl Nat.zero_lt_one Nat.le_refl fillA evNil notA Bool.false_eq_true evMin_int evMax_int Option.map_none freezeP_all_nil freezeP_all_cons frzE_box frzE_arr frzE_dead foldA List.foldlM_cons List.foldlM_nil
attribute [local simp] envL_cons envL_nil idb_int idb_bool idb_ints idb_nil idb_own idb_ptr idb_octs idb_nodes idb_leafA idb_innerA idb_nodeA idb_agg idb_tup idb_iptr idb_fn entB_dead entB_box
/-- slices.Values. -/
theorem values_spec (l : List Int) : Fun seat 26 [ints l] (.func (.f 42) [] [.iptr [ints l] 0]) := by
  refine Fun.of0W told26 (by simp [il26]) (by simp ) (by simp ) 0 ?_
  simp only [il26, List.zipIdx_cons, List.zipIdx_nil, Nat.zero_add, List.map_cons, List.map_nil]
  refine WP.seqS [(0, ints l), (1, .ptr 0 0), (2, .nilfunc)] [.box [ints l]] (by simp only [go_sem, Nat.reduceEqDiff, reduceIte, Nat.reduceAdd, Nat.reduceLeDiff, Nat.reduceLT, Nat.reduceSub]; simp ) ?_
  refine WP.sealB 1 0 rfl rfl ?_
  refine wpc_sound ?_
  simp only [go_sem, Nat.reduceEqDiff, reduceIte, Nat.reduceAdd, Nat.reduceLeDiff, Nat.reduceLT, Nat.reduceSub]
  rfl

end Go.Proofs.YtihhinbjhiankaaGreatDoor.Al
namespace Go.Proofs.YtihhinbjhiankaaGreatDoor.Al
open Go
attribute [local go_sem] W_mv W_pick W_alloc W_box W_build W_bslice W_load W_store W_bin W_isnil W_un W_convI W_convS W_mkiface W_mkfunc W_slice W_faddr W_iaddr W_idxA W_extract W_len W_min W_max W_append W_appendZ W_clear W_invoke thenQ_normal thenQ_exit thenQ_goto thenQ_ret blockQ_normal blockQ_ret blockQ_goto blockQ_exit wpc_skip wpc_region wpc_draw wpc_seq wpc_cond wpc_block wpc_exit wpc_goto wpc_label wpc_ret wpc_loop wpc_range wpc_scope condW_true condW_false condW_dec condW_any W_nil W_call resW_some evalOp Opd.ev updo_envL updo_none setL_cons setL_nil envL_cons Option.map_some Option.bind_some evBin evInt List.map_cons List.map_nil Option.pure_def Option.bind_eq_bind W_grd' grdW_tt grdW_ff grdW_tf grdW_ft grdW_tup grdW_dt grdW_df lgrdW_tup L_mv L_load L_bin L_un L_faddr L_iaddr L_nil L_call lresW_some upd_envL evUn beq_dec bne_dec leaves_ret1 leaves_ret0 leaves_end0 rowLen_ints load_iptr0 not_dec heap_get0 heap_get1 heap_set0 heap_set1 heap_len1 heap_app bslice1_int seen_ints seen_one0 bslice0_int Nat.sub_zero Bool.not_true Bool.not_false List.length_nil List.length_cons List.nil_append List.cons_append Nat.zero_add load_iptrA canon_ptrI canon_bool canon_tup canon_agg canon_ints' canon_ints0 rowLen_ints1 rowLen_octs seen_octs canon_octs' seen_intss seen_octss rowLen_nodes seen_nodes canon_nodes' rowLen_nodes3
attribute [local simp] envL_cons envL_nil idb_int idb_bool idb_ints idb_nil idb_own idb_ptr idb_octs idb_nodes idb_leafA idb_innerA idb_nodeA idb_agg idb_tup idb_iptr idb_fn entB_dead entB_box
theorem valuesIter (l : List Int) (hl : l.length ≤ 9223372036854775807) : Gives seat 42 [.iptr [ints l] 0] (l.map (AV.int .i64)) := by
  intro id H0 J Jx h0 hround
  refine ACall.of_wp told42 (by simp [il42]) (wpc_sound ?_)
  rw [start_env]
  simp only [il42, List.zipIdx_cons, List.zipIdx_nil, Nat.zero_add, List.cons_append, List.nil_append, go_sem, Nat.reduceEqDiff, reduceIte, Nat.reduceAdd]
  refine WP.loopJ (fun k : Nat => [(0, .func (.y id) [] []), (5, ints l), (6, .int .i64 l.length), (7, .int .i64 k)]) (fun k H => k ≤ l.length ∧ J k H) (fun k => l.length - k) 0 (by simp ) ⟨Nat.zero_le _, h0⟩ ?_
  rintro k H ⟨hk, hj⟩
  refine wpc_sound ?_
  simp only [go_sem, Nat.reduceEqDiff, reduceIte, Nat.reduceAdd]
  refine ⟨fun h => ?_, fun h => ?_⟩
  · have hk' : k < l.length := by omega
    simp only [index_ints _ l k hk', wrapS (show k < 9223372036854775807 by omega), go_sem, Nat.reduceEqDiff, reduceIte, Nat.reduceAdd]
    have hr := hround k (by simpa using hk') H hj
    rw [List.getElem_map] at hr
    refine Callee.yld hr ?_
    rintro r H' (⟨rfl, hj'⟩ | ⟨rfl, hx⟩)
    · simp only [go_sem, Nat.reduceEqDiff, reduceIte, Nat.reduceAdd]
      exact ⟨k + 1, ⟨hk', hj'⟩, by omega, by simp [wrapS (show k < 9223372036854775807 by omega)]⟩
    · simp only [go_sem, Nat.reduceEqDiff, reduceIte, Nat.reduceAdd]
      exact .inr hx
  · have hke : k = l.length := by omega
    subst hke
    exact .inl (by simpa using hj)

/-- The heap of AppendSeq behind k rounds. -/
def SeqJ (e : Entry) (l : List Int) (k : Nat) (G : List Entry) : Prop :=
  G[1]? = some e ∧ ((k = 0 ∧ G[0]? = some (.box [.list true []])) ∨ ∃ rid v, 2 ≤ rid ∧ G[0]? = some (.box [.own rid v 0 k]) ∧ G[rid]? = some (.arr 1 v ((l.take k).map (AV.int .i64))))

theorem app_nil_int (H : List Entry) (k : IntKind) (x : Int) : evAppend H 1 8 (.list true []) [.int k x] = some (.own H.length 0 0 1, H ++ [.arr 1 0 [.int k x]]) := by
  simp [evAppend, szOk, AV.cells, AV.oneIn, maxRow]

theorem appendSeq_spec (l : List Int) (hl : l.length ≤ 4294967295) (c : Nat) (f : IFn) (hc : trFn seat c = some f) (cap : List AV) (hcap : ∀ x ∈ cap, Idb 0 x) (hg : Gives seat c cap (l.map (AV.int .i64))) :
    FunOwn seat 47 [.list true [], .func (.f c) [] cap] 1 (l.map (AV.int .i64)) := by
  refine FunOwn.of0W told47 (by simp [il47]) (by simpa  using hcap) (encI64.xs_idb l) (wpc_sound ?_)
  simp only [il47, List.zipIdx_cons, List.zipIdx_nil, Nat.zero_add, go_sem, Nat.reduceEqDiff, reduceIte, Nat.reduceAdd, AV.cells, List.all_cons, List.all_nil, AV.oneIn, Bool.and_self, List.length_nil, List.nil_append]
  refine WP.range (c := c) (first := []) (captured := cap) (by simp only [go_sem, Nat.reduceEqDiff, reduceIte, Nat.reduceAdd]) (Callable.of hc) (fun L hy => ?_)
  simp only [List.nil_append, List.cons_append, List.length_cons, List.length_nil, Nat.zero_add] at hy ⊢
  refine (hg 1 _ (SeqJ (L .ready) l) (fun _ => False) ⟨rfl, .inl ⟨rfl, rfl⟩⟩ ?_).mono ?_
  · rintro k hk H1 ⟨j2, j3⟩
    have hk : k < l.length := by simpa using hk
    rw [List.getElem_map]
    refine hy _ _ _ ⟨j2, rfl, fun lp => wpc_sound ?_⟩
    simp only [go_sem, Nat.reduceEqDiff, reduceIte, Nat.reduceAdd, setPs]
    refine ⟨trivial, j2, wpc_sound ?_⟩
    have hn1 : 1 < H1.length := lt_of_get j2
    have hne : ∀ j, j ≠ 1 → (H1.set 1 (L .busy))[j]? = H1[j]? := fun j hj => List.getElem?_set_ne (Ne.symm hj)
    have hbz : (H1.set 1 (L .busy))[1]? = some (L .busy) := List.getElem?_set_self hn1
    have hlen : (H1.set 1 (L .busy)).length = H1.length := by simp
    rcases j3 with ⟨rfl, j3⟩ | ⟨rid, v, j3, j4, j5⟩
    · have g1 : (H1.set 1 (L .busy))[0]? = some (.box [.list true []]) := by rw [hne _ (by omega)]; exact j3
      generalize (H1.set 1 (L .busy)) = G at hne hbz hlen g1
      simp only [load_box g1, go_sem, Nat.reduceEqDiff, reduceIte, Nat.reduceAdd]
      have hgl1 : 1 < G.length := lt_of_get hbz
      have e1 : (G ++ [Entry.arr 1 0 [AV.int .i64 l[0]]] ++ [Entry.arr 1 0 [AV.int .i64 l[0]]])[0]? = some (.box [.list true []]) := by
        rw [List.append_assoc, List.getElem?_append_left (by omega)]; exact g1
      have e2 : (G ++ [Entry.arr 1 0 [AV.int .i64 l[0]]] ++ [Entry.arr 1 0 [AV.int .i64 l[0]]])[(G ++ [Entry.arr 1 0 [AV.int .i64 l[0]]]).length]? = some (.arr 1 0 [AV.int .i64 l[0]]) := by simp
      rw [app_nil_int]
      simp only [resW_some, W_store, evalOp, Opd.ev, updo_envL, setL_cons, setL_nil, envL_cons, Nat.reduceEqDiff, reduceIte, store_box e1 rfl (own_one e2), Option.map_some, updo_none, W_nil, blockQ_normal]
      generalize hm : (G ++ [Entry.arr 1 0 [AV.int .i64 l[0]]] ++ [Entry.arr 1 0 [AV.int .i64 l[0]]]) = M at e1 e2 ⊢
      generalize hrid : (G ++ [Entry.arr 1 0 [AV.int .i64 l[0]]]).length = rid at e2 ⊢
      have hlow : ∀ j, j < G.length → M[j]? = G[j]? := fun j hj => by rw [← hm, List.append_assoc, List.getElem?_append_left hj]
      have hr2 : 2 ≤ rid := by rw [← hrid]; simp; omega
      have hML : rid < M.length := lt_of_get e2
      refine ⟨by rw [List.getElem?_set_ne (by omega), hlow _ hgl1]; exact hbz, .inl ⟨trivial, ?_, .inr ⟨rid, 0, hr2, ?_, ?_⟩⟩⟩
      · rw [List.getElem?_set_self (by simp; omega)]
      · rw [List.getElem?_set_ne (by omega), List.getElem?_set_self (by omega)]
      · rw [List.getElem?_set_ne (by omega), List.getElem?_set_ne (by omega), e2]
        simp [List.take_succ_eq_append_getElem hk]
    · have hrn : rid ≠ 1 := by omega
      have g1 : (H1.set 1 (L .busy))[0]? = some (.box [.own rid v 0 k]) := by rw [hne _ (by omega)]; exact j4
      have g2 : (H1.set 1 (L .busy))[rid]? = some (.arr 1 v ((l.take k).map (AV.int .i64))) := by rw [hne _ hrn]; exact j5
      generalize (H1.set 1 (L .busy)) = G at hne hbz hlen g1 g2
      have hgl1 : 1 < G.length := lt_of_get hbz
      have hgr : rid < G.length := lt_of_get g2
      have g3 : (G ++ [Entry.arr 1 0 [AV.int .i64 l[k]]])[rid]? = some (.arr 1 v ((l.take k).map (AV.int .i64))) := by rw [List.getElem?_append_left hgr]; exact g2
      have happ := app_own (n := k) (ys := [AV.int .i64 l[k]]) (bytes := 8) g3 (by simp; omega) (by unfold maxRow; simp; omega) (by decide) (by decide) (by simp) (by simp [szOk, AV.cells, AV.oneIn])
      have htk : ((l.take k).map (AV.int .i64)).take k ++ [AV.int .i64 l[k]] = (l.take (k + 1)).map (AV.int .i64) := by
        rw [List.take_of_length_le (by simp; omega), List.take_succ_eq_append_getElem hk, List.map_append, List.map_take]; rfl
      rw [htk] at happ
      have hsn : seen (G ++ [Entry.arr 1 0 [AV.int .i64 l[k]]]) (.own G.length 0 0 1) = some [AV.int .i64 l[k]] := by simp [seen]
      simp only [load_box g1, hsn, go_sem, Nat.reduceEqDiff, reduceIte, Nat.reduceAdd, happ]
      generalize hm : ((G ++ [Entry.arr 1 0 [AV.int .i64 l[k]]]).set rid (.arr 1 (v + 1) ((l.take (k + 1)).map (AV.int .i64)))) = M
      have hlow : ∀ j, j < G.length → j ≠ rid → M[j]? = G[j]? := fun j hj hjr => by rw [← hm, List.getElem?_set_ne (Ne.symm hjr), List.getElem?_append_left hj]
      have e2 : M[rid]? = some (.arr 1 (v + 1) ((l.take (k + 1)).map (AV.int .i64))) := by rw [← hm, List.getElem?_set_self (by simp; omega)]
      have e1 : M[0]? = some (.box [.own rid v 0 k]) := by rw [hlow _ (by omega) (by omega)]; exact g1
      have hML : rid < M.length := lt_of_get e2
      have hML1 : G.length < M.length := by rw [← hm]; simp
      simp only [resW_some, W_store, evalOp, Opd.ev, updo_envL, setL_cons, setL_nil, envL_cons, Nat.reduceEqDiff, reduceIte, store_box e1 rfl (own_one e2), Option.map_some, updo_none, W_nil, blockQ_normal]
      refine ⟨by rw [List.getElem?_set_ne (by omega), hlow _ hgl1 (by omega)]; exact hbz, .inl ⟨trivial, ?_, .inr ⟨rid, v + 1, j3, ?_, ?_⟩⟩⟩
      · rw [List.getElem?_set_self (by simp; omega)]
      · rw [List.getElem?_set_ne (by omega), List.getElem?_set_self (by omega)]
      · rw [List.getElem?_set_ne (by omega), List.getElem?_set_ne (by omega), e2]
  · rintro r H' (⟨j2, j3⟩ | hf)
    · left
      refine ⟨j2, ?_⟩
      have hne : ∀ j, j ≠ 1 → (H'.set 1 .dead)[j]? = H'[j]? := fun j hj => List.getElem?_set_ne (Ne.symm hj)
      rw [List.length_map] at j3
      rcases j3 with ⟨h0, j3⟩ | ⟨rid, v, j3, j4, j5⟩
      · have hl0 : l = [] := List.eq_nil_of_length_eq_zero h0
        subst hl0
        have g1 : (H'.set 1 .dead)[0]? = some (.box [.list true []]) := by rw [hne _ (by omega)]; exact j3
        simp only [go_sem, Nat.reduceEqDiff, reduceIte, Nat.reduceAdd, load_box g1]
        exact .inr ⟨trivial, trivial⟩
      · have g1 : (H'.set 1 .dead)[0]? = some (.box [.own rid v 0 l.length]) := by rw [hne _ (by omega)]; exact j4
        have g2 : (H'.set 1 .dead)[rid]? = some (.arr 1 v ((l.take l.length).map (AV.int .i64))) := by rw [hne _ (by omega)]; exact j5
        rw [List.take_length] at g2
        simp only [go_sem, Nat.reduceEqDiff, reduceIte, Nat.reduceAdd, load_box g1]
        exact .inl ⟨rid, v, by simp, g2⟩
    · exact hf.elim

/-- slices.Collect. -/
theorem collect_spec (l : List Int) (hl : l.length ≤ 4294967295) (c : Nat) (f : IFn) (hc : trFn seat c = some f) (cap : List AV) (hcap : ∀ x ∈ cap, Idb 0 x) (hg : Gives seat c cap (l.map (AV.int .i64))) :
    FunOwn seat 40 [.func (.f c) [] cap] 1 (l.map (AV.int .i64)) := by
  refine FunOwn.of0 told40 (by simp [il40]) (by simpa  using hcap) (encI64.xs_idb l) ?_
  simp only [il40, List.zipIdx_cons, List.zipIdx_nil, Nat.zero_add, go_sem, Nat.reduceEqDiff, reduceIte, Nat.reduceAdd]
  refine Callee.own told47 (appendSeq_spec l hl c f hc cap hcap hg) ?_
  simp only [go_sem, Nat.reduceEqDiff, reduceIte, Nat.reduceAdd]
  exact ⟨_, _, rfl, rfl⟩

/-- slices.Sorted. -/
theorem sortedSeq_spec (l : List Int) (hl : l.length ≤ 4294967295) (c : Nat) (f : IFn) (hc : trFn seat c = some f) (cap : List AV) (hcap : ∀ x ∈ cap, Idb 0 x) (hg : Gives seat c cap (l.map (AV.int .i64))) :
    FunOwn seat 25 [.func (.f c) [] cap] 1 ((sorted l).map (AV.int .i64)) := by
  refine FunOwn.of0 told25 (by simp [il25]) (by simpa  using hcap) (encI64.xs_idb _) ?_
  simp only [il25, List.zipIdx_cons, List.zipIdx_nil, Nat.zero_add, go_sem, Nat.reduceEqDiff, reduceIte, Nat.reduceAdd]
  refine Callee.own told40 (collect_spec l hl c f hc cap hcap hg) ?_
  simp only [go_sem, Nat.reduceEqDiff, reduceIte, Nat.reduceAdd, List.length_map]
  refine Callee.plain (Callable.of told41) (sort_spec l rfl (by omega)) ?_
  rintro _ _ ⟨rfl, rfl⟩
  simp only [go_sem, Nat.reduceEqDiff, reduceIte, Nat.reduceAdd]
  exact ⟨_, _, by rw [sorted_length], rfl⟩

end Go.Proofs.YtihhinbjhiankaaGreatDoor.Al
