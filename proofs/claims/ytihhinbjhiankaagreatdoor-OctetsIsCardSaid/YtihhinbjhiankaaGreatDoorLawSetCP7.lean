/-
  JOINED: IlsM, K1, K2, K2L, D11, D12, I5, K4, M9, O10, O2, M25, M26, O11, O3
-/
import Derived.Test.YtihhinbjhiankaaGreatDoorLawSetCP2
import Derived.Test.YtihhinbjhiankaaGreatDoorLawSetCP3
import Derived.Test.YtihhinbjhiankaaGreatDoorLawSetCP6
import Derived.Test.YtihhinbjhiankaaGreatDoorLawSetCP5
namespace Go.Proofs.YtihhinbjhiankaaGreatDoor.Al
open Go

def il14 : IFn := ⟨18, [.t 4], .seq (.region [⟨some 4, .mv (.c (.bool false)), none, []⟩] false) (.seq (.seq (.region [⟨some 5, .mv (.c (.int .i64 0)), none, []⟩] false) (.block 0 (.loop (.seq (.seq (.region [⟨some 6, .mv (.t 5), none, []⟩, ⟨some 7, .mv (.t 0), none, []⟩, ⟨some 8, .len (.t 7), none, [1]⟩, ⟨some 9, .bin false .lss (.t 6) (.t 8), none, [0, 2]⟩] false) (.cond (.t 9) .skip (.exit 0))) (.seq (.block 1 (.seq (.region [⟨some 12, .mv (.t 0), none, []⟩, ⟨some 13, .mv (.t 5), none, []⟩, ⟨some 14, .iaddr 1 (.t 12) (.t 13), none, [0, 1]⟩, ⟨some 15, .load false 1 (.t 14), none, [2]⟩, ⟨some 16, .mv (.t 1), none, []⟩, ⟨some 17, .bin false .eql (.t 15) (.t 16), none, [3, 4]⟩] false) (.cond (.t 17) (.seq (.region [⟨some 4, .mv (.c (.bool true)), none, []⟩] false) .ret) .skip))) (.region [⟨some 10, .mv (.t 5), none, []⟩, ⟨some 11, .bin false .add (.t 10) (.c (.int .i64 1)), none, [0]⟩, ⟨some 5, .mv (.t 11), none, [1, 0, 1]⟩] false)))))) (.seq (.region [⟨some 4, .mv (.c (.bool false)), none, []⟩] false) .ret))⟩
theorem told14 : trFn seat 14 = some il14 := by kernel_rfl

def il237 : IFn := ⟨78, [.cell 2 true 8, .t 3, .t 4], .seq (.region [⟨some 2, .alloc [.int .i64 0, .list true [], .list true [], .int .i64 0, .list true [], .list true [], .list true [], .list true []], none, []⟩, ⟨some 3, .mv (.c (.list true [])), none, []⟩, ⟨some 4, .mv (.c (.int .i64 0)), none, [1]⟩] false) (.seq (.region [⟨some 18, .build [.int .i64 0, .list true [], .list true [], .int .i64 0, .list true [], .list true [], .list true [], .list true []] [], none, []⟩, ⟨some 5, .alloc [.int .i64 0, .list true [], .list true [], .int .i64 0, .list true [], .list true [], .list true [], .list true []], none, []⟩, ⟨none, .store 8 (.t 5) (.t 18), none, [1, 0, 0, 1]⟩] false) (.seq (.region [⟨some 20, .mv (.t 0), none, []⟩, ⟨some 21, .call (.f 242) [.t 20], none, [0]⟩, ⟨some 19, .mv (.t 21), none, [1]⟩, ⟨some 22, .extract (.t 19) 0, none, [2]⟩, ⟨some 23, .extract (.t 19) 1, none, [2]⟩, ⟨some 24, .extract (.t 19) 2, none, [2]⟩, ⟨some 6, .mv (.t 22), none, [3, 1, 0, 1, 2, 3]⟩, ⟨some 7, .mv (.t 23), none, [4, 6, 0, 1, 2, 3, 4, 6]⟩, ⟨some 8, .mv (.t 24), none, [5, 7, 0, 1, 2, 3, 4, 5, 6, 7]⟩] false) (.seq (.seq (.region [⟨some 25, .mv (.t 8), none, []⟩, ⟨some 26, .bin false .neq (.t 25) (.c (.int .i64 0)), none, [0]⟩] false) (.cond (.t 26) (.seq (.region [⟨some 27, .load true 8 (.t 5), none, []⟩, ⟨some 28, .mv (.t 8), none, []⟩, ⟨none, .store 8 (.t 2) (.t 27), none, [0, 0]⟩, ⟨some 3, .mv (.c (.list true [])), none, [2, 0, 2]⟩, ⟨some 4, .mv (.t 28), none, [1, 3, 0, 1, 2, 3]⟩] false) .ret) .skip)) (.seq (.seq (.region [⟨some 29, .mv (.t 6), none, []⟩, ⟨some 30, .un .not (.t 29), none, [0]⟩] false) (.cond (.t 30) (.seq (.region [⟨some 31, .load true 8 (.t 5), none, []⟩, ⟨some 32, .mv (.t 7), none, []⟩, ⟨none, .store 8 (.t 2) (.t 31), none, [0, 0]⟩, ⟨some 3, .mv (.t 32), none, [1, 2, 0, 1, 2]⟩, ⟨some 4, .mv (.c (.int .i64 0)), none, [3, 0, 1, 2, 3]⟩] false) .ret) .skip)) (.seq (.region [⟨some 34, .mv (.t 7), none, []⟩, ⟨some 35, .call (.f 218) [.t 34, .c (.int .i64 1)], none, [0]⟩, ⟨some 33, .mv (.t 35), none, [1]⟩, ⟨some 36, .extract (.t 33) 0, none, [2]⟩, ⟨some 37, .extract (.t 33) 1, none, [2]⟩, ⟨some 38, .extract (.t 33) 2, none, [2]⟩, ⟨some 9, .mv (.t 36), none, [3, 1, 0, 1, 2, 3]⟩, ⟨some 10, .mv (.t 37), none, [4, 6, 0, 1, 2, 3, 4, 6]⟩, ⟨some 11, .mv (.t 38), none, [5, 7, 0, 1, 2, 3, 4, 5, 6, 7]⟩] false) (.seq (.seq (.region [⟨some 39, .mv (.t 11), none, []⟩, ⟨some 40, .bin false .neq (.t 39) (.c (.int .i64 0)), none, [0]⟩] false) (.cond (.t 40) (.seq (.region [⟨some 41, .load true 8 (.t 5), none, []⟩, ⟨some 42, .mv (.t 11), none, []⟩, ⟨none, .store 8 (.t 2) (.t 41), none, [0, 0]⟩, ⟨some 3, .mv (.c (.list true [])), none, [2, 0, 2]⟩, ⟨some 4, .mv (.t 42), none, [1, 3, 0, 1, 2, 3]⟩] false) .ret) .skip)) (.seq (.seq (.region [⟨some 43, .mv (.t 9), none, []⟩, ⟨some 44, .bin false .neq (.t 43) (.c (.int .i64 1)), none, [0]⟩, ⟨some 45, .mv (.t 44), none, [1]⟩, ⟨some 46, .mv (.t 9), some (45, true), [2]⟩, ⟨some 47, .bin false .neq (.t 46) (.c (.int .i64 2)), some (45, true), [3, 2]⟩, ⟨some 48, .pick (.t 45) (.t 47) (.c (.bool false)), none, [2, 4]⟩] false) (.cond (.t 48) (.seq (.region [⟨some 49, .load true 8 (.t 5), none, []⟩, ⟨none, .store 8 (.t 2) (.t 49), none, [0, 0]⟩, ⟨some 3, .mv (.c (.list true [])), none, [1, 0, 1]⟩, ⟨some 4, .mv (.c (.int .i64 7)), none, [2, 0, 1, 2]⟩] false) .ret) .skip)) (.seq (.seq (.region [⟨some 50, .mv (.t 9), none, []⟩, ⟨some 51, .bin false .eql (.t 50) (.c (.int .i64 1)), none, [0]⟩] false) (.cond (.t 51) (.seq (.region [⟨some 53, .mv (.t 10), none, []⟩, ⟨some 54, .call (.f 243) [.t 53], none, [0]⟩, ⟨some 52, .mv (.t 54), none, [1]⟩, ⟨some 55, .extract (.t 52) 0, none, [2]⟩, ⟨some 56, .extract (.t 52) 1, none, [2]⟩, ⟨some 57, .extract (.t 52) 2, none, [2]⟩, ⟨some 12, .alloc [.list true [], .list true [], .int .i64 0, .list true []], none, []⟩, ⟨none, .store 4 (.t 12) (.t 55), none, [6, 3, 1, 0, 1, 2, 3, 6]⟩, ⟨some 13, .mv (.t 56), none, [4, 7, 0, 1, 2, 3, 4, 6, 7]⟩, ⟨some 14, .mv (.t 57), none, [5, 8, 0, 1, 2, 3, 4, 5, 6, 7, 8]⟩] false) (.seq (.seq (.region [⟨some 58, .mv (.t 14), none, []⟩, ⟨some 59, .bin false .neq (.t 58) (.c (.int .i64 0)), none, [0]⟩] false) (.cond (.t 59) (.seq (.region [⟨some 60, .load true 8 (.t 5), none, []⟩, ⟨some 61, .mv (.t 14), none, []⟩, ⟨none, .store 8 (.t 2) (.t 60), none, [0, 0]⟩, ⟨some 3, .mv (.c (.list true [])), none, [2, 0, 2]⟩, ⟨some 4, .mv (.t 61), none, [1, 3, 0, 1, 2, 3]⟩] false) .ret) .skip)) (.seq (.region [⟨some 62, .load true 4 (.t 12), none, []⟩, ⟨some 63, .build [.int .i64 0, .list true [], .list true [], .int .i64 0, .list true [], .list true [], .list true [], .list true []] [(0, (1, (.c (.int .i64 1)))), (1, (4, (.t 62)))], none, [0]⟩, ⟨some 64, .mv (.t 13), none, []⟩, ⟨none, .store 8 (.t 2) (.t 63), none, [1, 0, 1]⟩, ⟨some 3, .mv (.t 64), none, [2, 3, 0, 1, 2, 3]⟩, ⟨some 4, .mv (.c (.int .i64 0)), none, [4, 0, 1, 2, 3, 4]⟩] false) .ret))) .skip)) (.seq (.region [⟨some 66, .mv (.t 10), none, []⟩, ⟨some 67, .call (.f 182) [.t 66], none, [0]⟩, ⟨some 65, .mv (.t 67), none, [1]⟩, ⟨some 68, .extract (.t 65) 0, none, [2]⟩, ⟨some 69, .extract (.t 65) 1, none, [2]⟩, ⟨some 70, .extract (.t 65) 2, none, [2]⟩, ⟨some 15, .alloc [.list true [], .list true [], .list true []], none, []⟩, ⟨none, .store 3 (.t 15) (.t 68), none, [6, 3, 1, 0, 1, 2, 3, 6]⟩, ⟨some 16, .mv (.t 69), none, [4, 7, 0, 1, 2, 3, 4, 6, 7]⟩, ⟨some 17, .mv (.t 70), none, [5, 8, 0, 1, 2, 3, 4, 5, 6, 7, 8]⟩] false) (.seq (.seq (.region [⟨some 71, .mv (.t 17), none, []⟩, ⟨some 72, .bin false .neq (.t 71) (.c (.int .i64 0)), none, [0]⟩] false) (.cond (.t 72) (.seq (.region [⟨some 73, .load true 8 (.t 5), none, []⟩, ⟨some 74, .mv (.t 17), none, []⟩, ⟨none, .store 8 (.t 2) (.t 73), none, [0, 0]⟩, ⟨some 3, .mv (.c (.list true [])), none, [2, 0, 2]⟩, ⟨some 4, .mv (.t 74), none, [1, 3, 0, 1, 2, 3]⟩] false) .ret) .skip)) (.seq (.region [⟨some 75, .load true 3 (.t 15), none, []⟩, ⟨some 76, .build [.int .i64 0, .list true [], .list true [], .int .i64 0, .list true [], .list true [], .list true [], .list true []] [(0, (1, (.c (.int .i64 2)))), (5, (3, (.t 75)))], none, [0]⟩, ⟨some 77, .mv (.t 16), none, []⟩, ⟨none, .store 8 (.t 2) (.t 76), none, [1, 0, 1]⟩, ⟨some 3, .mv (.t 77), none, [2, 3, 0, 1, 2, 3]⟩, ⟨some 4, .mv (.c (.int .i64 0)), none, [4, 0, 1, 2, 3, 4]⟩] false) .ret)))))))))))⟩
theorem told237 : trFn seat 237 = some il237 := by kernel_rfl

def il238 : IFn := ⟨36, [.t 4], .seq (.region [⟨some 3, .box (.t 1), none, []⟩, ⟨some 4, .mv (.c (.list true [])), none, []⟩] false) (.seq (.region [⟨some 7, .load true 8 (.t 3), none, []⟩, ⟨some 8, .call (.f 244) [.t 7], none, [0]⟩, ⟨some 5, .alloc [.int .i64 0, .list true [], .list true [], .int .i64 0, .list true [], .list true [], .list true [], .list true []], none, []⟩, ⟨none, .store 8 (.t 5) (.t 8), none, [2, 1, 1, 0, 1, 2]⟩] false) (.seq (.region [⟨some 9, .mv (.t 0), none, []⟩, ⟨some 10, .faddr 0 (.t 5), none, []⟩, ⟨some 11, .load false 1 (.t 10), none, [1]⟩, ⟨some 12, .bin false .neq (.t 11) (.c (.int .i64 0)), none, [2]⟩, ⟨some 13, .call (.f 245) [.t 9, .t 12], none, [0, 3]⟩, ⟨some 6, .mv (.t 13), none, [4, 4, 0, 1, 2, 3, 4]⟩] false) (.seq (.seq (.region [⟨some 14, .faddr 0 (.t 5), none, []⟩, ⟨some 15, .load false 1 (.t 14), none, [0]⟩, ⟨some 16, .bin false .neq (.t 15) (.c (.int .i64 0)), none, [1]⟩] false) (.cond (.t 16) (.region [⟨some 17, .mv (.t 6), none, []⟩, ⟨some 18, .faddr 0 (.t 5), none, []⟩, ⟨some 19, .load false 1 (.t 18), none, [1]⟩, ⟨some 20, .call (.f 221) [.t 17, .t 19, .c (.int .i64 1)], none, [0, 2]⟩, ⟨some 6, .mv (.t 20), none, [3, 3, 0, 1, 2, 3]⟩] false) .skip)) (.seq (.seq (.region [⟨some 21, .faddr 0 (.t 5), none, []⟩, ⟨some 22, .load false 1 (.t 21), none, [0]⟩, ⟨some 23, .bin false .eql (.t 22) (.c (.int .i64 1)), none, [1]⟩] false) (.cond (.t 23) (.region [⟨some 24, .mv (.t 6), none, []⟩, ⟨some 25, .faddr 1 (.t 5), none, []⟩, ⟨some 26, .load true 4 (.t 25), none, [1]⟩, ⟨some 27, .call (.f 246) [.t 24, .t 26], none, [0, 2]⟩, ⟨some 6, .mv (.t 27), none, [3, 3, 0, 1, 2, 3]⟩] false) .skip)) (.seq (.seq (.region [⟨some 28, .faddr 0 (.t 5), none, []⟩, ⟨some 29, .load false 1 (.t 28), none, [0]⟩, ⟨some 30, .bin false .eql (.t 29) (.c (.int .i64 2)), none, [1]⟩] false) (.cond (.t 30) (.region [⟨some 31, .mv (.t 6), none, []⟩, ⟨some 32, .faddr 5 (.t 5), none, []⟩, ⟨some 33, .load true 3 (.t 32), none, [1]⟩, ⟨some 34, .call (.f 184) [.t 31, .t 33], none, [0, 2]⟩, ⟨some 6, .mv (.t 34), none, [3, 3, 0, 1, 2, 3]⟩] false) .skip)) (.seq (.region [⟨some 35, .mv (.t 6), none, []⟩, ⟨some 4, .mv (.t 35), none, [0, 0]⟩] false) .ret))))))⟩
theorem told238 : trFn seat 238 = some il238 := by kernel_rfl

def il242 : IFn := ⟨18, [.t 2, .t 3, .t 4], .seq (.region [⟨some 2, .mv (.c (.bool false)), none, []⟩, ⟨some 3, .mv (.c (.list true [])), none, [0]⟩, ⟨some 4, .mv (.c (.int .i64 0)), none, [1]⟩] false) (.seq (.seq (.region [⟨some 5, .mv (.t 0), none, []⟩, ⟨some 6, .len (.t 5), none, [0]⟩, ⟨some 7, .bin false .eql (.t 6) (.c (.int .i64 0)), none, [1]⟩] false) (.cond (.t 7) (.seq (.region [⟨some 2, .mv (.c (.bool false)), none, []⟩, ⟨some 3, .mv (.c (.list true [])), none, [0, 0]⟩, ⟨some 4, .mv (.c (.int .i64 1)), none, [1, 0, 1]⟩] false) .ret) .skip)) (.seq (.seq (.region [⟨some 8, .mv (.t 0), none, []⟩, ⟨some 9, .iaddr 1 (.t 8) (.c (.int .i64 0)), none, [0]⟩, ⟨some 10, .load false 1 (.t 9), none, [1]⟩, ⟨some 11, .bin false .gtr (.t 10) (.c (.int .u8 1)), none, [2]⟩] false) (.cond (.t 11) (.seq (.region [⟨some 2, .mv (.c (.bool false)), none, []⟩, ⟨some 3, .mv (.c (.list true [])), none, [0, 0]⟩, ⟨some 4, .mv (.c (.int .i64 2)), none, [1, 0, 1]⟩] false) .ret) .skip)) (.seq (.region [⟨some 12, .mv (.t 0), none, []⟩, ⟨some 13, .iaddr 1 (.t 12) (.c (.int .i64 0)), none, [0]⟩, ⟨some 14, .load false 1 (.t 13), none, [1]⟩, ⟨some 15, .bin false .eql (.t 14) (.c (.int .u8 1)), none, [2]⟩, ⟨some 16, .mv (.t 0), none, []⟩, ⟨some 17, .slice 1 (.t 16) (some (.c (.int .i64 1))) none none, none, [4]⟩, ⟨some 2, .mv (.t 15), none, [3, 0, 1, 2, 3]⟩, ⟨some 3, .mv (.t 17), none, [5, 6, 0, 1, 2, 3, 4, 5, 6]⟩, ⟨some 4, .mv (.c (.int .i64 0)), none, [7, 0, 1, 2, 3, 4, 5, 6, 7]⟩] true) .ret)))⟩
theorem told242 : trFn seat 242 = some il242 := by kernel_rfl

def il243 : IFn := ⟨86, [.cell 2 true 4, .t 3, .t 4], .seq (.region [⟨some 2, .alloc [.list true [], .list true [], .int .i64 0, .list true []], none, []⟩, ⟨some 3, .mv (.c (.list true [])), none, []⟩, ⟨some 4, .mv (.c (.int .i64 0)), none, [1]⟩] false) (.seq (.region [⟨some 20, .build [.list true [], .list true [], .int .i64 0, .list true []] [], none, []⟩, ⟨some 5, .alloc [.list true [], .list true [], .int .i64 0, .list true []], none, []⟩, ⟨none, .store 4 (.t 5) (.t 20), none, [1, 0, 0, 1]⟩] false) (.seq (.region [⟨some 22, .mv (.t 0), none, []⟩, ⟨some 23, .call (.f 194) [.t 22], none, [0]⟩, ⟨some 21, .mv (.t 23), none, [1]⟩, ⟨some 24, .extract (.t 21) 0, none, [2]⟩, ⟨some 25, .extract (.t 21) 1, none, [2]⟩, ⟨some 26, .extract (.t 21) 2, none, [2]⟩, ⟨some 6, .mv (.t 24), none, [3, 1, 0, 1, 2, 3]⟩, ⟨some 7, .mv (.t 25), none, [4, 6, 0, 1, 2, 3, 4, 6]⟩, ⟨some 8, .mv (.t 26), none, [5, 7, 0, 1, 2, 3, 4, 5, 6, 7]⟩] false) (.seq (.seq (.region [⟨some 27, .mv (.t 8), none, []⟩, ⟨some 28, .bin false .neq (.t 27) (.c (.int .i64 0)), none, [0]⟩] false) (.cond (.t 28) (.seq (.region [⟨some 29, .load true 4 (.t 5), none, []⟩, ⟨some 30, .mv (.t 8), none, []⟩, ⟨none, .store 4 (.t 2) (.t 29), none, [0, 0]⟩, ⟨some 3, .mv (.c (.list true [])), none, [2, 0, 2]⟩, ⟨some 4, .mv (.t 30), none, [1, 3, 0, 1, 2, 3]⟩] false) .ret) .skip)) (.seq (.region [⟨some 32, .mv (.t 7), none, []⟩, ⟨some 33, .call (.f 194) [.t 32], none, [0]⟩, ⟨some 31, .mv (.t 33), none, [1]⟩, ⟨some 34, .extract (.t 31) 0, none, [2]⟩, ⟨some 35, .extract (.t 31) 1, none, [2]⟩, ⟨some 36, .extract (.t 31) 2, none, [2]⟩, ⟨some 9, .mv (.t 34), none, [3, 1, 0, 1, 2, 3]⟩, ⟨some 10, .mv (.t 35), none, [4, 6, 0, 1, 2, 3, 4, 6]⟩, ⟨some 11, .mv (.t 36), none, [5, 7, 0, 1, 2, 3, 4, 5, 6, 7]⟩] false) (.seq (.seq (.region [⟨some 37, .mv (.t 11), none, []⟩, ⟨some 38, .bin false .neq (.t 37) (.c (.int .i64 0)), none, [0]⟩] false) (.cond (.t 38) (.seq (.region [⟨some 39, .load true 4 (.t 5), none, []⟩, ⟨some 40, .mv (.t 11), none, []⟩, ⟨none, .store 4 (.t 2) (.t 39), none, [0, 0]⟩, ⟨some 3, .mv (.c (.list true [])), none, [2, 0, 2]⟩, ⟨some 4, .mv (.t 40), none, [1, 3, 0, 1, 2, 3]⟩] false) .ret) .skip)) (.seq (.region [⟨some 42, .mv (.t 10), none, []⟩, ⟨some 43, .call (.f 218) [.t 42, .c (.int .i64 1)], none, [0]⟩, ⟨some 41, .mv (.t 43), none, [1]⟩, ⟨some 44, .extract (.t 41) 0, none, [2]⟩, ⟨some 45, .extract (.t 41) 1, none, [2]⟩, ⟨some 46, .extract (.t 41) 2, none, [2]⟩, ⟨some 12, .mv (.t 44), none, [3, 1, 0, 1, 2, 3]⟩, ⟨some 13, .mv (.t 45), none, [4, 6, 0, 1, 2, 3, 4, 6]⟩, ⟨some 14, .mv (.t 46), none, [5, 7, 0, 1, 2, 3, 4, 5, 6, 7]⟩] false) (.seq (.seq (.region [⟨some 47, .mv (.t 14), none, []⟩, ⟨some 48, .bin false .neq (.t 47) (.c (.int .i64 0)), none, [0]⟩] false) (.cond (.t 48) (.seq (.region [⟨some 49, .load true 4 (.t 5), none, []⟩, ⟨some 50, .mv (.t 14), none, []⟩, ⟨none, .store 4 (.t 2) (.t 49), none, [0, 0]⟩, ⟨some 3, .mv (.c (.list true [])), none, [2, 0, 2]⟩, ⟨some 4, .mv (.t 50), none, [1, 3, 0, 1, 2, 3]⟩] false) .ret) .skip)) (.seq (.seq (.region [⟨some 51, .mv (.t 12), none, []⟩, ⟨some 52, .bin false .lss (.t 51) (.c (.int .i64 1)), none, [0]⟩, ⟨some 53, .mv (.t 52), none, [1]⟩, ⟨some 54, .mv (.t 12), some (53, false), [2]⟩, ⟨some 55, .bin false .gtr (.t 54) (.c (.int .i64 3)), some (53, false), [3, 2]⟩, ⟨some 56, .pick (.t 53) (.c (.bool true)) (.t 55), none, [2, 4]⟩] false) (.cond (.t 56) (.seq (.region [⟨some 57, .load true 4 (.t 5), none, []⟩, ⟨none, .store 4 (.t 2) (.t 57), none, [0, 0]⟩, ⟨some 3, .mv (.c (.list true [])), none, [1, 0, 1]⟩, ⟨some 4, .mv (.c (.int .i64 7)), none, [2, 0, 1, 2]⟩] false) .ret) .skip)) (.seq (.region [⟨some 58, .mv (.t 6), none, []⟩, ⟨some 59, .mv (.t 9), none, []⟩, ⟨some 60, .mv (.t 12), none, []⟩, ⟨some 61, .build [.list true [], .list true [], .int .i64 0, .list true []] [(0, (1, (.t 58))), (1, (1, (.t 59))), (2, (1, (.t 60)))], none, [0, 1, 2]⟩, ⟨some 15, .alloc [.list true [], .list true [], .int .i64 0, .list true []], none, []⟩, ⟨none, .store 4 (.t 15) (.t 61), none, [4, 3, 0, 1, 2, 3, 4]⟩] false) (.seq (.region [⟨some 62, .mv (.t 13), none, []⟩, ⟨some 16, .mv (.t 62), none, [0, 0]⟩] false) (.seq (.seq (.region [⟨some 63, .mv (.t 12), none, []⟩, ⟨some 64, .bin false .eql (.t 63) (.c (.int .i64 3)), none, [0]⟩] false) (.cond (.t 64) (.seq (.region [⟨some 66, .mv (.t 13), none, []⟩, ⟨some 67, .call (.f 194) [.t 66], none, [0]⟩, ⟨some 65, .mv (.t 67), none, [1]⟩, ⟨some 68, .extract (.t 65) 0, none, [2]⟩, ⟨some 69, .extract (.t 65) 1, none, [2]⟩, ⟨some 70, .extract (.t 65) 2, none, [2]⟩, ⟨some 17, .mv (.t 68), none, [3, 1, 0, 1, 2, 3]⟩, ⟨some 18, .mv (.t 69), none, [4, 6, 0, 1, 2, 3, 4, 6]⟩, ⟨some 19, .mv (.t 70), none, [5, 7, 0, 1, 2, 3, 4, 5, 6, 7]⟩] false) (.seq (.seq (.region [⟨some 71, .mv (.t 19), none, []⟩, ⟨some 72, .bin false .neq (.t 71) (.c (.int .i64 0)), none, [0]⟩] false) (.cond (.t 72) (.seq (.region [⟨some 73, .load true 4 (.t 5), none, []⟩, ⟨some 74, .mv (.t 19), none, []⟩, ⟨none, .store 4 (.t 2) (.t 73), none, [0, 0]⟩, ⟨some 3, .mv (.c (.list true [])), none, [2, 0, 2]⟩, ⟨some 4, .mv (.t 74), none, [1, 3, 0, 1, 2, 3]⟩] false) .ret) .skip)) (.seq (.region [⟨some 75, .mv (.t 17), none, []⟩, ⟨some 76, .faddr 3 (.t 15), none, [0]⟩, ⟨none, .store 1 (.t 76) (.t 75), none, [1, 0, 0]⟩] false) (.region [⟨some 77, .mv (.t 18), none, []⟩, ⟨some 16, .mv (.t 77), none, [0, 0]⟩] false)))) .skip)) (.seq (.seq (.region [⟨some 78, .load true 4 (.t 15), none, []⟩, ⟨some 79, .call (.f 164) [.t 78], none, [0]⟩, ⟨some 80, .bin false .neq (.t 79) (.c (.int .i64 0)), none, [1]⟩] false) (.cond (.t 80) (.seq (.region [⟨some 81, .load true 4 (.t 5), none, []⟩, ⟨some 82, .load true 4 (.t 15), none, []⟩, ⟨some 83, .call (.f 164) [.t 82], none, [1]⟩, ⟨none, .store 4 (.t 2) (.t 81), none, [0, 2, 0]⟩, ⟨some 3, .mv (.c (.list true [])), none, [3, 0, 3]⟩, ⟨some 4, .mv (.t 83), none, [2, 4, 0, 1, 2, 3, 4]⟩] true) .ret) .skip)) (.seq (.region [⟨some 84, .load true 4 (.t 15), none, []⟩, ⟨some 85, .mv (.t 16), none, []⟩, ⟨none, .store 4 (.t 2) (.t 84), none, [0, 0]⟩, ⟨some 3, .mv (.t 85), none, [1, 2, 0, 1, 2]⟩, ⟨some 4, .mv (.c (.int .i64 0)), none, [3, 0, 1, 2, 3]⟩] false) .ret)))))))))))))⟩
theorem told243 : trFn seat 243 = some il243 := by kernel_rfl

def il244 : IFn := ⟨8, [.cell 2 true 8], .seq (.region [⟨some 1, .box (.t 0), none, []⟩, ⟨some 2, .alloc [.int .i64 0, .list true [], .list true [], .int .i64 0, .list true [], .list true [], .list true [], .list true []], none, []⟩] false) (.seq (.seq (.region [⟨some 3, .load true 8 (.t 1), none, []⟩, ⟨some 4, .call (.f 153) [.t 3], none, [0]⟩, ⟨some 5, .bin false .neq (.t 4) (.c (.int .i64 0)), none, [1]⟩] false) (.cond (.t 5) (.seq (.region [⟨some 6, .build [.int .i64 0, .list true [], .list true [], .int .i64 0, .list true [], .list true [], .list true [], .list true []] [], none, []⟩, ⟨none, .store 8 (.t 2) (.t 6), none, [0, 0]⟩] false) .ret) .skip)) (.seq (.region [⟨some 7, .load true 8 (.t 1), none, []⟩, ⟨none, .store 8 (.t 2) (.t 7), none, [0, 0]⟩] false) .ret))⟩
theorem told244 : trFn seat 244 = some il244 := by kernel_rfl

def il245 : IFn := ⟨10, [.t 4], .seq (.region [⟨some 4, .mv (.c (.list true [])), none, []⟩] false) (.seq (.seq (.region [⟨some 5, .mv (.t 1), none, []⟩] false) (.cond (.t 5) (.seq (.region [⟨some 6, .mv (.t 0), none, []⟩, ⟨some 7, .call (.f 221) [.t 6, .c (.int .i64 1), .c (.int .i64 1)], none, [0]⟩, ⟨some 4, .mv (.t 7), none, [1, 1, 0, 1]⟩] false) .ret) .skip)) (.seq (.region [⟨some 8, .mv (.t 0), none, []⟩, ⟨some 9, .call (.f 221) [.t 8, .c (.int .i64 0), .c (.int .i64 1)], none, [0]⟩, ⟨some 4, .mv (.t 9), none, [1, 1, 0, 1]⟩] false) .ret))⟩
theorem told245 : trFn seat 245 = some il245 := by kernel_rfl

def il246 : IFn := ⟨33, [.t 4], .seq (.region [⟨some 3, .box (.t 1), none, []⟩, ⟨some 4, .mv (.c (.list true [])), none, []⟩] false) (.seq (.region [⟨some 6, .bslice 1 0 (.int .u8 0) [], none, []⟩, ⟨some 7, .mv (.t 0), none, []⟩, ⟨some 8, .append 1 1 (.t 6) (.t 7), none, [0, 1]⟩, ⟨some 5, .mv (.t 8), none, [2, 2, 0, 1, 2]⟩] false) (.seq (.seq (.region [⟨some 9, .load true 4 (.t 3), none, []⟩, ⟨some 10, .call (.f 164) [.t 9], none, [0]⟩, ⟨some 11, .bin false .neq (.t 10) (.c (.int .i64 0)), none, [1]⟩] false) (.cond (.t 11) (.seq (.region [⟨some 12, .mv (.t 5), none, []⟩, ⟨some 4, .mv (.t 12), none, [0, 0]⟩] false) .ret) .skip)) (.seq (.region [⟨some 13, .mv (.t 5), none, []⟩, ⟨some 14, .faddr 0 (.t 3), none, []⟩, ⟨some 15, .load false 1 (.t 14), none, [1]⟩, ⟨some 16, .call (.f 199) [.t 13, .t 15], none, [0, 2]⟩, ⟨some 5, .mv (.t 16), none, [3, 3, 0, 1, 2, 3]⟩] false) (.seq (.region [⟨some 17, .mv (.t 5), none, []⟩, ⟨some 18, .faddr 1 (.t 3), none, []⟩, ⟨some 19, .load false 1 (.t 18), none, [1]⟩, ⟨some 20, .call (.f 199) [.t 17, .t 19], none, [0, 2]⟩, ⟨some 5, .mv (.t 20), none, [3, 3, 0, 1, 2, 3]⟩] false) (.seq (.region [⟨some 21, .mv (.t 5), none, []⟩, ⟨some 22, .faddr 2 (.t 3), none, []⟩, ⟨some 23, .load false 1 (.t 22), none, [1]⟩, ⟨some 24, .call (.f 221) [.t 21, .t 23, .c (.int .i64 1)], none, [0, 2]⟩, ⟨some 5, .mv (.t 24), none, [3, 3, 0, 1, 2, 3]⟩] false) (.seq (.seq (.region [⟨some 25, .faddr 2 (.t 3), none, []⟩, ⟨some 26, .load false 1 (.t 25), none, [0]⟩, ⟨some 27, .bin false .eql (.t 26) (.c (.int .i64 3)), none, [1]⟩] false) (.cond (.t 27) (.region [⟨some 28, .mv (.t 5), none, []⟩, ⟨some 29, .faddr 3 (.t 3), none, []⟩, ⟨some 30, .load false 1 (.t 29), none, [1]⟩, ⟨some 31, .call (.f 199) [.t 28, .t 30], none, [0, 2]⟩, ⟨some 5, .mv (.t 31), none, [3, 3, 0, 1, 2, 3]⟩] false) .skip)) (.seq (.region [⟨some 32, .mv (.t 5), none, []⟩, ⟨some 4, .mv (.t 32), none, [0, 0]⟩] false) .ret)))))))⟩
theorem told246 : trFn seat 246 = some il246 := by kernel_rfl

def il328 : IFn := ⟨86, [.t 2, .t 3], .seq (.region [⟨some 2, .mv (.c (.list true [])), none, []⟩, ⟨some 3, .mv (.c (.int .i64 0)), none, [0]⟩] false) (.seq (.region [⟨some 12, .mv (.t 0), none, []⟩, ⟨some 13, .call (.f 194) [.t 12], none, [0]⟩, ⟨some 11, .mv (.t 13), none, [1]⟩, ⟨some 14, .extract (.t 11) 0, none, [2]⟩, ⟨some 15, .extract (.t 11) 1, none, [2]⟩, ⟨some 16, .extract (.t 11) 2, none, [2]⟩, ⟨some 4, .mv (.t 14), none, [3, 1, 0, 1, 2, 3]⟩, ⟨some 5, .mv (.t 15), none, [4, 6, 0, 1, 2, 3, 4, 6]⟩, ⟨some 6, .mv (.t 16), none, [5, 7, 0, 1, 2, 3, 4, 5, 6, 7]⟩] false) (.seq (.seq (.region [⟨some 17, .mv (.t 6), none, []⟩, ⟨some 18, .bin false .neq (.t 17) (.c (.int .i64 0)), none, [0]⟩] false) (.cond (.t 18) (.seq (.region [⟨some 19, .mv (.t 6), none, []⟩, ⟨some 2, .mv (.c (.list true [])), none, []⟩, ⟨some 3, .mv (.t 19), none, [0, 1, 0, 1]⟩] false) .ret) .skip)) (.seq (.seq (.region [⟨some 20, .mv (.t 5), none, []⟩, ⟨some 21, .len (.t 20), none, [0]⟩, ⟨some 22, .bin false .gtr (.t 21) (.c (.int .i64 0)), none, [1]⟩] false) (.cond (.t 22) (.seq (.region [⟨some 2, .mv (.c (.list true [])), none, []⟩, ⟨some 3, .mv (.c (.int .i64 2)), none, [0, 0]⟩] false) .ret) .skip)) (.seq (.seq (.region [⟨some 23, .mv (.t 4), none, []⟩, ⟨some 24, .len (.t 23), none, [0]⟩, ⟨some 25, .bin false .eql (.t 24) (.c (.int .i64 0)), none, [1]⟩] false) (.cond (.t 25) (.seq (.region [⟨some 2, .mv (.c (.list true [])), none, []⟩, ⟨some 3, .mv (.c (.int .i64 5)), none, [0, 0]⟩] false) .ret) .skip)) (.seq (.region [⟨some 7, .mv (.c (.list true [])), none, []⟩] false) (.seq (.block 0 (.loop (.seq (.seq (.region [⟨some 26, .mv (.t 4), none, []⟩, ⟨some 27, .len (.t 26), none, [0]⟩, ⟨some 28, .bin false .gtr (.t 27) (.c (.int .i64 0)), none, [1]⟩] false) (.cond (.t 28) .skip (.exit 0))) (.block 1 (.seq (.seq (.region [⟨some 29, .mv (.t 7), none, []⟩, ⟨some 30, .len (.t 29), none, [0]⟩, ⟨some 31, .bin false .geq (.t 30) (.c (.int .i64 127)), none, [1]⟩] false) (.cond (.t 31) (.seq (.region [⟨some 2, .mv (.c (.list true [])), none, []⟩, ⟨some 3, .mv (.c (.int .i64 10)), none, [0, 0]⟩] false) .ret) .skip)) (.seq (.region [⟨some 33, .mv (.t 4), none, []⟩, ⟨some 34, .call (.f 237) [.t 33], none, [0]⟩, ⟨some 32, .mv (.t 34), none, [1]⟩, ⟨some 35, .extract (.t 32) 0, none, [2]⟩, ⟨some 36, .extract (.t 32) 1, none, [2]⟩, ⟨some 37, .extract (.t 32) 2, none, [2]⟩, ⟨some 8, .alloc [.int .i64 0, .list true [], .list true [], .int .i64 0, .list true [], .list true [], .list true [], .list true []], none, []⟩, ⟨none, .store 8 (.t 8) (.t 35), none, [6, 3, 1, 0, 1, 2, 3, 6]⟩, ⟨some 9, .mv (.t 36), none, [4, 7, 0, 1, 2, 3, 4, 6, 7]⟩, ⟨some 10, .mv (.t 37), none, [5, 8, 0, 1, 2, 3, 4, 5, 6, 7, 8]⟩] false) (.seq (.seq (.region [⟨some 38, .mv (.t 10), none, []⟩, ⟨some 39, .bin false .neq (.t 38) (.c (.int .i64 0)), none, [0]⟩] false) (.cond (.t 39) (.seq (.region [⟨some 40, .mv (.t 10), none, []⟩, ⟨some 2, .mv (.c (.list true [])), none, []⟩, ⟨some 3, .mv (.t 40), none, [0, 1, 0, 1]⟩] false) .ret) .skip)) (.seq (.seq (.region [⟨some 41, .mv (.t 7), none, []⟩, ⟨some 42, .len (.t 41), none, [0]⟩, ⟨some 43, .bin false .rem (.t 42) (.c (.int .i64 2)), none, [1]⟩, ⟨some 44, .bin false .eql (.t 43) (.c (.int .i64 0)), none, [2]⟩, ⟨some 45, .mv (.t 44), none, [3]⟩, ⟨some 46, .faddr 0 (.t 8), some (45, true), [4]⟩, ⟨some 47, .load false 1 (.t 46), some (45, true), [5, 4]⟩, ⟨some 48, .bin false .eql (.t 47) (.c (.int .i64 2)), some (45, true), [6, 4]⟩, ⟨some 49, .pick (.t 45) (.t 48) (.c (.bool false)), none, [4, 7]⟩, ⟨some 50, .mv (.t 49), none, [8, 4]⟩, ⟨some 51, .mv (.t 7), some (50, false), [9]⟩, ⟨some 52, .len (.t 51), some (50, false), [10, 9]⟩, ⟨some 53, .bin false .rem (.t 52) (.c (.int .i64 2)), some (50, false), [11, 9]⟩, ⟨some 54, .bin false .eql (.t 53) (.c (.int .i64 1)), some (50, false), [12, 9]⟩, ⟨some 55, .mv (.t 54), some (50, false), [13, 9, 9]⟩, ⟨some 56, .faddr 0 (.t 8), some (55, true), [14]⟩, ⟨some 57, .load false 1 (.t 56), some (55, true), [15, 14]⟩, ⟨some 58, .bin false .eql (.t 57) (.c (.int .i64 1)), some (55, true), [16, 14]⟩, ⟨some 59, .pick (.t 55) (.t 58) (.c (.bool false)), some (50, false), [14, 17, 9]⟩, ⟨some 60, .pick (.t 50) (.c (.bool true)) (.t 59), none, [9, 18]⟩] false) (.cond (.t 60) (.seq (.region [⟨some 2, .mv (.c (.list true [])), none, []⟩, ⟨some 3, .mv (.c (.int .i64 7)), none, [0, 0]⟩] false) .ret) .skip)) (.seq (.region [⟨some 61, .mv (.t 7), none, []⟩, ⟨some 62, .load true 8 (.t 8), none, []⟩, ⟨some 63, .bslice 8 1 (.agg [.int .i64 0, .list true [], .list true [], .int .i64 0, .list true [], .list true [], .list true [], .list true []]) [(0, (.t 62))], none, [1]⟩, ⟨some 64, .append 8 160 (.t 61) (.t 63), none, [0, 2]⟩, ⟨some 7, .mv (.t 64), none, [3, 3, 0, 1, 2, 3]⟩] false) (.region [⟨some 65, .mv (.t 9), none, []⟩, ⟨some 4, .mv (.t 65), none, [0, 0]⟩] false)))))))))) (.seq (.seq (.region [⟨some 66, .mv (.t 7), none, []⟩, ⟨some 67, .mv (.t 7), none, []⟩, ⟨some 68, .len (.t 67), none, [1]⟩, ⟨some 69, .bin false .sub (.t 68) (.c (.int .i64 1)), none, [2]⟩, ⟨some 70, .iaddr 8 (.t 66) (.t 69), none, [0, 3]⟩, ⟨some 71, .faddr 0 (.t 70), none, [4]⟩, ⟨some 72, .load false 1 (.t 71), none, [5]⟩, ⟨some 73, .bin false .eql (.t 72) (.c (.int .i64 0)), none, [6]⟩] false) (.cond (.t 73) (.seq (.region [⟨some 2, .mv (.c (.list true [])), none, []⟩, ⟨some 3, .mv (.c (.int .i64 6)), none, [0, 0]⟩] false) .ret) .skip)) (.seq (.block 2 (.loop (.seq (.seq (.region [⟨some 74, .mv (.t 7), none, []⟩, ⟨some 75, .len (.t 74), none, [0]⟩, ⟨some 76, .call (.f 152) [.t 75], none, [1]⟩, ⟨some 77, .un .not (.t 76), none, [2]⟩] false) (.cond (.t 77) .skip (.exit 2))) (.block 3 (.region [⟨some 78, .mv (.t 7), none, []⟩, ⟨some 79, .build [.int .i64 0, .list true [], .list true [], .int .i64 0, .list true [], .list true [], .list true [], .list true []] [], none, []⟩, ⟨some 80, .bslice 8 1 (.agg [.int .i64 0, .list true [], .list true [], .int .i64 0, .list true [], .list true [], .list true [], .list true []]) [(0, (.t 79))], none, [1]⟩, ⟨some 81, .append 8 160 (.t 78) (.t 80), none, [0, 2]⟩, ⟨some 7, .mv (.t 81), none, [3, 3, 0, 1, 2, 3]⟩] false))))) (.seq (.seq (.region [⟨some 82, .mv (.t 7), none, []⟩, ⟨some 83, .call (.f 330) [.t 82], none, [0]⟩, ⟨some 84, .un .not (.t 83), none, [1]⟩] false) (.cond (.t 84) (.seq (.region [⟨some 2, .mv (.c (.list true [])), none, []⟩, ⟨some 3, .mv (.c (.int .i64 8)), none, [0, 0]⟩] false) .ret) .skip)) (.seq (.region [⟨some 85, .mv (.t 7), none, []⟩, ⟨some 2, .mv (.t 85), none, [0, 0]⟩, ⟨some 3, .mv (.c (.int .i64 0)), none, [1, 0, 1]⟩] false) .ret))))))))))⟩
theorem told328 : trFn seat 328 = some il328 := by kernel_rfl

def il330 : IFn := ⟨35, [.t 2], .seq (.region [⟨some 2, .mv (.c (.bool false)), none, []⟩] false) (.seq (.region [⟨some 7, .mv (.t 0), none, []⟩, ⟨some 8, .call (.f 137) [.t 7], none, [0]⟩, ⟨some 3, .mv (.t 8), none, [1, 1, 0, 1]⟩] false) (.seq (.seq (.region [⟨some 4, .mv (.c (.int .i64 0)), none, []⟩] false) (.block 0 (.loop (.seq (.seq (.region [⟨some 9, .mv (.t 4), none, []⟩, ⟨some 10, .mv (.t 3), none, []⟩, ⟨some 11, .len (.t 10), none, [1]⟩, ⟨some 12, .bin false .lss (.t 9) (.t 11), none, [0, 2]⟩] false) (.cond (.t 12) .skip (.exit 0))) (.seq (.block 1 (.seq (.region [⟨some 15, .mv (.t 3), none, []⟩, ⟨some 16, .mv (.t 4), none, []⟩, ⟨some 17, .iaddr 8 (.t 15) (.t 16), none, [0, 1]⟩, ⟨some 18, .faddr 5 (.t 17), none, [2]⟩, ⟨some 19, .faddr 2 (.t 18), none, [3]⟩, ⟨some 20, .load false 1 (.t 19), none, [4]⟩, ⟨some 5, .mv (.t 20), none, [5, 0, 1, 2, 3, 4, 5]⟩] false) (.seq (.region [⟨some 6, .mv (.c (.int .i64 0)), none, []⟩] false) (.block 2 (.loop (.seq (.seq (.region [⟨some 21, .mv (.t 6), none, []⟩, ⟨some 22, .mv (.t 5), none, []⟩, ⟨some 23, .len (.t 22), none, [1]⟩, ⟨some 24, .bin false .lss (.t 21) (.t 23), none, [0, 2]⟩] false) (.cond (.t 24) .skip (.exit 2))) (.seq (.block 3 (.seq (.region [⟨some 27, .mv (.t 3), none, []⟩, ⟨some 28, .mv (.t 4), none, []⟩, ⟨some 29, .mv (.t 5), none, []⟩, ⟨some 30, .mv (.t 6), none, []⟩, ⟨some 31, .iaddr 1 (.t 29) (.t 30), none, [2, 3]⟩, ⟨some 32, .load false 1 (.t 31), none, [4]⟩, ⟨some 33, .call (.f 347) [.t 27, .t 28, .t 32], none, [0, 1, 5]⟩, ⟨some 34, .un .not (.t 33), none, [6]⟩] false) (.cond (.t 34) (.seq (.region [⟨some 2, .mv (.c (.bool false)), none, []⟩] false) .ret) .skip))) (.region [⟨some 25, .mv (.t 6), none, []⟩, ⟨some 26, .bin false .add (.t 25) (.c (.int .i64 1)), none, [0]⟩, ⟨some 6, .mv (.t 26), none, [1, 0, 1]⟩] false)))))))) (.region [⟨some 13, .mv (.t 4), none, []⟩, ⟨some 14, .bin false .add (.t 13) (.c (.int .i64 1)), none, [0]⟩, ⟨some 4, .mv (.t 14), none, [1, 0, 1]⟩] false)))))) (.seq (.region [⟨some 2, .mv (.c (.bool true)), none, []⟩] false) .ret)))⟩
theorem told330 : trFn seat 330 = some il330 := by kernel_rfl

def il332 : IFn := ⟨22, [.t 2], .seq (.region [⟨some 2, .mv (.c (.list true [])), none, []⟩] false) (.seq (.region [⟨some 6, .mv (.t 0), none, []⟩, ⟨some 7, .call (.f 137) [.t 6], none, [0]⟩, ⟨some 3, .mv (.t 7), none, [1, 1, 0, 1]⟩] false) (.seq (.region [⟨some 4, .mv (.c (.list true [])), none, []⟩] false) (.seq (.seq (.region [⟨some 5, .mv (.c (.int .i64 0)), none, []⟩] false) (.block 0 (.loop (.seq (.seq (.region [⟨some 8, .mv (.t 5), none, []⟩, ⟨some 9, .mv (.t 3), none, []⟩, ⟨some 10, .call (.f 297) [.t 9], none, [1]⟩, ⟨some 11, .bin false .leq (.t 8) (.t 10), none, [0, 2]⟩] false) (.cond (.t 11) .skip (.exit 0))) (.seq (.block 1 (.region [⟨some 14, .mv (.t 4), none, []⟩, ⟨some 15, .mv (.t 3), none, []⟩, ⟨some 16, .mv (.t 5), none, []⟩, ⟨some 17, .iaddr 8 (.t 15) (.t 16), none, [1, 2]⟩, ⟨some 18, .load true 8 (.t 17), none, [3]⟩, ⟨some 19, .call (.f 238) [.t 14, .t 18], none, [0, 4]⟩, ⟨some 4, .mv (.t 19), none, [5, 5, 0, 1, 2, 3, 4, 5]⟩] false)) (.region [⟨some 12, .mv (.t 5), none, []⟩, ⟨some 13, .bin false .add (.t 12) (.c (.int .i64 1)), none, [0]⟩, ⟨some 5, .mv (.t 13), none, [1, 0, 1]⟩] false)))))) (.seq (.region [⟨some 20, .mv (.t 4), none, []⟩, ⟨some 21, .call (.f 199) [.c (.list true []), .t 20], none, [0]⟩, ⟨some 2, .mv (.t 21), none, [1, 1, 0, 1]⟩] false) .ret))))⟩
theorem told332 : trFn seat 332 = some il332 := by kernel_rfl

def il347 : IFn := ⟨53, [.t 6], .seq (.region [⟨some 6, .mv (.c (.bool false)), none, []⟩] false) (.seq (.seq (.region [⟨some 8, .mv (.t 2), none, []⟩, ⟨some 9, .bin false .mul (.c (.int .i64 2)) (.t 8), none, [0]⟩, ⟨some 10, .mv (.t 1), none, []⟩, ⟨some 11, .mv (.t 0), none, []⟩, ⟨some 12, .len (.t 11), none, [3]⟩, ⟨some 13, .call (.f 353) [.t 9, .t 10, .t 12], none, [1, 2, 4]⟩, ⟨some 14, .un .not (.t 13), none, [5]⟩, ⟨some 15, .mv (.t 14), none, [6, 5]⟩, ⟨some 16, .mv (.t 0), some (15, false), [7]⟩, ⟨some 17, .mv (.t 2), some (15, false), [7]⟩, ⟨some 18, .bin false .mul (.c (.int .i64 2)) (.t 17), some (15, false), [9, 7]⟩, ⟨some 19, .iaddr 8 (.t 16) (.t 18), some (15, false), [8, 10, 7]⟩, ⟨some 20, .faddr 0 (.t 19), some (15, false), [11, 7]⟩, ⟨some 21, .load false 1 (.t 20), some (15, false), [12, 7]⟩, ⟨some 22, .bin false .eql (.t 21) (.c (.int .i64 0)), some (15, false), [13, 7]⟩, ⟨some 23, .pick (.t 15) (.c (.bool true)) (.t 22), none, [7, 14]⟩] false) (.cond (.t 23) (.seq (.region [⟨some 6, .mv (.c (.bool false)), none, []⟩] false) .ret) .skip)) (.seq (.seq (.region [⟨some 24, .mv (.t 2), none, []⟩, ⟨some 25, .bin false .mul (.c (.int .i64 2)) (.t 24), none, [0]⟩, ⟨some 26, .mv (.t 0), none, []⟩, ⟨some 27, .len (.t 26), none, [2]⟩, ⟨some 28, .call (.f 305) [.t 25, .t 27], none, [1, 3]⟩, ⟨some 7, .mv (.t 28), none, [4, 4, 0, 1, 2, 3, 4]⟩] false) (.block 0 (.loop (.seq (.seq (.region [⟨some 29, .mv (.t 7), none, []⟩, ⟨some 30, .mv (.t 1), none, []⟩, ⟨some 31, .bin false .neq (.t 29) (.t 30), none, [0, 1]⟩] false) (.cond (.t 31) .skip (.exit 0))) (.seq (.block 1 (.seq (.region [⟨some 36, .mv (.t 0), none, []⟩, ⟨some 37, .mv (.t 7), none, []⟩, ⟨some 38, .iaddr 8 (.t 36) (.t 37), none, [0, 1]⟩, ⟨some 39, .faddr 0 (.t 38), none, [2]⟩, ⟨some 40, .load false 1 (.t 39), none, [3]⟩, ⟨some 41, .bin false .eql (.t 40) (.c (.int .i64 2)), none, [4]⟩, ⟨some 42, .mv (.t 41), none, [5]⟩, ⟨some 43, .mv (.t 0), some (42, true), [6]⟩, ⟨some 44, .mv (.t 7), some (42, true), [6]⟩, ⟨some 45, .iaddr 8 (.t 43) (.t 44), some (42, true), [7, 8, 6]⟩, ⟨some 46, .faddr 5 (.t 45), some (42, true), [9, 6]⟩, ⟨some 47, .faddr 2 (.t 46), some (42, true), [10, 6]⟩, ⟨some 48, .load false 1 (.t 47), some (42, true), [11, 6]⟩, ⟨some 49, .mv (.t 2), some (42, true), [6]⟩, ⟨some 50, .call (.f 14) [.t 48, .t 49], some (42, true), [12, 13, 6, 6]⟩, ⟨some 51, .un .not (.t 50), some (42, true), [14, 6]⟩, ⟨some 52, .pick (.t 42) (.t 51) (.c (.bool false)), none, [6, 15]⟩] false) (.cond (.t 52) (.seq (.region [⟨some 6, .mv (.c (.bool false)), none, []⟩] false) .ret) .skip))) (.region [⟨some 32, .mv (.t 7), none, []⟩, ⟨some 33, .mv (.t 0), none, []⟩, ⟨some 34, .len (.t 33), none, [1]⟩, ⟨some 35, .call (.f 305) [.t 32, .t 34], none, [0, 2]⟩, ⟨some 7, .mv (.t 35), none, [3, 3, 0, 1, 2, 3]⟩] false)))))) (.seq (.region [⟨some 6, .mv (.c (.bool true)), none, []⟩] false) .ret)))⟩
theorem told347 : trFn seat 347 = some il347 := by kernel_rfl

def il353 : IFn := ⟨27, [.t 6], .seq (.region [⟨some 6, .mv (.c (.bool false)), none, []⟩] false) (.seq (.region [⟨some 7, .mv (.t 0), none, []⟩, ⟨some 8, .mv (.t 2), none, []⟩, ⟨some 9, .call (.f 309) [.t 7, .t 8], none, [0, 1]⟩, ⟨some 10, .mv (.t 9), none, [2, 2]⟩, ⟨some 11, .mv (.t 1), some (10, true), [3]⟩, ⟨some 12, .mv (.t 2), some (10, true), [3]⟩, ⟨some 13, .call (.f 309) [.t 11, .t 12], some (10, true), [4, 5, 3, 3]⟩, ⟨some 14, .pick (.t 10) (.t 13) (.c (.bool false)), none, [3, 6]⟩, ⟨some 15, .mv (.t 14), none, [7, 6]⟩, ⟨some 16, .mv (.t 0), some (15, true), [8]⟩, ⟨some 17, .mv (.t 1), some (15, true), [8]⟩, ⟨some 18, .bin false .eql (.t 16) (.t 17), some (15, true), [9, 10, 8]⟩, ⟨some 19, .mv (.t 18), some (15, true), [11, 8, 8]⟩, ⟨some 20, .mv (.t 0), some (19, false), [12]⟩, ⟨some 21, .mv (.t 2), some (19, false), [12]⟩, ⟨some 22, .call (.f 301) [.t 20, .t 21], some (19, false), [13, 14, 12, 12]⟩, ⟨some 23, .mv (.t 1), some (19, false), [12]⟩, ⟨some 24, .call (.f 359) [.t 22, .t 23], some (19, false), [15, 16, 15, 12]⟩, ⟨some 25, .pick (.t 19) (.c (.bool true)) (.t 24), some (15, true), [12, 17, 8]⟩, ⟨some 26, .pick (.t 15) (.t 25) (.c (.bool false)), none, [8, 18]⟩, ⟨some 6, .mv (.t 26), none, [19, 17, 0, 1, 2, 3, 4, 5, 6, 7, 8, 9, 10, 11, 12, 13, 14, 15, 16, 17, 18, 19]⟩] false) .ret)⟩
theorem told353 : trFn seat 353 = some il353 := by kernel_rfl

def il359 : IFn := ⟨18, [.t 4], .seq (.region [⟨some 4, .mv (.c (.bool false)), none, []⟩] false) (.seq (.seq (.region [⟨some 5, .mv (.c (.int .i64 0)), none, []⟩] false) (.block 0 (.loop (.seq (.seq (.region [⟨some 6, .mv (.t 5), none, []⟩, ⟨some 7, .mv (.t 0), none, []⟩, ⟨some 8, .len (.t 7), none, [1]⟩, ⟨some 9, .bin false .lss (.t 6) (.t 8), none, [0, 2]⟩] false) (.cond (.t 9) .skip (.exit 0))) (.seq (.block 1 (.seq (.region [⟨some 12, .mv (.t 0), none, []⟩, ⟨some 13, .mv (.t 5), none, []⟩, ⟨some 14, .iaddr 1 (.t 12) (.t 13), none, [0, 1]⟩, ⟨some 15, .load false 1 (.t 14), none, [2]⟩, ⟨some 16, .mv (.t 1), none, []⟩, ⟨some 17, .bin false .eql (.t 15) (.t 16), none, [3, 4]⟩] false) (.cond (.t 17) (.seq (.region [⟨some 4, .mv (.c (.bool true)), none, []⟩] false) .ret) .skip))) (.region [⟨some 10, .mv (.t 5), none, []⟩, ⟨some 11, .bin false .add (.t 10) (.c (.int .i64 1)), none, [0]⟩, ⟨some 5, .mv (.t 11), none, [1, 0, 1]⟩] false)))))) (.seq (.region [⟨some 4, .mv (.c (.bool false)), none, []⟩] false) .ret))⟩
theorem told359 : trFn seat 359 = some il359 := by kernel_rfl

def il297 : IFn := ⟨21, [.t 2], .seq (.region [⟨some 2, .mv (.c (.int .i64 0)), none, []⟩] false) (.seq (.region [⟨some 5, .mv (.t 0), none, []⟩, ⟨some 6, .call (.f 137) [.t 5], none, [0]⟩, ⟨some 3, .mv (.t 6), none, [1, 1, 0, 1]⟩] false) (.seq (.seq (.region [⟨some 7, .mv (.t 3), none, []⟩, ⟨some 8, .len (.t 7), none, [0]⟩, ⟨some 9, .bin false .sub (.t 8) (.c (.int .i64 1)), none, [1]⟩, ⟨some 4, .mv (.t 9), none, [2, 0, 1, 2]⟩] false) (.block 0 (.loop (.seq (.seq (.region [⟨some 10, .mv (.t 4), none, []⟩, ⟨some 11, .bin false .geq (.t 10) (.c (.int .i64 0)), none, [0]⟩] false) (.cond (.t 11) .skip (.exit 0))) (.seq (.block 1 (.seq (.region [⟨some 14, .mv (.t 3), none, []⟩, ⟨some 15, .mv (.t 4), none, []⟩, ⟨some 16, .iaddr 8 (.t 14) (.t 15), none, [0, 1]⟩, ⟨some 17, .faddr 0 (.t 16), none, [2]⟩, ⟨some 18, .load false 1 (.t 17), none, [3]⟩, ⟨some 19, .bin false .neq (.t 18) (.c (.int .i64 0)), none, [4]⟩] false) (.cond (.t 19) (.seq (.region [⟨some 20, .mv (.t 4), none, []⟩, ⟨some 2, .mv (.t 20), none, [0, 0]⟩] false) .ret) .skip))) (.region [⟨some 12, .mv (.t 4), none, []⟩, ⟨some 13, .bin false .sub (.t 12) (.c (.int .i64 1)), none, [0]⟩, ⟨some 4, .mv (.t 13), none, [1, 0, 1]⟩] false)))))) (.seq (.region [⟨some 2, .mv (.c (.int .i64 (-1))), none, []⟩] false) .ret)))⟩
theorem told297 : trFn seat 297 = some il297 := by kernel_rfl

def il301 : IFn := ⟨20, [.t 4], .seq (.region [⟨some 4, .mv (.c (.list true [])), none, []⟩] false) (.seq (.region [⟨some 5, .mv (.c (.list true [])), none, []⟩] false) (.seq (.region [⟨some 7, .mv (.t 0), none, []⟩, ⟨some 8, .mv (.t 1), none, []⟩, ⟨some 9, .call (.f 305) [.t 7, .t 8], none, [0, 1]⟩, ⟨some 6, .mv (.t 9), none, [2, 2, 0, 1, 2]⟩] false) (.seq (.block 0 (.loop (.seq (.seq (.region [⟨some 10, .mv (.t 6), none, []⟩, ⟨some 11, .bin false .geq (.t 10) (.c (.int .i64 0)), none, [0]⟩] false) (.cond (.t 11) .skip (.exit 0))) (.block 1 (.seq (.region [⟨some 12, .mv (.t 5), none, []⟩, ⟨some 13, .mv (.t 6), none, []⟩, ⟨some 14, .bslice 1 1 (.int .i64 0) [(0, (.t 13))], none, [1]⟩, ⟨some 15, .append 1 8 (.t 12) (.t 14), none, [0, 2]⟩, ⟨some 5, .mv (.t 15), none, [3, 3, 0, 1, 2, 3]⟩] false) (.region [⟨some 16, .mv (.t 6), none, []⟩, ⟨some 17, .mv (.t 1), none, []⟩, ⟨some 18, .call (.f 305) [.t 16, .t 17], none, [0, 1]⟩, ⟨some 6, .mv (.t 18), none, [2, 2, 0, 1, 2]⟩] false)))))) (.seq (.region [⟨some 19, .mv (.t 5), none, []⟩, ⟨some 4, .mv (.t 19), none, [0, 0]⟩] false) .ret))))⟩
theorem told301 : trFn seat 301 = some il301 := by kernel_rfl

def il305 : IFn := ⟨33, [.t 4], .seq (.region [⟨some 4, .mv (.c (.int .i64 0)), none, []⟩] false) (.seq (.seq (.region [⟨some 6, .mv (.t 0), none, []⟩, ⟨some 7, .mv (.t 1), none, []⟩, ⟨some 8, .call (.f 309) [.t 6, .t 7], none, [0, 1]⟩, ⟨some 9, .un .not (.t 8), none, [2]⟩, ⟨some 10, .mv (.t 9), none, [3, 2]⟩, ⟨some 11, .mv (.t 0), some (10, false), [4]⟩, ⟨some 12, .mv (.t 1), some (10, false), [4]⟩, ⟨some 13, .call (.f 310) [.t 12], some (10, false), [6, 4, 4]⟩, ⟨some 14, .bin false .eql (.t 11) (.t 13), some (10, false), [5, 7, 4]⟩, ⟨some 15, .pick (.t 10) (.c (.bool true)) (.t 14), none, [4, 8]⟩] false) (.cond (.t 15) (.seq (.region [⟨some 4, .mv (.c (.int .i64 (-1))), none, []⟩] false) .ret) .skip)) (.seq (.region [⟨some 16, .mv (.t 0), none, []⟩, ⟨some 17, .call (.f 311) [.t 16], none, [0]⟩, ⟨some 5, .mv (.t 17), none, [1, 1, 0, 1]⟩] false) (.seq (.seq (.region [⟨some 18, .mv (.t 0), none, []⟩, ⟨some 19, .mv (.t 5), none, []⟩, ⟨some 20, .bin false .add (.t 19) (.c (.int .i64 1)), none, [1]⟩, ⟨some 21, .call (.f 312) [.t 20], none, [2]⟩, ⟨some 22, .bin false .quo (.t 18) (.t 21), none, [0, 3]⟩, ⟨some 23, .bin false .rem (.t 22) (.c (.int .i64 2)), none, [4]⟩, ⟨some 24, .bin false .eql (.t 23) (.c (.int .i64 0)), none, [5]⟩] false) (.cond (.t 24) (.seq (.region [⟨some 25, .mv (.t 0), none, []⟩, ⟨some 26, .mv (.t 5), none, []⟩, ⟨some 27, .call (.f 312) [.t 26], none, [1]⟩, ⟨some 28, .bin false .add (.t 25) (.t 27), none, [0, 2]⟩, ⟨some 4, .mv (.t 28), none, [3, 2, 0, 1, 2, 3]⟩] false) .ret) .skip)) (.seq (.region [⟨some 29, .mv (.t 0), none, []⟩, ⟨some 30, .mv (.t 5), none, []⟩, ⟨some 31, .call (.f 312) [.t 30], none, [1]⟩, ⟨some 32, .bin false .sub (.t 29) (.t 31), none, [0, 2]⟩, ⟨some 4, .mv (.t 32), none, [3, 2, 0, 1, 2, 3]⟩] false) .ret))))⟩
theorem told305 : trFn seat 305 = some il305 := by kernel_rfl

def il309 : IFn := ⟨16, [.t 4], .seq (.region [⟨some 4, .mv (.c (.bool false)), none, []⟩] false) (.seq (.region [⟨some 5, .mv (.t 1), none, []⟩, ⟨some 6, .call (.f 152) [.t 5], none, [0]⟩, ⟨some 7, .mv (.t 6), none, [1, 1]⟩, ⟨some 8, .mv (.t 0), some (7, true), [2]⟩, ⟨some 9, .bin false .geq (.t 8) (.c (.int .i64 0)), some (7, true), [3, 2]⟩, ⟨some 10, .pick (.t 7) (.t 9) (.c (.bool false)), none, [2, 4]⟩, ⟨some 11, .mv (.t 10), none, [5, 2]⟩, ⟨some 12, .mv (.t 0), some (11, true), [6]⟩, ⟨some 13, .mv (.t 1), some (11, true), [6]⟩, ⟨some 14, .bin false .lss (.t 12) (.t 13), some (11, true), [7, 8, 6]⟩, ⟨some 15, .pick (.t 11) (.t 14) (.c (.bool false)), none, [6, 9]⟩, ⟨some 4, .mv (.t 15), none, [10, 6, 0, 1, 2, 3, 4, 5, 6, 7, 8, 9, 10]⟩] false) .ret)⟩
theorem told309 : trFn seat 309 = some il309 := by kernel_rfl

def il310 : IFn := ⟨9, [.t 2], .seq (.region [⟨some 2, .mv (.c (.int .i64 0)), none, []⟩] false) (.seq (.seq (.region [⟨some 3, .mv (.t 0), none, []⟩, ⟨some 4, .call (.f 152) [.t 3], none, [0]⟩, ⟨some 5, .un .not (.t 4), none, [1]⟩] false) (.cond (.t 5) (.seq (.region [⟨some 2, .mv (.c (.int .i64 (-1))), none, []⟩] false) .ret) .skip)) (.seq (.region [⟨some 6, .mv (.t 0), none, []⟩, ⟨some 7, .bin false .sub (.t 6) (.c (.int .i64 1)), none, [0]⟩, ⟨some 8, .bin false .quo (.t 7) (.c (.int .i64 2)), none, [1]⟩, ⟨some 2, .mv (.t 8), none, [2, 0, 1, 2]⟩] false) .ret))⟩
theorem told310 : trFn seat 310 = some il310 := by kernel_rfl

def il311 : IFn := ⟨18, [.t 2], .seq (.region [⟨some 2, .mv (.c (.int .i64 0)), none, []⟩] false) (.seq (.seq (.region [⟨some 4, .mv (.t 0), none, []⟩, ⟨some 5, .bin false .lss (.t 4) (.c (.int .i64 0)), none, [0]⟩, ⟨some 6, .mv (.t 5), none, [1]⟩, ⟨some 7, .mv (.t 0), some (6, false), [2]⟩, ⟨some 8, .bin false .gtr (.t 7) (.c (.int .i64 126)), some (6, false), [3, 2]⟩, ⟨some 9, .pick (.t 6) (.c (.bool true)) (.t 8), none, [2, 4]⟩] false) (.cond (.t 9) (.seq (.region [⟨some 2, .mv (.c (.int .i64 (-1))), none, []⟩] false) .ret) .skip)) (.seq (.region [⟨some 3, .mv (.c (.int .i64 0)), none, []⟩] false) (.seq (.block 0 (.loop (.seq (.seq (.region [⟨some 10, .mv (.t 0), none, []⟩, ⟨some 11, .bin false .rem (.t 10) (.c (.int .i64 2)), none, [0]⟩, ⟨some 12, .bin false .eql (.t 11) (.c (.int .i64 1)), none, [1]⟩] false) (.cond (.t 12) .skip (.exit 0))) (.block 1 (.seq (.region [⟨some 13, .mv (.t 3), none, []⟩, ⟨some 14, .bin false .add (.t 13) (.c (.int .i64 1)), none, [0]⟩, ⟨some 3, .mv (.t 14), none, [1, 0, 1]⟩] false) (.region [⟨some 15, .mv (.t 0), none, []⟩, ⟨some 16, .bin false .quo (.t 15) (.c (.int .i64 2)), none, [0]⟩, ⟨some 0, .mv (.t 16), none, [1, 0, 1]⟩] false)))))) (.seq (.region [⟨some 17, .mv (.t 3), none, []⟩, ⟨some 2, .mv (.t 17), none, [0, 0]⟩] false) .ret))))⟩
theorem told311 : trFn seat 311 = some il311 := by kernel_rfl

def il312 : IFn := ⟨13, [.t 2], .seq (.region [⟨some 2, .mv (.c (.int .i64 0)), none, []⟩] false) (.seq (.region [⟨some 3, .mv (.c (.int .i64 1)), none, []⟩] false) (.seq (.seq (.region [⟨some 4, .mv (.c (.int .i64 0)), none, []⟩] false) (.block 0 (.loop (.seq (.seq (.region [⟨some 5, .mv (.t 4), none, []⟩, ⟨some 6, .mv (.t 0), none, []⟩, ⟨some 7, .bin false .lss (.t 5) (.t 6), none, [0, 1]⟩] false) (.cond (.t 7) .skip (.exit 0))) (.seq (.block 1 (.region [⟨some 10, .mv (.t 3), none, []⟩, ⟨some 11, .bin false .mul (.c (.int .i64 2)) (.t 10), none, [0]⟩, ⟨some 3, .mv (.t 11), none, [1, 0, 1]⟩] false)) (.region [⟨some 8, .mv (.t 4), none, []⟩, ⟨some 9, .bin false .add (.t 8) (.c (.int .i64 1)), none, [0]⟩, ⟨some 4, .mv (.t 9), none, [1, 0, 1]⟩] false)))))) (.seq (.region [⟨some 12, .mv (.t 3), none, []⟩, ⟨some 2, .mv (.t 12), none, [0, 0]⟩] false) .ret)))⟩
theorem told312 : trFn seat 312 = some il312 := by kernel_rfl

end Go.Proofs.YtihhinbjhiankaaGreatDoor.Al

set_option linter.unusedSimpArgs false
set_option linter.unusedVariables false
namespace Go.Proofs.YtihhinbjhiankaaGreatDoor.Al
open Go
attribute [local go_sem] W_mv W_pick W_alloc W_box W_build W_bslice W_load W_store W_bin W_isnil W_un W_convI W_convS W_mkiface W_mkfunc W_slice W_faddr W_iaddr W_idxA W_extract W_len W_min W_max W_append thenQ_normal thenQ_exit thenQ_ret blockQ_normal blockQ_ret blockQ_exit wpc_skip wpc_region wpc_draw wpc_seq wpc_cond wpc_block wpc_exit wpc_ret wpc_loop wpc_range condW_true condW_false condW_dec condW_any W_nil W_call resW_some evalOp Opd.ev updo_envL updo_none setL_cons setL_nil envL_cons Option.map_some Option.bind_some evBin evInt List.map_cons List.map_nil Option.pure_def Option.bind_eq_bind W_grd' grdW_tt grdW_ff grdW_tf grdW_ft grdW_tup grdW_dt grdW_df L_mv L_load L_bin L_un L_faddr L_iaddr L_nil L_call lresW_some upd_envL evUn beq_dec bne_dec leaves_ret1 leaves_ret0 leaves_end0 rowLen_ints load_iptr0 not_dec heap_get0 heap_get1 heap_set0 heap_set1 heap_len1 heap_app bslice1_int seen_one0 Nat.sub_zero Bool.not_true Bool.not_false List.length_nil List.length_cons List.nil_append List.cons_append Nat.zero_add canon_ptrI canon_bool canon_tup canon_agg canon_ints' canon_ints0 rowLen_octs seen_octs canon_octs' rowLen_nodes canon_nodes' rowLen_nodes0 rowLen_nodes3 seen_list cells_int oneIn_int cells_bool oneIn_bool cells_list oneIn_list cells_func oneIn_func cells_own cells_ptr cells_agg oneIn_own0 oneIn_own1 seenL1 seenM1 oneIn_ptr2 seenL2 oneIn_own3 seenL3 cells_ints oneIn_ints cells_octs oneIn_octs cells_nodes oneIn_nodes ldB0 ldA0 adB0 stB0 ldB1 ldA1 adB1 stB1 ldB2 ldA2 adB2 stB2 ldB3 stB3 List.getElem?_cons_zero List.getElem?_cons_succ beq_self_eq_true splice List.take_zero List.take_succ_cons List.drop_zero List.drop_succ_cons List.append_nil List.set_cons_zero List.set_cons_succ List.all_cons List.all_nil Bool.and_self and_self and_true true_and Nat.lt_irrefl Nat.zero_lt_one Nat.le_refl fillA evNil notA Bool.false_eq_true evMin_int evMax_int Option.map_none freezeP_all_nil freezeP_all_cons frzE_box frzE_arr foldA List.foldlM_cons List.foldlM_nil callW_f lcallW_f ansW_fn ansW_own lansW_fn ansW_none tab_cons tab_nil dI_int dB_bool dO_octs dO_ints dO_list dO_nil dN_nodeA dLf_agg dIn_agg dN_agg dNs_nodes dNs_nil isI_int isB_bool isO_octs isO_nil isO_list isS_ints isS_nil isNs_nodes isNs_nil isN_nodeA isLf_agg isIn_agg isN_agg leaf_eta inner_eta node_eta leaf_zero inner_zero decide_eq_true_eq decide_eq_false_iff_not eq_self forall_const true_implies false_implies Bool.not_eq_true' Bool.not_eq_false' Bool.true_eq_false implies_true ne_eq ldI ldIA adI AV.tup.injEq AV.agg.injEq List.cons.injEq AV.int.injEq AV.bool.injEq nodes_inj octs_inj ints_inj nil_nodes nil_octs nil_ints canon_nilL decide_eq_decide two_ne four_ne b256_ne lendA_own lendA_none isO_own false_and and_false Q_nil Q_l Q_g Q_h Q_grd qgrdW_b lightD_some heavyD_some readD_some fnD_some callL_f Q_call pendOk_nil pendOk_cons pastOk_nil Q_mv Q_pick Q_bin Q_extract Q_min Q_load Q_slice Q_len H_store free_mv free_pick free_bin free_extract free_min free_load free_slice free_len callW_y List.length_map List.length_set leaves_r evR_some evRess1 evRess2 evRess3 evRes_t evRes_c nz_kind nz_enc nz_cred nz_source nz_parent nz_ienc nz_hash nz_un true_or or_true bsl_node appI appO canon_rowI canon_rowO not_false_eq_true not_true_eq_false ldE_a ldE_c adE_b stE_b onP_b
attribute [local go_sem low] condW_b ldP adP stP onO
attribute [local simp] envL_cons envL_nil idb_int idb_bool idb_ints idb_nil idb_own idb_ptr idb_octs idb_nodes idb_leafA idb_innerA idb_nodeA idb_agg idb_tup idb_iptr idb_fn entB_dead entB_box
theorem refIs_spec (x w : Int) : Fun seat 309 [.int .i64 x, .int .i64 w] (.bool (decide (IsN x w))) := by
  by_cases h : Whole w
  · by_cases h0 : x ≥ 0
    · have e : IsN x w ↔ x < w := ⟨fun k => k.2.2, fun k => ⟨h, h0, k⟩⟩
      refine Fun.of0R [r152] told309 (by simp [il309]) (by simp [idb_patchA]) (by simp [idb_patchA]) 4 ?_
      simp -implicitDefEqProofs only [il309, List.zipIdx_cons, List.zipIdx_nil, leafA, innerA, nodeA, patchA, Leaf.cells, Inner.cells, Node.cells, r152_c, r152_ask, decide_true, decide_false, h, h0, e, go_sem, Nat.reduceEqDiff, reduceIte, Nat.reduceAdd, Nat.reduceLeDiff, Nat.reduceLT, Nat.reduceSub]
    · have e : ¬ IsN x w := fun k => h0 k.2.1
      refine Fun.of0R [r152] told309 (by simp [il309]) (by simp [idb_patchA]) (by simp [idb_patchA]) 4 ?_
      simp -implicitDefEqProofs only [il309, List.zipIdx_cons, List.zipIdx_nil, leafA, innerA, nodeA, patchA, Leaf.cells, Inner.cells, Node.cells, r152_c, r152_ask, decide_true, decide_false, h, h0, e, go_sem, Nat.reduceEqDiff, reduceIte, Nat.reduceAdd, Nat.reduceLeDiff, Nat.reduceLT, Nat.reduceSub]
  · have e : ¬ IsN x w := fun k => h k.1
    refine Fun.of0R [r152] told309 (by simp [il309]) (by simp [idb_patchA]) (by simp [idb_patchA]) 4 ?_
    simp -implicitDefEqProofs only [il309, List.zipIdx_cons, List.zipIdx_nil, leafA, innerA, nodeA, patchA, Leaf.cells, Inner.cells, Node.cells, r152_c, r152_ask, decide_true, decide_false, h, e, go_sem, Nat.reduceEqDiff, reduceIte, Nat.reduceAdd, Nat.reduceLeDiff, Nat.reduceLT, Nat.reduceSub]
noncomputable def r309 : Reg seat := .of told309 (ask2 (fun a0' a1' => isI a0' ∧ isI a1') fun a0' a1' => .fn (.bool (decide (IsN (dI a0') (dI a1'))))) (ask2_ok fun a0' a1' h => SaidOk.fn (Fun.weak (.cons (isI.weak h.1) (.cons (isI.weak h.2) .nil)) (refIs_spec _ _)))
theorem r309_c : r309.c = 309 := rfl
open Classical in
theorem r309_ask (a0' a1' : AV) : r309.ask [a0', a1'] = if isI a0' ∧ isI a1' then some (Said.fn (.bool (decide (IsN (dI a0') (dI a1'))))) else none := by unfold r309 Reg.of ask2; exact ite_cl
theorem refRoot_spec (w : Int) : Fun seat 310 [.int .i64 w] (.int .i64 (if Whole w then w / 2 else -1)) := by
  by_cases h : Whole w
  · have h1 := h.le
    have h2 := h.odd
    have w1 : IntKind.i64.wrap (w - 1) = w - 1 := wrap64 _ (by omega) (by omega)
    have w2 : IntKind.i64.wrap ((w - 1).tdiv 2) = w / 2 := by rw [quo2 _ (by omega)]; omega
    refine Fun.of0R [r152] told310 (by simp [il310]) (by simp [idb_patchA]) (by simp [idb_patchA]) 4 ?_
    simp -implicitDefEqProofs only [il310, List.zipIdx_cons, List.zipIdx_nil, leafA, innerA, nodeA, patchA, Leaf.cells, Inner.cells, Node.cells, r152_c, r152_ask, decide_true, decide_false, h, w1, w2, go_sem, Nat.reduceEqDiff, reduceIte, Nat.reduceAdd, Nat.reduceLeDiff, Nat.reduceLT, Nat.reduceSub]
  · refine Fun.of0R [r152] told310 (by simp [il310]) (by simp [idb_patchA]) (by simp [idb_patchA]) 4 ?_
    simp -implicitDefEqProofs only [il310, List.zipIdx_cons, List.zipIdx_nil, leafA, innerA, nodeA, patchA, Leaf.cells, Inner.cells, Node.cells, r152_c, r152_ask, decide_true, decide_false, h, go_sem, Nat.reduceEqDiff, reduceIte, Nat.reduceAdd, Nat.reduceLeDiff, Nat.reduceLT, Nat.reduceSub]
noncomputable def r310 : Reg seat := .of told310 (ask1 (fun a0' => isI a0') fun a0' => .fn (.int .i64 (if Whole (dI a0') then (dI a0') / 2 else -1))) (ask1_ok fun a0' h => SaidOk.fn (Fun.weak (.cons (isI.weak h) .nil) (refRoot_spec _)))
theorem r310_c : r310.c = 310 := rfl
open Classical in
theorem r310_ask (a0' : AV) : r310.ask [a0'] = if isI a0' then some (Said.fn (.int .i64 (if Whole (dI a0') then (dI a0') / 2 else -1))) else none := by unfold r310 Reg.of ask1; exact ite_cl
theorem levF_odd {f x : Nat} (h : x % 2 = 1) : levF (f + 1) x = levF f (x / 2) + 1 := by conv => lhs; unfold levF
                                                                                         rw [if_pos h]
theorem levF_even {f x : Nat} (h : ¬ x % 2 = 1) : levF f x = 0 := by
  cases f with
  | zero => rfl
  | succ f => unfold levF; rw [if_neg h]
theorem refLevel_spec (x : Int) : Fun seat 311 [.int .i64 x] (.int .i64 (level x)) := by
  by_cases h0 : x < 0
  · have e : level x = -1 := if_neg (by omega)
    rw [e]
    refine Fun.of0R [] told311 (by simp [il311]) (by simp [idb_patchA]) (by simp [idb_patchA]) 4 ?_
    simp -implicitDefEqProofs only [il311, List.zipIdx_cons, List.zipIdx_nil, leafA, innerA, nodeA, patchA, Leaf.cells, Inner.cells, Node.cells, decide_true, decide_false, h0, go_sem, Nat.reduceEqDiff, reduceIte, Nat.reduceAdd, Nat.reduceLeDiff, Nat.reduceLT, Nat.reduceSub]
  by_cases h1 : x > 126
  · have e : level x = -1 := if_neg (by omega)
    rw [e]
    refine Fun.of0R [] told311 (by simp [il311]) (by simp [idb_patchA]) (by simp [idb_patchA]) 4 ?_
    simp -implicitDefEqProofs only [il311, List.zipIdx_cons, List.zipIdx_nil, leafA, innerA, nodeA, patchA, Leaf.cells, Inner.cells, Node.cells, decide_true, decide_false, h0, h1, go_sem, Nat.reduceEqDiff, reduceIte, Nat.reduceAdd, Nat.reduceLeDiff, Nat.reduceLT, Nat.reduceSub]
  have e : level x = lev x.toNat := if_pos (by omega)
  rw [e]
  obtain ⟨q, rfl⟩ : ∃ q : Nat, x = q := ⟨x.toNat, by omega⟩
  rw [Int.toNat_natCast]
  refine Fun.of0R [] told311 (by simp [il311]) (by simp [idb_patchA]) (by simp [idb_patchA]) 4 ?_
  simp -implicitDefEqProofs only [il311, List.zipIdx_cons, List.zipIdx_nil, leafA, innerA, nodeA, patchA, Leaf.cells, Inner.cells, Node.cells, decide_true, decide_false, h0, h1, go_sem, Nat.reduceEqDiff, reduceIte, Nat.reduceAdd, Nat.reduceLeDiff, Nat.reduceLT, Nat.reduceSub]
  refine WP.loop0 (fun s : Nat × Nat => s.1 ≤ 7 ∧ s.2 < 2 ^ (7 - s.1) ∧ levF (7 - s.1) s.2 + s.1 = lev q) (fun s => [(0, .int .i64 (s.2 : Nat)), (3, .int .i64 (s.1 : Nat))]) (fun s => 7 - s.1) (0, q) ⟨by simp, by simp; omega, rfl⟩ (fun s _ => by simp ) (by simp ) ?_
  rintro ⟨k, y⟩ ⟨hk, hy, hl⟩
  simp only at hk hy hl
  have tm : ((y : Nat) : Int).tmod 2 = ((y % 2 : Nat) : Int) := by rw [Int.tmod_eq_emod_of_nonneg (by omega)]; omega
  refine wpc_soundR [] ?_
  by_cases ho : y % 2 = 1
  · have hk7 : k < 7 := by
      rcases Nat.lt_or_ge k 7 with h | h
      · exact h
      · have : k = 7 := by omega
        subst this; simp at hy; subst hy; simp at ho
    have hg : (((y % 2 : Nat) : Int) = 1) = True := eq_true (by omega)
    have hb : y < 2 ^ 7 := Nat.lt_of_lt_of_le hy (Nat.pow_le_pow_right (by decide) (by omega))
    have q2 : IntKind.i64.wrap (((y : Nat) : Int).tdiv 2) = ((y / 2 : Nat) : Int) := by rw [quo2 _ (by omega)]; omega
    simp -implicitDefEqProofs only [leafA, innerA, nodeA, patchA, Leaf.cells, Inner.cells, Node.cells, decide_true, decide_false, tm, hg, q2, wrapS (show k < 9223372036854775807 by omega), go_sem, Nat.reduceEqDiff, reduceIte, Nat.reduceAdd, Nat.reduceLeDiff, Nat.reduceLT, Nat.reduceSub]
    obtain ⟨j, hj⟩ : ∃ j, 7 - k = j + 1 := ⟨6 - k, by omega⟩
    rw [hj] at hl hy
    rw [levF_odd ho] at hl
    refine ⟨(k + 1, y / 2), ⟨by simp only; omega, ?_, ?_⟩, by simp only; omega, by simp ⟩
    · simp only
      rw [show 7 - (k + 1) = j by omega]
      rw [Nat.pow_succ] at hy; omega
    · simp only
      rw [show 7 - (k + 1) = j by omega]; omega
  · have hg : ¬ (((y % 2 : Nat) : Int) = 1) := by omega
    rw [levF_even ho] at hl
    simp -implicitDefEqProofs only [leafA, innerA, nodeA, patchA, Leaf.cells, Inner.cells, Node.cells, decide_true, decide_false, tm, hg, go_sem, Nat.reduceEqDiff, reduceIte, Nat.reduceAdd, Nat.reduceLeDiff, Nat.reduceLT, Nat.reduceSub]
    first | omega | (simp; omega)
noncomputable def r311 : Reg seat := .of told311 (ask1 (fun a0' => isI a0') fun a0' => .fn (.int .i64 (level (dI a0')))) (ask1_ok fun a0' h => SaidOk.fn (Fun.weak (.cons (isI.weak h) .nil) (refLevel_spec _)))
theorem r311_c : r311.c = 311 := rfl
open Classical in
theorem r311_ask (a0' : AV) : r311.ask [a0'] = if isI a0' then some (Said.fn (.int .i64 (level (dI a0')))) else none := by unfold r311 Reg.of ask1; exact ite_cl
theorem power_spec (k : Nat) (hk : k ≤ 7) : Fun seat 312 [.int .i64 (k : Int)] (.int .i64 (2 ^ k)) := by
  refine Fun.of0R [] told312 (by simp [il312]) (by simp [idb_patchA]) (by simp [idb_patchA]) 4 ?_
  simp -implicitDefEqProofs only [il312, List.zipIdx_cons, List.zipIdx_nil, leafA, innerA, nodeA, patchA, Leaf.cells, Inner.cells, Node.cells, decide_true, decide_false, go_sem, Nat.reduceEqDiff, reduceIte, Nat.reduceAdd, Nat.reduceLeDiff, Nat.reduceLT, Nat.reduceSub]
  refine WP.loop0 (fun i => i ≤ k) (fun i => [(0, .int .i64 (k : Int)), (3, .int .i64 (2 ^ i)), (4, .int .i64 (i : Nat))]) (fun i => k - i) 0 (Nat.zero_le _) (fun i _ => by simp ) (by simp ) ?_
  intro i hi
  refine wpc_soundR [] ?_
  by_cases hlt : (i : Int) < (k : Int)
  · have hb : (2 : Int) ^ i ≤ 128 ∧ (0 : Int) ≤ 2 ^ i := by
      have h2 : ∀ j, j < 8 → (2 : Int) ^ j ≤ 128 ∧ (0 : Int) ≤ 2 ^ j := by decide
      exact h2 i (by omega)
    have w1 : IntKind.i64.wrap (2 * 2 ^ i) = 2 ^ (i + 1) := by rw [wrap64 _ (by omega) (by omega), Int.pow_succ]; omega
    simp -implicitDefEqProofs only [leafA, innerA, nodeA, patchA, Leaf.cells, Inner.cells, Node.cells, decide_true, decide_false, hlt, w1, wrapS (show i < 9223372036854775807 by omega), go_sem, Nat.reduceEqDiff, reduceIte, Nat.reduceAdd, Nat.reduceLeDiff, Nat.reduceLT, Nat.reduceSub]
    exact ⟨i + 1, by omega, by omega, by simp ⟩
  · have e : i = k := by omega
    subst e
    simp -implicitDefEqProofs only [leafA, innerA, nodeA, patchA, Leaf.cells, Inner.cells, Node.cells, decide_true, decide_false, hlt, go_sem, Nat.reduceEqDiff, reduceIte, Nat.reduceAdd, Nat.reduceLeDiff, Nat.reduceLT, Nat.reduceSub]
theorem powerI_spec (k : Int) (h : 0 ≤ k ∧ k ≤ 7) : Fun seat 312 [.int .i64 k] (.int .i64 (2 ^ k.toNat)) := by
  have := power_spec k.toNat (by omega)
  rwa [show ((k.toNat : Nat) : Int) = k by omega] at this
noncomputable def r312 : Reg seat := .of told312 (ask1 (fun a0' => isI a0' ∧ 0 ≤ (dI a0') ∧ (dI a0') ≤ 7) fun a0' => .fn (.int .i64 (2 ^ (dI a0').toNat))) (ask1_ok fun a0' h => SaidOk.fn (Fun.weak (.cons (isI.weak h.1) .nil) (powerI_spec _ h.2)))
theorem r312_c : r312.c = 312 := rfl
open Classical in
theorem r312_ask (a0' : AV) : r312.ask [a0'] = if isI a0' ∧ 0 ≤ (dI a0') ∧ (dI a0') ≤ 7 then some (Said.fn (.int .i64 (2 ^ (dI a0').toNat))) else none := by unfold r312 Reg.of ask1; exact ite_cl
theorem refParent_spec (x w : Int) : Fun seat 305 [.int .i64 x, .int .i64 w] (.int .i64 (parI x w)) := by
  by_cases h : IsN x w
  rotate_left
  · have e : parI x w = -1 := if_neg h
    rw [e]
    refine Fun.of0R [r309] told305 (by simp [il305]) (by simp [idb_patchA]) (by simp [idb_patchA]) 4 ?_
    simp -implicitDefEqProofs only [il305, List.zipIdx_cons, List.zipIdx_nil, leafA, innerA, nodeA, patchA, Leaf.cells, Inner.cells, Node.cells, r309_c, r309_ask, decide_true, decide_false, h, go_sem, Nat.reduceEqDiff, reduceIte, Nat.reduceAdd, Nat.reduceLeDiff, Nat.reduceLT, Nat.reduceSub]
  have hl := lev_le h
  have hb := h.lt
  have e := level_in h
  have hw := h.1
  unfold parI
  rw [if_pos h]
  by_cases hr : x = w / 2
  · rw [if_pos hr]
    refine Fun.of0R [r309, r310] told305 (by simp [il305]) (by simp [idb_patchA]) (by simp [idb_patchA]) 4 ?_
    simp -implicitDefEqProofs only [il305, List.zipIdx_cons, List.zipIdx_nil, leafA, innerA, nodeA, patchA, Leaf.cells, Inner.cells, Node.cells, r309_c, r309_ask, r310_c, r310_ask, decide_true, decide_false, h, hw, eq_true hr, go_sem, Nat.reduceEqDiff, reduceIte, Nat.reduceAdd, Nat.reduceLeDiff, Nat.reduceLT, Nat.reduceSub]
  · rw [if_neg hr]
    obtain ⟨q1, q2, q3, q4⟩ := par_ref h
    rw [q2]
    have w1 : IntKind.i64.wrap (((lev x.toNat : Nat) : Int) + 1) = ((lev x.toNat : Nat) : Int) + 1 := wrap64 _ (by omega) (by omega)
    have p1 : 0 ≤ ((lev x.toNat : Nat) : Int) + 1 ∧ ((lev x.toNat : Nat) : Int) + 1 ≤ 7 := by omega
    have p2 : 0 ≤ ((lev x.toNat : Nat) : Int) ∧ ((lev x.toNat : Nat) : Int) ≤ 7 := by omega
    have t1 : (((lev x.toNat : Nat) : Int) + 1).toNat = lev x.toNat + 1 := by omega
    have t2 : (((lev x.toNat : Nat) : Int)).toNat = lev x.toNat := by omega
    have w2 : IntKind.i64.wrap (x + 2 ^ lev x.toNat) = x + 2 ^ lev x.toNat := wrap64 _ (by omega) (by omega)
    have w3 : IntKind.i64.wrap (x - 2 ^ lev x.toNat) = x - 2 ^ lev x.toNat := wrap64 _ (by omega) (by omega)
    have nz : ¬ (2 : Int) ^ (lev x.toNat + 1) = 0 := by rw [Int.pow_succ]; omega
    by_cases hp : (x / 2 ^ (lev x.toNat + 1)).tmod 2 = 0
    · rw [if_pos hp]
      refine Fun.of0R [r309, r310, r311, r312] told305 (by simp [il305]) (by simp [idb_patchA]) (by simp [idb_patchA]) 4 ?_
      simp -implicitDefEqProofs only [il305, List.zipIdx_cons, List.zipIdx_nil, leafA, innerA, nodeA, patchA, Leaf.cells, Inner.cells, Node.cells, r309_c, r309_ask, r310_c, r310_ask, r311_c, r311_ask, r312_c, r312_ask, decide_true, decide_false, h, hw, hr, e, w1, p1, p2, t1, t2, w2, q1, eq_true hp, nz, go_sem, Nat.reduceEqDiff, reduceIte, Nat.reduceAdd, Nat.reduceLeDiff, Nat.reduceLT, Nat.reduceSub]
    · rw [if_neg hp]
      refine Fun.of0R [r309, r310, r311, r312] told305 (by simp [il305]) (by simp [idb_patchA]) (by simp [idb_patchA]) 4 ?_
      simp -implicitDefEqProofs only [il305, List.zipIdx_cons, List.zipIdx_nil, leafA, innerA, nodeA, patchA, Leaf.cells, Inner.cells, Node.cells, r309_c, r309_ask, r310_c, r310_ask, r311_c, r311_ask, r312_c, r312_ask, decide_true, decide_false, h, hw, hr, e, w1, p1, p2, t1, t2, w3, q1, hp, nz, go_sem, Nat.reduceEqDiff, reduceIte, Nat.reduceAdd, Nat.reduceLeDiff, Nat.reduceLT, Nat.reduceSub]
noncomputable def r305 : Reg seat := .of told305 (ask2 (fun a0' a1' => isI a0' ∧ isI a1') fun a0' a1' => .fn (.int .i64 (parI (dI a0') (dI a1')))) (ask2_ok fun a0' a1' h => SaidOk.fn (Fun.weak (.cons (isI.weak h.1) (.cons (isI.weak h.2) .nil)) (refParent_spec _ _)))
theorem r305_c : r305.c = 305 := rfl
open Classical in
theorem r305_ask (a0' a1' : AV) : r305.ask [a0', a1'] = if isI a0' ∧ isI a1' then some (Said.fn (.int .i64 (parI (dI a0') (dI a1')))) else none := by unfold r305 Reg.of ask2; exact ite_cl
theorem refDirect_spec (x w : Int) : Fun seat 301 [.int .i64 x, .int .i64 w] (ints (directI x w)) := by
  have hdl := dir_len x w
  refine Fun.of0W told301 (by simp [il301]) (by simp ) (by simp ) 4 ?_
  simp only [il301, List.zipIdx_cons, List.zipIdx_nil, Nat.zero_add]
  refine WP.seqR [] fun K hK => ?_
  simp -implicitDefEqProofs only [leafA, innerA, nodeA, patchA, Leaf.cells, Inner.cells, Node.cells, decide_true, decide_false, go_sem, Nat.reduceEqDiff, reduceIte, Nat.reduceAdd, Nat.reduceLeDiff, Nat.reduceLT, Nat.reduceSub]
  refine hK _ ?_
  clear hK K
  refine WP.seqR [] fun K hK => ?_
  simp -implicitDefEqProofs only [leafA, innerA, nodeA, patchA, Leaf.cells, Inner.cells, Node.cells, decide_true, decide_false, go_sem, Nat.reduceEqDiff, reduceIte, Nat.reduceAdd, Nat.reduceLeDiff, Nat.reduceLT, Nat.reduceSub]
  refine hK _ (WP.adopt 5 1 rfl ?_)
  rw [upd_envL]
  clear hK K
  refine wpc_soundR [r305] ?_
  simp -implicitDefEqProofs only [leafA, innerA, nodeA, patchA, Leaf.cells, Inner.cells, Node.cells, r305_c, r305_ask, decide_true, decide_false, go_sem, Nat.reduceEqDiff, reduceIte, Nat.reduceAdd, Nat.reduceLeDiff, Nat.reduceLT, Nat.reduceSub]
  refine WP.loopG (fun s : Nat × Int => s.1 ≤ (directI x w).length ∧ (directI x w).drop s.1 = ups s.2 w ∧ (s.2 < 0 ∨ IsN s.2 w)) (fun s => [(1, .int .i64 w), (5, .own 0 s.1 0 ((directI x w).take s.1).length), (6, .int .i64 s.2)]) (fun s => [.arr 1 s.1 (((directI x w).take s.1).map (AV.int .i64))]) (fun s => (directI x w).length - s.1) (0, parI x w)
    ⟨Nat.zero_le _, by rw [List.drop_zero, direct_eq], by
      by_cases h : IsN (parI x w) w
      · exact .inr h
      · exact .inl (parI_neg h)⟩
    (fun s _ => ⟨by simp, by simp , fun e he => by simp only [List.mem_cons, List.not_mem_nil, or_false] at he; subst he; exact encI64.entB _ _ _ _⟩) (by simp ) ?_
  rintro ⟨k, p⟩ ⟨hk, hd, hp⟩
  simp only at hk hd hp
  generalize directI x w = D at *
  refine wpc_soundR [r305] ?_
  by_cases hn : p < 0
  · have g : ¬ p ≥ 0 := by omega
    rw [ups_not (fun h => by have := h.2.1; omega)] at hd
    have hke : k = D.length := by
      have := congrArg List.length hd
      simp at this; omega
    subst hke
    simp -implicitDefEqProofs only [leafA, innerA, nodeA, patchA, Leaf.cells, Inner.cells, Node.cells, r305_c, r305_ask, decide_true, decide_false, g, List.take_length, go_sem, Nat.reduceEqDiff, reduceIte, Nat.reduceAdd, Nat.reduceLeDiff, Nat.reduceLT, Nat.reduceSub]
  · have hN : IsN p w := hp.resolve_left hn
    have g : p ≥ 0 := by omega
    rw [ups_step hN] at hd
    have hk' : k < D.length := by
      have := congrArg List.length hd
      simp at this; omega
    rw [List.drop_eq_getElem_cons hk'] at hd
    obtain ⟨e1, e2⟩ := List.cons.inj hd
    have m1 : (D.take k).length + 1 ≤ maxRow := by unfold maxRow; rw [List.length_take]; omega
    have ts : D.take (k + 1) = D.take k ++ [p] := by rw [List.take_succ_eq_append_getElem hk', e1]
    simp -implicitDefEqProofs only [leafA, innerA, nodeA, patchA, Leaf.cells, Inner.cells, Node.cells, r305_c, r305_ask, decide_true, decide_false, g, m1, go_sem, Nat.reduceEqDiff, reduceIte, Nat.reduceAdd, Nat.reduceLeDiff, Nat.reduceLT, Nat.reduceSub]
    refine ⟨(k + 1, parI p w), ⟨hk', e2, ?_⟩, by simp only; omega, by simp [ts], by simp [ts]⟩
    by_cases h : IsN (parI p w) w
    · exact .inr h
    · exact .inl (parI_neg h)
noncomputable def r301 : Reg seat := .of told301 (ask2 (fun a0' a1' => isI a0' ∧ isI a1') fun a0' a1' => .fn (ints (directI (dI a0') (dI a1')))) (ask2_ok fun a0' a1' h => SaidOk.fn (Fun.weak (.cons (isI.weak h.1) (.cons (isI.weak h.2) .nil)) (refDirect_spec _ _)))
theorem r301_c : r301.c = 301 := rfl
open Classical in
theorem r301_ask (a0' a1' : AV) : r301.ask [a0', a1'] = if isI a0' ∧ isI a1' then some (Said.fn (ints (directI (dI a0') (dI a1')))) else none := by unfold r301 Reg.of ask2; exact ite_cl

end Go.Proofs.YtihhinbjhiankaaGreatDoor.Al

set_option linter.unusedSimpArgs false
set_option linter.unusedVariables false
namespace Go.Proofs.YtihhinbjhiankaaGreatDoor.Al
open Go
variable {S : Seat} {m : List ME} {I X : Nat → Prop} {w : World} {H : List Entry}

end Go.Proofs.YtihhinbjhiankaaGreatDoor.Al

set_option linter.unusedSimpArgs false
set_option linter.unusedVariables false
namespace Go.Proofs.YtihhinbjhiankaaGreatDoor.Al
open Go
variable {S : Seat} {m : List ME} {I X : Nat → Prop} {w : World} {H : List Entry}

theorem runW_then {T : List (Reg S)} {r : Option Nat} {N : Nat} {l2 : List IOper} {Q : St → Prop} : ∀ {l : List IOper} {st : St}, runW S T l (fun st => SRun S r N l2 Q st) st → SRun S r N (l ++ l2) Q st
  | [], st, h => by simpa [runW] using h
  | ⟨d, op, g, aft⟩ :: l, ⟨env, H⟩, h => by
    simp only [runW] at h
    split at h
    · rename_i hg
      split at h
      · rename_i f xs
        rcases h.sound with ⟨c, first, captured, R, h1, h2, h3, h4⟩ | ⟨id, R, h1, h3, h4⟩
        · exact .call (o := ⟨d, .call f xs, g, aft⟩) hg rfl h1 h2 h3 fun v H' hR => runW_then (h4 v H' hR)
        · exact .yield (o := ⟨d, .call f xs, g, aft⟩) hg rfl h1 h3 fun v H' hR => runW_then (h4 v H' hR)
      · rename_i f nm xs
        obtain ⟨t, v, c, R, rv, h1, h2, h3, h4, h5⟩ := h
        exact .invoke (o := ⟨d, .invoke f nm xs, g, aft⟩) hg rfl ⟨t, v, c, R, rv, h1, h2, h3, h4, fun v H' hR => runW_then (h5 v H' hR)⟩
      · split at h
        · rename_i v H' he
          exact .op (o := ⟨d, op, g, aft⟩) hg he (runW_then h)
        · exact h.elim
    · rename_i hg
      exact .skip (o := ⟨d, op, g, aft⟩) hg (runW_then h)
    · exact h.elim
theorem WP.regionAt (T : List (Reg S)) (n : Nat) {r : Option Nat} {N b : Nat} {l : List IOper} {Q : Exit → St → Prop} {st : St} (h : runW S T (l.take n) (fun st => SRun S r N (l.drop n) (Q .normal) st) st) : WP S r N b (.region l false) Q st :=
  WP.region (by have := runW_then h; rwa [List.take_append_drop] at this)

end Go.Proofs.YtihhinbjhiankaaGreatDoor.Al

set_option linter.unusedSimpArgs false
set_option linter.unusedVariables false
namespace Go.Proofs.YtihhinbjhiankaaGreatDoor.Al
open Go
attribute [local go_sem] W_mv W_pick W_alloc W_box W_build W_bslice W_load W_store W_bin W_isnil W_un W_convI W_convS W_mkiface W_mkfunc W_slice W_faddr W_iaddr W_idxA W_extract W_len W_min W_max W_append thenQ_normal thenQ_exit thenQ_ret blockQ_normal blockQ_ret blockQ_exit wpc_skip wpc_region wpc_draw wpc_seq wpc_cond wpc_block wpc_exit wpc_ret wpc_loop wpc_range condW_true condW_false condW_dec condW_any W_nil W_call resW_some evalOp Opd.ev updo_envL updo_none setL_cons setL_nil envL_cons Option.map_some Option.bind_some evBin evInt List.map_cons List.map_nil Option.pure_def Option.bind_eq_bind W_grd' grdW_tt grdW_ff grdW_tf grdW_ft grdW_tup grdW_dt grdW_df L_mv L_load L_bin L_un L_faddr L_iaddr L_nil L_call lresW_some upd_envL evUn beq_dec bne_dec leaves_ret1 leaves_ret0 leaves_end0 rowLen_ints load_iptr0 not_dec heap_get0 heap_get1 heap_set0 heap_set1 heap_len1 heap_app bslice1_int seen_one0 Nat.sub_zero Bool.not_true Bool.not_false List.length_nil List.length_cons List.nil_append List.cons_append Nat.zero_add canon_ptrI canon_bool canon_tup canon_agg canon_ints' canon_ints0 rowLen_octs seen_octs canon_octs' rowLen_nodes canon_nodes' rowLen_nodes0 rowLen_nodes3 seen_list cells_int oneIn_int cells_bool oneIn_bool cells_list oneIn_list cells_func oneIn_func cells_own cells_ptr cells_agg oneIn_own0 oneIn_own1 seenL1 seenM1 oneIn_ptr2 seenL2 oneIn_own3 seenL3 cells_ints oneIn_ints cells_octs oneIn_octs cells_nodes oneIn_nodes ldB0 ldA0 adB0 stB0 ldB1 ldA1 adB1 stB1 ldB2 ldA2 adB2 stB2 ldB3 stB3 List.getElem?_cons_zero List.getElem?_cons_succ beq_self_eq_true splice List.take_zero List.take_succ_cons List.drop_zero List.drop_succ_cons List.append_nil List.set_cons_zero List.set_cons_succ List.all_cons List.all_nil Bool.and_self and_self and_true true_and Nat.lt_irrefl Nat.zero_lt_one Nat.le_refl fillA evNil notA Bool.false_eq_true evMin_int evMax_int Option.map_none freezeP_all_nil freezeP_all_cons frzE_box frzE_arr foldA List.foldlM_cons List.foldlM_nil callW_f lcallW_f ansW_fn ansW_own lansW_fn ansW_none tab_cons tab_nil dI_int dB_bool dO_octs dO_ints dO_list dO_nil dN_nodeA dLf_agg dIn_agg dN_agg dNs_nodes dNs_nil isI_int isB_bool isO_octs isO_nil isO_list isS_ints isS_nil isNs_nodes isNs_nil isN_nodeA isLf_agg isIn_agg isN_agg leaf_eta inner_eta node_eta leaf_zero inner_zero decide_eq_true_eq decide_eq_false_iff_not eq_self forall_const true_implies false_implies Bool.not_eq_true' Bool.not_eq_false' Bool.true_eq_false implies_true ne_eq ldI ldIA adI AV.tup.injEq AV.agg.injEq List.cons.injEq AV.int.injEq AV.bool.injEq nodes_inj octs_inj ints_inj nil_nodes nil_octs nil_ints canon_nilL decide_eq_decide two_ne four_ne b256_ne lendA_own lendA_none isO_own false_and and_false Q_nil Q_l Q_g Q_h Q_grd qgrdW_b lightD_some heavyD_some readD_some fnD_some callL_f Q_call pendOk_nil pendOk_cons pastOk_nil Q_mv Q_pick Q_bin Q_extract Q_min Q_load Q_slice Q_len H_store free_mv free_pick free_bin free_extract free_min free_load free_slice free_len callW_y List.length_map List.length_set leaves_r evR_some evRess1 evRess2 evRess3 evRes_t evRes_c nz_kind nz_enc nz_cred nz_source nz_parent nz_ienc nz_hash nz_un true_or or_true bsl_node appI appO canon_rowI canon_rowO not_false_eq_true not_true_eq_false ldE_a ldE_c adE_b stE_b onP_b
attribute [local go_sem low] condW_b ldP adP stP onO
attribute [local simp] envL_cons envL_nil idb_int idb_bool idb_ints idb_nil idb_own idb_ptr idb_octs idb_nodes idb_leafA idb_innerA idb_nodeA idb_agg idb_tup idb_iptr idb_fn entB_dead entB_box
end Go.Proofs.YtihhinbjhiankaaGreatDoor.Al

set_option linter.unusedSimpArgs false
set_option linter.unusedVariables false
namespace Go.Proofs.YtihhinbjhiankaaGreatDoor.Al
open Go
attribute [local go_sem] W_mv W_pick W_alloc W_box W_build W_bslice W_load W_store W_bin W_isnil W_un W_convI W_convS W_mkiface W_mkfunc W_slice W_faddr W_iaddr W_idxA W_extract W_len W_min W_max W_append thenQ_normal thenQ_exit thenQ_ret blockQ_normal blockQ_ret blockQ_exit wpc_skip wpc_region wpc_draw wpc_seq wpc_cond wpc_block wpc_exit wpc_ret wpc_loop wpc_range condW_true condW_false condW_dec condW_any W_nil W_call resW_some evalOp Opd.ev updo_envL updo_none setL_cons setL_nil envL_cons Option.map_some Option.bind_some evBin evInt List.map_cons List.map_nil Option.pure_def Option.bind_eq_bind W_grd' grdW_tt grdW_ff grdW_tf grdW_ft grdW_tup grdW_dt grdW_df L_mv L_load L_bin L_un L_faddr L_iaddr L_nil L_call lresW_some upd_envL evUn beq_dec bne_dec leaves_ret1 leaves_ret0 leaves_end0 rowLen_ints load_iptr0 not_dec heap_get0 heap_get1 heap_set0 heap_set1 heap_len1 heap_app bslice1_int seen_one0 Nat.sub_zero Bool.not_true Bool.not_false List.length_nil List.length_cons List.nil_append List.cons_append Nat.zero_add canon_ptrI canon_bool canon_tup canon_agg canon_ints' canon_ints0 rowLen_octs seen_octs canon_octs' rowLen_nodes canon_nodes' rowLen_nodes0 rowLen_nodes3 seen_list cells_int oneIn_int cells_bool oneIn_bool cells_list oneIn_list cells_func oneIn_func cells_own cells_ptr cells_agg oneIn_own0 oneIn_own1 seenL1 seenM1 oneIn_ptr2 seenL2 oneIn_own3 seenL3 cells_ints oneIn_ints cells_octs oneIn_octs cells_nodes oneIn_nodes ldB0 ldA0 adB0 stB0 ldB1 ldA1 adB1 stB1 ldB2 ldA2 adB2 stB2 ldB3 stB3 List.getElem?_cons_zero List.getElem?_cons_succ beq_self_eq_true splice List.take_zero List.take_succ_cons List.drop_zero List.drop_succ_cons List.append_nil List.set_cons_zero List.set_cons_succ List.all_cons List.all_nil Bool.and_self and_self and_true true_and Nat.lt_irrefl Nat.zero_lt_one Nat.le_refl fillA evNil notA Bool.false_eq_true evMin_int evMax_int Option.map_none freezeP_all_nil freezeP_all_cons frzE_box frzE_arr foldA List.foldlM_cons List.foldlM_nil callW_f lcallW_f ansW_fn ansW_own lansW_fn ansW_none tab_cons tab_nil dI_int dB_bool dO_octs dO_ints dO_list dO_nil dN_nodeA dLf_agg dIn_agg dN_agg dNs_nodes dNs_nil isI_int isB_bool isO_octs isO_nil isO_list isS_ints isS_nil isNs_nodes isNs_nil isN_nodeA isLf_agg isIn_agg isN_agg leaf_eta inner_eta node_eta leaf_zero inner_zero decide_eq_true_eq decide_eq_false_iff_not eq_self forall_const true_implies false_implies Bool.not_eq_true' Bool.not_eq_false' Bool.true_eq_false implies_true ne_eq ldI ldIA adI AV.tup.injEq AV.agg.injEq List.cons.injEq AV.int.injEq AV.bool.injEq nodes_inj octs_inj ints_inj nil_nodes nil_octs nil_ints canon_nilL decide_eq_decide two_ne four_ne b256_ne lendA_own lendA_none isO_own false_and and_false Q_nil Q_l Q_g Q_h Q_grd qgrdW_b lightD_some heavyD_some readD_some fnD_some callL_f Q_call pendOk_nil pendOk_cons pastOk_nil Q_mv Q_pick Q_bin Q_extract Q_min Q_load Q_slice Q_len H_store free_mv free_pick free_bin free_extract free_min free_load free_slice free_len callW_y List.length_map List.length_set leaves_r evR_some evRess1 evRess2 evRess3 evRes_t evRes_c nz_kind nz_enc nz_cred nz_source nz_parent nz_ienc nz_hash nz_un true_or or_true bsl_node appI appO canon_rowI canon_rowO not_false_eq_true not_true_eq_false ldE_a ldE_c adE_b stE_b onP_b
attribute [local go_sem low] condW_b ldP adP stP onO
attribute [local simp] envL_cons envL_nil idb_int idb_bool idb_ints idb_nil idb_own idb_ptr idb_octs idb_nodes idb_leafA idb_innerA idb_nodeA idb_agg idb_tup idb_iptr idb_fn entB_dead entB_box
theorem refLast_spec (t : List Node) (ht : Tree.Ok t) : Fun seat 297 [nodes t] (.int .i64 (lastT t)) := by
  have hl := known_len t
  have c0 : lastN (fun x => decide ((nodeAt (known t) x).kind ≠ 0)) (known t).length = none → lastT t = -1 := fun h => by rw [lastT, h]; rfl
  have c1 : ∀ k : Nat, lastN (fun x => decide ((nodeAt (known t) x).kind ≠ 0)) (known t).length = some k → lastT t = k := fun k h => by rw [lastT, h]; rfl
  obtain ⟨a, ha⟩ : ∃ a, known t = a := ⟨_, rfl⟩
  rw [ha] at hl c0 c1
  obtain ⟨r, hr⟩ : ∃ r, lastT t = r := ⟨_, rfl⟩
  rw [hr] at c0 c1 ⊢
  have w1 : IntKind.i64.wrap ((a.length : Int) - 1) = (a.length : Int) - 1 - (0 : Nat) := by rw [wrap64 _ (by omega) (by omega)]; omega
  refine Fun.of0R [r137] told297 (by simp [il297]) (by simp [idb_patchA]) (by simp [idb_patchA]) 4 ?_
  simp -implicitDefEqProofs only [il297, List.zipIdx_cons, List.zipIdx_nil, leafA, innerA, nodeA, patchA, Leaf.cells, Inner.cells, Node.cells, r137_c, r137_ask, decide_true, decide_false, ht, ha, w1, go_sem, Nat.reduceEqDiff, reduceIte, Nat.reduceAdd, Nat.reduceLeDiff, Nat.reduceLT, Nat.reduceSub]
  refine WP.loop0 (fun j => j ≤ a.length ∧ ∀ x, a.length - j ≤ x → x < a.length → (nodeAt a x).kind = 0) (fun j => [(3, nodes a), (4, .int .i64 ((a.length : Int) - 1 - (j : Nat)))]) (fun j => a.length - j) 0 ⟨Nat.zero_le _, fun x h h2 => by omega⟩ (fun j _ => by simp ) (by simp ) ?_
  rintro j ⟨hj, hno⟩
  refine wpc_soundR [] ?_
  by_cases hlt : j < a.length
  · obtain ⟨p, hp⟩ : ∃ p : Nat, (a.length : Int) - 1 - (j : Nat) = p := ⟨a.length - 1 - j, by omega⟩
    have hpa : p < a.length := by omega
    have g0 : (p : Int) ≥ 0 := by omega
    have w2 : IntKind.i64.wrap ((p : Int) - 1) = (a.length : Int) - 1 - ((j + 1 : Nat) : Int) := by rw [wrap64 _ (by omega) (by omega)]; omega
    have e := nodeAt_lt hpa
    rw [hp]
    by_cases hk : a[p].kind = 0
    · simp -implicitDefEqProofs only [leafA, innerA, nodeA, patchA, Leaf.cells, Inner.cells, Node.cells, decide_true, decide_false, g0, fun H => ix_nodes H a p hpa, eq_true hk, ne_eq, not_true_eq_false, w2, go_sem, Nat.reduceEqDiff, reduceIte, Nat.reduceAdd, Nat.reduceLeDiff, Nat.reduceLT, Nat.reduceSub]
      refine ⟨j + 1, ⟨by omega, fun x h1 h2 => ?_⟩, by omega, by simp ⟩
      by_cases hx : x = p
      · subst hx; rw [e]; exact hk
      · exact hno x (by omega) h2
    · have hz : r = (p : Int) := c1 p (lastN_some (by rw [e]; simpa using hk) hpa fun x h1 h2 => by rw [hno x (by omega) h2]; rfl)
      rw [hz]
      simp -implicitDefEqProofs only [leafA, innerA, nodeA, patchA, Leaf.cells, Inner.cells, Node.cells, decide_true, decide_false, g0, fun H => ix_nodes H a p hpa, hk, ne_eq, not_false_eq_true, go_sem, Nat.reduceEqDiff, reduceIte, Nat.reduceAdd, Nat.reduceLeDiff, Nat.reduceLT, Nat.reduceSub]
  · have g0 : ¬ (a.length : Int) - 1 - (j : Nat) ≥ 0 := by omega
    have := c0 (lastN_none fun x hx => by rw [hno x (by omega) hx]; rfl)
    subst this
    simp -implicitDefEqProofs only [leafA, innerA, nodeA, patchA, Leaf.cells, Inner.cells, Node.cells, decide_true, decide_false, g0, go_sem, Nat.reduceEqDiff, reduceIte, Nat.reduceAdd, Nat.reduceLeDiff, Nat.reduceLT, Nat.reduceSub]
noncomputable def r297 : Reg seat := .of told297 (ask1 (fun a0' => isNs a0' ∧ Tree.Ok (dNs a0')) fun a0' => .fn (.int .i64 (lastT (dNs a0')))) (ask1_ok fun a0' h => SaidOk.fn (Fun.weak (.cons (isNs.weak h.1) .nil) (refLast_spec _ h.2)))
theorem r297_c : r297.c = 297 := rfl
open Classical in
theorem r297_ask (a0' : AV) : r297.ask [a0'] = if isNs a0' ∧ Tree.Ok (dNs a0') then some (Said.fn (.int .i64 (lastT (dNs a0')))) else none := by unfold r297 Reg.of ask1; exact ite_cl
end Go.Proofs.YtihhinbjhiankaaGreatDoor.Al

set_option linter.unusedSimpArgs false
set_option linter.unusedVariables false
namespace Go.Proofs.YtihhinbjhiankaaGreatDoor.Al
open Go
attribute [local go_sem] W_mv W_pick W_alloc W_box W_build W_bslice W_load W_store W_bin W_isnil W_un W_convI W_convS W_mkiface W_mkfunc W_slice W_faddr W_iaddr W_idxA W_extract W_len W_min W_max W_append thenQ_normal thenQ_exit thenQ_ret blockQ_normal blockQ_ret blockQ_exit wpc_skip wpc_region wpc_draw wpc_seq wpc_cond wpc_block wpc_exit wpc_ret wpc_loop wpc_range condW_true condW_false condW_dec condW_any W_nil W_call resW_some evalOp Opd.ev updo_envL updo_none setL_cons setL_nil envL_cons Option.map_some Option.bind_some evBin evInt List.map_cons List.map_nil Option.pure_def Option.bind_eq_bind W_grd' grdW_tt grdW_ff grdW_tf grdW_ft grdW_tup grdW_dt grdW_df L_mv L_load L_bin L_un L_faddr L_iaddr L_nil L_call lresW_some upd_envL evUn beq_dec bne_dec leaves_ret1 leaves_ret0 leaves_end0 rowLen_ints load_iptr0 not_dec heap_get0 heap_get1 heap_set0 heap_set1 heap_len1 heap_app bslice1_int seen_one0 Nat.sub_zero Bool.not_true Bool.not_false
attribute [local simp] envL_cons envL_nil idb_int idb_bool idb_ints idb_nil idb_own idb_ptr
theorem has_spec (l : List Int) (i : Int) : Fun seat 14 [ints l, .int .i64 i] (.bool (l.contains i)) := by
  intro H
  refine ACall.bnd (t := false) (xs := l.map (AV.int .i64)) (by simp [ints]) fun hlen => ?_
  rw [List.length_map] at hlen
  refine Fun.of_wp told14 (by simp [il14]) (.bool _) (fun H hwf hi => ?_) H
  simp only [il14, List.zipIdx_cons, List.zipIdx_nil, Nat.zero_add, go_sem, Nat.reduceEqDiff, reduceIte]
  refine WP.loopF (fun k => k ≤ l.length ∧ ∀ j (hj : j < l.length), j < k → l[j] ≠ i) (fun k => ⟨envL [(0, ints l), (1, .int .i64 i), (4, .bool false), (5, .int .i64 k)], H⟩) (fun k => l.length - k) 0 (by simp) (Fits.of (by simp ) (by simp ) (by simp) hwf) (fun _ _ => Nat.le_refl _) ?_
  rintro k ⟨hk, hno⟩
  refine wpc_sound ?_
  simp only [go_sem, Nat.reduceEqDiff, reduceIte]
  refine ⟨fun h => ?_, fun h => ?_⟩
  · have hk' : k < l.length := by omega
    simp only [index_ints H l k hk', go_sem, Nat.reduceEqDiff, reduceIte]
    refine ⟨fun ht => ?_, fun ht => ?_⟩
    · simp [← ht]
    · refine ⟨k + 1, ⟨hk', fun j hj hjk => ?_⟩, by omega, Fits.of ?_ (by simp ) (by simp) hwf⟩
      · rcases Nat.lt_or_ge j k with h | h
        · exact hno j hj h
        · have : j = k := by omega
          subst this; exact ht
      · simp 
        exact wrap64 _ (by omega) (by omega)
  · refine ⟨?_, by simp⟩
    simp
    intro hmem
    obtain ⟨j, hj, e⟩ := List.getElem_of_mem hmem
    exact hno j hj (by omega) e

end Go.Proofs.YtihhinbjhiankaaGreatDoor.Al
namespace Go.Proofs.YtihhinbjhiankaaGreatDoor.Al
open Go

end Go.Proofs.YtihhinbjhiankaaGreatDoor.Al
namespace Go.Proofs.YtihhinbjhiankaaGreatDoor.Al
open Go
noncomputable def r14 : Reg seat := .of told14 (ask2 (fun a0' a1' => isS a0' ∧ isI a1') fun a0' a1' => .fn (.bool ((dO a0').contains (dI a1')))) (ask2_ok fun a0' a1' h => SaidOk.fn (Fun.weak (.cons (isS.weak h.1) (.cons (isI.weak h.2) .nil)) (has_spec _ _)))
theorem r14_c : r14.c = 14 := rfl
open Classical in
theorem r14_ask (a0' a1' : AV) : r14.ask [a0', a1'] = if isS a0' ∧ isI a1' then some (Said.fn (.bool ((dO a0').contains (dI a1')))) else none := by unfold r14 Reg.of ask2; exact ite_cl
end Go.Proofs.YtihhinbjhiankaaGreatDoor.Al

set_option linter.unusedSimpArgs false
set_option linter.unusedVariables false
namespace Go.Proofs.YtihhinbjhiankaaGreatDoor.Al
open Go
attribute [local go_sem] W_mv W_pick W_alloc W_box W_build W_bslice W_load W_store W_bin W_isnil W_un W_convI W_convS W_mkiface W_mkfunc W_slice W_faddr W_iaddr W_idxA W_extract W_len W_min W_max W_append thenQ_normal thenQ_exit thenQ_ret blockQ_normal blockQ_ret blockQ_exit wpc_skip wpc_region wpc_draw wpc_seq wpc_cond wpc_block wpc_exit wpc_ret wpc_loop wpc_range condW_true condW_false condW_dec condW_any W_nil W_call resW_some evalOp Opd.ev updo_envL updo_none setL_cons setL_nil envL_cons Option.map_some Option.bind_some evBin evInt List.map_cons List.map_nil Option.pure_def Option.bind_eq_bind W_grd' grdW_tt grdW_ff grdW_tf grdW_ft grdW_tup grdW_dt grdW_df L_mv L_load L_bin L_un L_faddr L_iaddr L_nil L_call lresW_some upd_envL evUn beq_dec bne_dec leaves_ret1 leaves_ret0 leaves_end0 rowLen_ints load_iptr0 not_dec heap_get0 heap_get1 heap_set0 heap_set1 heap_len1 heap_app bslice1_int seen_one0 Nat.sub_zero Bool.not_true Bool.not_false List.length_nil List.length_cons List.nil_append List.cons_append Nat.zero_add canon_ptrI canon_bool canon_tup canon_agg canon_ints' canon_ints0 rowLen_octs seen_octs canon_octs' rowLen_nodes canon_nodes' rowLen_nodes0 rowLen_nodes3 seen_list cells_int oneIn_int cells_bool oneIn_bool cells_list oneIn_list cells_func oneIn_func cells_own cells_ptr cells_agg oneIn_own0 oneIn_own1 seenL1 seenM1 oneIn_ptr2 seenL2 oneIn_own3 seenL3 cells_ints oneIn_ints cells_octs oneIn_octs cells_nodes oneIn_nodes ldB0 ldA0 adB0 stB0 ldB1 ldA1 adB1 stB1 ldB2 ldA2 adB2 stB2 ldB3 stB3 List.getElem?_cons_zero List.getElem?_cons_succ beq_self_eq_true splice List.take_zero List.take_succ_cons List.drop_zero List.drop_succ_cons List.append_nil List.set_cons_zero List.set_cons_succ List.all_cons List.all_nil Bool.and_self and_self and_true true_and Nat.lt_irrefl Nat.zero_lt_one Nat.le_refl fillA evNil notA Bool.false_eq_true evMin_int evMax_int Option.map_none freezeP_all_nil freezeP_all_cons frzE_box frzE_arr foldA List.foldlM_cons List.foldlM_nil callW_f lcallW_f ansW_fn ansW_own lansW_fn ansW_none tab_cons tab_nil dI_int dB_bool dO_octs dO_ints dO_list dO_nil dN_nodeA dLf_agg dIn_agg dN_agg dNs_nodes dNs_nil isI_int isB_bool isO_octs isO_nil isO_list isS_ints isS_nil isNs_nodes isNs_nil isN_nodeA isLf_agg isIn_agg isN_agg leaf_eta inner_eta node_eta leaf_zero inner_zero decide_eq_true_eq decide_eq_false_iff_not eq_self forall_const true_implies false_implies Bool.not_eq_true' Bool.not_eq_false' Bool.true_eq_false implies_true ne_eq ldI ldIA adI AV.tup.injEq AV.agg.injEq List.cons.injEq AV.int.injEq AV.bool.injEq nodes_inj octs_inj ints_inj nil_nodes nil_octs nil_ints canon_nilL decide_eq_decide two_ne four_ne b256_ne lendA_own lendA_none isO_own false_and and_false Q_nil Q_l Q_g Q_h Q_grd qgrdW_b lightD_some heavyD_some readD_some fnD_some callL_f Q_call pendOk_nil pendOk_cons pastOk_nil Q_mv Q_pick Q_bin Q_extract Q_min Q_load Q_slice Q_len H_store free_mv free_pick free_bin free_extract free_min free_load free_slice free_len callW_y List.length_map List.length_set leaves_r evR_some evRess1 evRess2 evRess3 evRes_t evRes_c nz_kind nz_enc nz_cred nz_source nz_parent nz_ienc nz_hash nz_un true_or or_true bsl_node appI appO canon_rowI canon_rowO not_false_eq_true not_true_eq_false ldE_a ldE_c adE_b stE_b onP_b
attribute [local go_sem low] condW_b ldP adP stP onO
attribute [local simp] envL_cons envL_nil idb_int idb_bool idb_ints idb_nil idb_own idb_ptr idb_octs idb_nodes idb_leafA idb_innerA idb_nodeA idb_agg idb_tup idb_iptr idb_fn entB_dead entB_box
theorem has6_spec (l : List Int) (i : Int) (hl : Small l) : Fun seat 359 [ints l, .int .i64 i] (.bool (decide (i ∈ l))) := by
  simp only [Small] at hl
  refine Fun.of0R [] told359 (by simp [il359]) (by simp [idb_patchA]) (by simp [idb_patchA]) 4 ?_
  simp only [il359, List.zipIdx_cons, List.zipIdx_nil, leafA, innerA, nodeA, patchA, Leaf.cells, Inner.cells, Node.cells, go_sem, Nat.reduceEqDiff, reduceIte, Nat.reduceAdd, Nat.reduceLeDiff, Nat.reduceLT, Nat.reduceSub]
  refine WP.loop0 (fun k => k ≤ l.length ∧ ∀ j (h : j < l.length), j < k → ¬ l[j] = i) (fun k => [(0, ints l), (1, .int .i64 i), (5, .int .i64 (k : Nat))]) (fun k => l.length - k) 0 ⟨Nat.zero_le _, fun j _ h => absurd h (Nat.not_lt_zero j)⟩ (fun k _ => by simp ) (by simp ) ?_
  rintro k ⟨hk, hno⟩
  refine wpc_soundR [] ?_
  by_cases hlt : (k : Int) < (l.length : Nat)
  · have hk' : k < l.length := by omega
    by_cases he : l[k] = i
    · have hm : i ∈ l := by rw [← he]; exact List.getElem_mem hk'
      simp -implicitDefEqProofs only [leafA, innerA, nodeA, patchA, Leaf.cells, Inner.cells, Node.cells, decide_true, decide_false, hlt, fun H => index_ints H l k hk', eq_true he, hm, go_sem, Nat.reduceEqDiff, reduceIte, Nat.reduceAdd, Nat.reduceLeDiff, Nat.reduceLT, Nat.reduceSub]
    · simp -implicitDefEqProofs only [leafA, innerA, nodeA, patchA, Leaf.cells, Inner.cells, Node.cells, decide_true, decide_false, hlt, fun H => index_ints H l k hk', he, go_sem, Nat.reduceEqDiff, reduceIte, Nat.reduceAdd, Nat.reduceLeDiff, Nat.reduceLT, Nat.reduceSub]
      refine ⟨k + 1, ⟨hk', fun j h hj => ?_⟩, by omega, by simp [wrapS (show k < 9223372036854775807 by omega)]⟩
      by_cases hjk : j = k
      · subst hjk; exact he
      · exact hno j h (by omega)
  · have hm : ¬ i ∈ l := fun h => by
      obtain ⟨j, hj, e⟩ := List.getElem_of_mem h
      exact hno j hj (by omega) e
    simp -implicitDefEqProofs only [leafA, innerA, nodeA, patchA, Leaf.cells, Inner.cells, Node.cells, decide_true, decide_false, hlt, hm, go_sem, Nat.reduceEqDiff, reduceIte, Nat.reduceAdd, Nat.reduceLeDiff, Nat.reduceLT, Nat.reduceSub]
noncomputable def r359 : Reg seat := .of told359 (ask2 (fun a0' a1' => isS a0' ∧ isI a1' ∧ Small (dO a0')) fun a0' a1' => .fn (.bool (decide ((dI a1') ∈ (dO a0'))))) (ask2_ok fun a0' a1' h => SaidOk.fn (Fun.weak (.cons (isS.weak h.1) (.cons (isI.weak h.2.1) .nil)) (has6_spec _ _ h.2.2)))
theorem r359_c : r359.c = 359 := rfl
open Classical in
theorem r359_ask (a0' a1' : AV) : r359.ask [a0', a1'] = if isS a0' ∧ isI a1' ∧ Small (dO a0') then some (Said.fn (.bool (decide ((dI a1') ∈ (dO a0'))))) else none := by unfold r359 Reg.of ask2; exact ite_cl
theorem ups_two' (x y w : Int) : y ∈ ups x w ↔ IsN x w ∧ IsN y w ∧ (x = y ∨ y ∈ directI x w) := by
  constructor
  · intro h
    have hx : IsN x w := Classical.byContradiction fun hn => by rw [ups_not hn] at h; cases h
    refine ⟨hx, ups_is h, ?_⟩
    rw [ups_step hx] at h
    rcases List.mem_cons.1 h with rfl | h
    · exact .inl rfl
    · exact .inr (by rw [direct_eq]; exact h)
  · rintro ⟨hx, _, rfl | h⟩
    · rw [ups_step hx]; exact List.mem_cons_self ..
    · exact direct_ups h
theorem dir_small (x w : Int) : Small (directI x w) := by
  have := ups_len x w
  simp only [Small, directI, List.length_tail]; omega
theorem refUnder_spec (x y w : Int) : Fun seat 353 [.int .i64 x, .int .i64 y, .int .i64 w] (.bool (decide (y ∈ ups x w))) := by
  have hd := dir_small x w
  have hu := ups_two' x y w
  by_cases hx : IsN x w
  rotate_left
  · have hn : ¬ y ∈ ups x w := fun h => hx (hu.1 h).1
    refine Fun.of0R [r309] told353 (by simp [il353]) (by simp [idb_patchA]) (by simp [idb_patchA]) 4 ?_
    simp -implicitDefEqProofs only [il353, List.zipIdx_cons, List.zipIdx_nil, leafA, innerA, nodeA, patchA, Leaf.cells, Inner.cells, Node.cells, r309_c, r309_ask, decide_true, decide_false, hx, hn, go_sem, Nat.reduceEqDiff, reduceIte, Nat.reduceAdd, Nat.reduceLeDiff, Nat.reduceLT, Nat.reduceSub]
  by_cases hy : IsN y w
  rotate_left
  · have hn : ¬ y ∈ ups x w := fun h => hy (hu.1 h).2.1
    refine Fun.of0R [r309] told353 (by simp [il353]) (by simp [idb_patchA]) (by simp [idb_patchA]) 4 ?_
    simp -implicitDefEqProofs only [il353, List.zipIdx_cons, List.zipIdx_nil, leafA, innerA, nodeA, patchA, Leaf.cells, Inner.cells, Node.cells, r309_c, r309_ask, decide_true, decide_false, hx, hy, hn, go_sem, Nat.reduceEqDiff, reduceIte, Nat.reduceAdd, Nat.reduceLeDiff, Nat.reduceLT, Nat.reduceSub]
  by_cases he : x = y
  · have hm : y ∈ ups x w := hu.2 ⟨hx, hy, .inl he⟩
    refine Fun.of0R [r309] told353 (by simp [il353]) (by simp [idb_patchA]) (by simp [idb_patchA]) 4 ?_
    simp -implicitDefEqProofs only [il353, List.zipIdx_cons, List.zipIdx_nil, leafA, innerA, nodeA, patchA, Leaf.cells, Inner.cells, Node.cells, r309_c, r309_ask, decide_true, decide_false, hx, hy, eq_true he, hm, go_sem, Nat.reduceEqDiff, reduceIte, Nat.reduceAdd, Nat.reduceLeDiff, Nat.reduceLT, Nat.reduceSub]
  by_cases hm : y ∈ directI x w
  · have hu' : y ∈ ups x w := hu.2 ⟨hx, hy, .inr hm⟩
    refine Fun.of0R [r309, r301, r359] told353 (by simp [il353]) (by simp [idb_patchA]) (by simp [idb_patchA]) 4 ?_
    simp -implicitDefEqProofs only [il353, List.zipIdx_cons, List.zipIdx_nil, leafA, innerA, nodeA, patchA, Leaf.cells, Inner.cells, Node.cells, r309_c, r309_ask, r301_c, r301_ask, r359_c, r359_ask, decide_true, decide_false, hx, hy, he, hd, hm, hu', go_sem, Nat.reduceEqDiff, reduceIte, Nat.reduceAdd, Nat.reduceLeDiff, Nat.reduceLT, Nat.reduceSub]
  · have hu' : ¬ y ∈ ups x w := fun h => (hu.1 h).2.2.elim he hm
    refine Fun.of0R [r309, r301, r359] told353 (by simp [il353]) (by simp [idb_patchA]) (by simp [idb_patchA]) 4 ?_
    simp -implicitDefEqProofs only [il353, List.zipIdx_cons, List.zipIdx_nil, leafA, innerA, nodeA, patchA, Leaf.cells, Inner.cells, Node.cells, r309_c, r309_ask, r301_c, r301_ask, r359_c, r359_ask, decide_true, decide_false, hx, hy, he, hd, hm, hu', go_sem, Nat.reduceEqDiff, reduceIte, Nat.reduceAdd, Nat.reduceLeDiff, Nat.reduceLT, Nat.reduceSub]
noncomputable def r353 : Reg seat := .of told353 (ask3 (fun a0' a1' a2' => isI a0' ∧ isI a1' ∧ isI a2') fun a0' a1' a2' => .fn (.bool (decide ((dI a1') ∈ ups (dI a0') (dI a2'))))) (ask3_ok fun a0' a1' a2' h => SaidOk.fn (Fun.weak (.cons (isI.weak h.1) (.cons (isI.weak h.2.1) (.cons (isI.weak h.2.2) .nil))) (refUnder_spec _ _ _)))
theorem r353_c : r353.c = 353 := rfl
open Classical in
theorem r353_ask (a0' a1' a2' : AV) : r353.ask [a0', a1', a2'] = if isI a0' ∧ isI a1' ∧ isI a2' then some (Said.fn (.bool (decide ((dI a1') ∈ ups (dI a0') (dI a2'))))) else none := by unfold r353 Reg.of ask3; exact ite_cl
set_option maxHeartbeats 2000000 in
theorem refNamed1_spec (t : List Node) (x i : Int) (ht : Tree.Ok t) (h7 : t.length ≤ 127) (hxo : x % 2 = 1) (hi : 0 ≤ i ∧ i ≤ 63) : Fun seat 347 [nodes t, .int .i64 x, .int .i64 i] (.bool (namedB t x i)) := by
  obtain ⟨k, rfl⟩ : ∃ k : Nat, i = k := ⟨i.toNat, by omega⟩
  have w1 : IntKind.i64.wrap (2 * (k : Int)) = 2 * (k : Int) := wrap64 _ (by omega) (by omega)
  have c1 : (2 * (k : Int)) = ((2 * k : Nat) : Int) := by omega
  by_cases hu : x ∈ ups (2 * (k : Int)) t.length
  rotate_left
  · rw [namedB_not _ _ _ hu]
    refine Fun.of0R [r353] told347 (by simp [il347]) (by simp [idb_patchA]) (by simp [idb_patchA]) 4 ?_
    simp -implicitDefEqProofs only [il347, List.zipIdx_cons, List.zipIdx_nil, leafA, innerA, nodeA, patchA, Leaf.cells, Inner.cells, Node.cells, r353_c, r353_ask, decide_true, decide_false, w1, hu, not_false_eq_true, go_sem, Nat.reduceEqDiff, reduceIte, Nat.reduceAdd, Nat.reduceLeDiff, Nat.reduceLT, Nat.reduceSub]
  have hN : IsN (2 * (k : Int)) t.length := by
    refine Classical.byContradiction fun h => ?_
    rw [ups_not h] at hu; cases hu
  have hkl : 2 * k < t.length := by have := hN.2; omega
  by_cases hb : t[2 * k].kind = 0
  · rw [namedB_blank _ _ _ (by rw [c1, Int.toNat_natCast, nodeAt_lt hkl]; exact hb)]
    rw [c1] at w1 hu
    refine Fun.of0R [r353] told347 (by simp [il347]) (by simp [idb_patchA]) (by simp [idb_patchA]) 4 ?_
    simp -implicitDefEqProofs only [il347, List.zipIdx_cons, List.zipIdx_nil, leafA, innerA, nodeA, patchA, Leaf.cells, Inner.cells, Node.cells, r353_c, r353_ask, decide_true, decide_false, w1, hu, c1, not_true_eq_false, fun H => ix_nodes H t (2 * k) hkl, hb, go_sem, Nat.reduceEqDiff, reduceIte, Nat.reduceAdd, Nat.reduceLeDiff, Nat.reduceLT, Nat.reduceSub]
  rw [namedB_eq _ _ _ hu (by rw [c1, Int.toNat_natCast, nodeAt_lt hkl]; exact hb)]
  have hxD : x ∈ directI (2 * (k : Int)) t.length := by
    rcases ((ups_two' _ _ _).1 hu).2.2 with h | h
    · omega
    · exact h
  have hD0 : directI (2 * (k : Int)) t.length = ups (parI (2 * (k : Int)) t.length) t.length := direct_eq _ _
  obtain ⟨D, hDe⟩ : ∃ D, directI (2 * (k : Int)) t.length = D := ⟨_, rfl⟩
  rw [hDe] at hxD hD0 ⊢
  rw [c1] at hDe hD0
  obtain ⟨B, hB⟩ : ∃ B, ((D.takeWhile fun y => decide (y ≠ x)).all fun y => !badI t k y) = B := ⟨_, rfl⟩
  rw [hB]
  refine Fun.of0W told347 (by simp [il347]) (by simp ) (by simp ) 4 ?_
  simp only [il347, List.zipIdx_cons, List.zipIdx_nil]
  refine WP.seqR [] fun K hK => ?_
  simp -implicitDefEqProofs only [leafA, innerA, nodeA, patchA, Leaf.cells, Inner.cells, Node.cells, decide_true, decide_false, go_sem, Nat.reduceEqDiff, reduceIte, Nat.reduceAdd, Nat.reduceLeDiff, Nat.reduceLT, Nat.reduceSub]
  refine hK _ ?_
  clear hK K
  refine WP.seqR [r353] fun K hK => ?_
  rw [c1] at w1 hu
  simp -implicitDefEqProofs only [leafA, innerA, nodeA, patchA, Leaf.cells, Inner.cells, Node.cells, r353_c, r353_ask, decide_true, decide_false, w1, c1, hu, not_true_eq_false, fun H => ix_nodes H t (2 * k) hkl, hb, go_sem, Nat.reduceEqDiff, reduceIte, Nat.reduceAdd, Nat.reduceLeDiff, Nat.reduceLT, Nat.reduceSub]
  refine hK _ ?_
  clear hK K
  refine WP.seqR [r305] fun K hK => ?_
  simp -implicitDefEqProofs only [leafA, innerA, nodeA, patchA, Leaf.cells, Inner.cells, Node.cells, r305_c, r305_ask, decide_true, decide_false, w1, c1, go_sem, Nat.reduceEqDiff, reduceIte, Nat.reduceAdd, Nat.reduceLeDiff, Nat.reduceLT, Nat.reduceSub]
  refine WP.weakL [(0, nodes t), (1, .int .i64 x), (2, .int .i64 k), (7, .int .i64 (parI ((2 * k : Nat) : Int) t.length))] ?_ ?_
  · simp only [envL_cons, Nat.reduceEqDiff, reduceIte, List.mem_cons, List.not_mem_nil, or_false, forall_eq_or_imp, forall_eq, weak_refl, and_self]
  refine WP.loop0 (fun s : Nat × Int => s.1 ≤ D.length ∧ D.drop s.1 = ups s.2 t.length ∧ x ∈ D.drop s.1 ∧ ∀ q (h : q < D.length), q < s.1 → D[q] ≠ x ∧ badI t k D[q] = false) (fun s => [(0, nodes t), (1, .int .i64 x), (2, .int .i64 k), (7, .int .i64 s.2)]) (fun s => D.length - s.1) (0, parI ((2 * k : Nat) : Int) t.length) ⟨Nat.zero_le _, hD0, hxD, fun q _ h => absurd h (Nat.not_lt_zero q)⟩ (fun j _ => by simp ) (by simp ) ?_
  rintro ⟨j, y⟩ ⟨hj, hdr, hxm, hno⟩
  simp only at hj hdr hxm hno
  have hyN : IsN y t.length := by
    refine Classical.byContradiction fun h => ?_
    rw [hdr, ups_not h] at hxm; cases hxm
  have hj' : j < D.length := by
    have := congrArg List.length hdr
    rw [ups_step hyN] at this
    simp only [List.length_drop, List.length_cons] at this
    omega
  rw [ups_step hyN, List.drop_eq_getElem_cons hj'] at hdr
  obtain ⟨hDj, hdr'⟩ := List.cons.inj hdr
  refine wpc_soundR [r14, r305] ?_
  by_cases hx : y = x
  · obtain rfl : B = true := hB.symm.trans (tw_stop D j hj' (fun q h hq => by rw [(hno q h hq).2]; rfl) (by simp [hDj, hx]))
    simp -implicitDefEqProofs only [leafA, innerA, nodeA, patchA, Leaf.cells, Inner.cells, Node.cells, r14_c, r14_ask, r305_c, r305_ask, decide_true, decide_false, eq_true hx, ne_eq, not_true_eq_false, go_sem, Nat.reduceEqDiff, reduceIte, Nat.reduceAdd, Nat.reduceLeDiff, Nat.reduceLT, Nat.reduceSub]
    refine hK _ ?_
    refine wpc_soundR [] ?_
    simp -implicitDefEqProofs only [leafA, innerA, nodeA, patchA, Leaf.cells, Inner.cells, Node.cells, decide_true, decide_false, go_sem, Nat.reduceEqDiff, reduceIte, Nat.reduceAdd, Nat.reduceLeDiff, Nat.reduceLT, Nat.reduceSub]
  obtain ⟨p, hp⟩ : ∃ p : Nat, y = p := ⟨y.toNat, by have := hyN.2; omega⟩
  subst hp
  have hpt : p < t.length := by have := hyN.2; omega
  have hxm' : x ∈ D.drop (j + 1) := by
    rw [List.drop_eq_getElem_cons hj'] at hxm
    rcases List.mem_cons.1 hxm with h | h
    · exact absurd (h.trans hDj).symm hx
    · exact h
  have next : badI t k D[j] = false → (j + 1 ≤ D.length ∧ D.drop (j + 1) = ups (parI (p : Int) t.length) t.length ∧ x ∈ D.drop (j + 1) ∧ ∀ q (h : q < D.length), q < j + 1 → D[q] ≠ x ∧ badI t k D[q] = false) := fun hb2 => by
    refine ⟨hj', hdr', hxm', fun q h hq => ?_⟩
    by_cases e : q = j
    · subst e; exact ⟨by rw [hDj]; exact hx, hb2⟩
    · exact hno q h (by omega)
  by_cases hk2 : t[p].kind = 2
  · by_cases hc : t[p].inner.unmerged.contains (k : Int) = true
    · have hb2 : badI t k D[j] = false := by unfold badI; rw [hDj, Int.toNat_natCast, nodeAt_lt hpt, hc]; simp
      simp -implicitDefEqProofs only [leafA, innerA, nodeA, patchA, Leaf.cells, Inner.cells, Node.cells, r14_c, r14_ask, r305_c, r305_ask, decide_true, decide_false, hx, ne_eq, not_false_eq_true, fun H => ix_nodes H t p hpt, eq_true hk2, hc, not_true_eq_false, go_sem, Nat.reduceEqDiff, reduceIte, Nat.reduceAdd, Nat.reduceLeDiff, Nat.reduceLT, Nat.reduceSub]
      exact ⟨(j + 1, parI (p : Int) t.length), next hb2, by simp only; omega, by simp ⟩
    · have hb2 : badI t k D[j] = true := by unfold badI; rw [hDj, Int.toNat_natCast, nodeAt_lt hpt]; simp [hk2]; simpa using hc
      have hc' : t[p].inner.unmerged.contains (k : Int) = false := by simpa using hc
      obtain rfl : B = false := hB.symm.trans (tw_bad D j hj' (fun q h hq => by
        by_cases e : q = j
        · subst e; rw [hDj]; simp [hx]
        · simp [(hno q h (by omega)).1]) (by rw [hb2]; rfl))
      simp -implicitDefEqProofs only [leafA, innerA, nodeA, patchA, Leaf.cells, Inner.cells, Node.cells, r14_c, r14_ask, r305_c, r305_ask, decide_true, decide_false, hx, ne_eq, not_false_eq_true, fun H => ix_nodes H t p hpt, eq_true hk2, hc', go_sem, Nat.reduceEqDiff, reduceIte, Nat.reduceAdd, Nat.reduceLeDiff, Nat.reduceLT, Nat.reduceSub]
  · have hb2 : badI t k D[j] = false := by unfold badI; rw [hDj, Int.toNat_natCast, nodeAt_lt hpt]; simp [hk2]
    simp -implicitDefEqProofs only [leafA, innerA, nodeA, patchA, Leaf.cells, Inner.cells, Node.cells, r14_c, r14_ask, r305_c, r305_ask, decide_true, decide_false, hx, ne_eq, not_false_eq_true, fun H => ix_nodes H t p hpt, hk2, go_sem, Nat.reduceEqDiff, reduceIte, Nat.reduceAdd, Nat.reduceLeDiff, Nat.reduceLT, Nat.reduceSub]
    exact ⟨(j + 1, parI (p : Int) t.length), next hb2, by simp only; omega, by simp ⟩
noncomputable def r347 : Reg seat := .of told347 (ask3 (fun a0' a1' a2' => isNs a0' ∧ isI a1' ∧ isI a2' ∧ Tree.Ok (dNs a0') ∧ (dNs a0').length ≤ 127 ∧ (dI a1') % 2 = 1 ∧ 0 ≤ (dI a2') ∧ (dI a2') ≤ 63) fun a0' a1' a2' => .fn (.bool (namedB (dNs a0') (dI a1') (dI a2')))) (ask3_ok fun a0' a1' a2' h => SaidOk.fn (Fun.weak (.cons (isNs.weak h.1) (.cons (isI.weak h.2.1) (.cons (isI.weak h.2.2.1) .nil))) (refNamed1_spec _ _ _ h.2.2.2.1 h.2.2.2.2.1 h.2.2.2.2.2.1 h.2.2.2.2.2.2)))
theorem r347_c : r347.c = 347 := rfl
open Classical in
theorem r347_ask (a0' a1' a2' : AV) : r347.ask [a0', a1', a2'] = if isNs a0' ∧ isI a1' ∧ isI a2' ∧ Tree.Ok (dNs a0') ∧ (dNs a0').length ≤ 127 ∧ (dI a1') % 2 = 1 ∧ 0 ≤ (dI a2') ∧ (dI a2') ≤ 63 then some (Said.fn (.bool (namedB (dNs a0') (dI a1') (dI a2')))) else none := by unfold r347 Reg.of ask3; exact ite_cl
theorem lastT_known (t : List Node) : lastT (known t) = lastT t := by unfold lastT; rw [known_known]
theorem lastT_le (t : List Node) : -1 ≤ lastT t ∧ (lastT t + 1).toNat ≤ (known t).length := by
  have hs := known_sane t
  rw [← lastT_known]
  by_cases h : lastT (known t) < 0
  · have := (lastT_neg hs h).1; omega
  · obtain ⟨k, e, hk, _⟩ := lastT_pos hs h; omega
set_option maxHeartbeats 1000000 in
theorem oput_spec (t : List Node) (ht : Tree.Ok t) : Fun seat 331 [nodes t] (octs (putT t)) := by
  have ok := known_ok ht
  have hl := known_len t
  obtain ⟨l1, l2⟩ := lastT_le t
  have lk := lastT_known t
  unfold putT
  obtain ⟨a, ha⟩ : ∃ a, known t = a := ⟨_, rfl⟩
  rw [ha] at ok hl lk l2 ⊢
  obtain ⟨m, hm⟩ : ∃ m : Nat, lastT t + 1 = m := ⟨(lastT t + 1).toNat, by omega⟩
  rw [hm, Int.toNat_natCast] at l2 ⊢
  have w1 : IntKind.i64.wrap (m : Int) = m := wrap64 _ (by omega) (by omega)
  have sl : ∀ H, evSlice H 8 (nodes a) none (some (.int .i64 (m : Int))) none = some (nodes (a.take m)) := fun H => by
    have := sliceT_nodes H a (m : Int) (by omega) (by omega)
    rwa [Int.toNat_natCast] at this
  have ok2 : ∀ n ∈ a.take m, n.Ok := fun n hn => ok.2 n (List.mem_of_mem_take hn)
  have hl2 : (a.take m).length ≤ 127 := by rw [List.length_take]; omega
  obtain ⟨S, hS⟩ : ∃ S, a.take m = S := ⟨_, rfl⟩
  rw [hS] at sl ok2 hl2 ⊢
  have pb : ∀ k, (putL (S.take k)).length ≤ 4200000000 := fun k => by
    have := putL_len (S.take k)
    rw [List.length_take] at this; omega
  refine Fun.of0W told331 (by simp [il331]) (by simp ) (by simp ) 4 ?_
  simp only [il331, List.zipIdx_cons, List.zipIdx_nil]
  refine WP.seqR [] fun K hK => ?_
  simp -implicitDefEqProofs only [leafA, innerA, nodeA, patchA, Leaf.cells, Inner.cells, Node.cells, decide_true, decide_false, go_sem, Nat.reduceEqDiff, reduceIte, Nat.reduceAdd, Nat.reduceLeDiff, Nat.reduceLT, Nat.reduceSub]
  refine hK _ ?_
  clear hK K
  refine WP.seqR [r344] fun K hK => ?_
  simp -implicitDefEqProofs only [leafA, innerA, nodeA, patchA, Leaf.cells, Inner.cells, Node.cells, r344_c, r344_ask, decide_true, decide_false, ht, ha, go_sem, Nat.reduceEqDiff, reduceIte, Nat.reduceAdd, Nat.reduceLeDiff, Nat.reduceLT, Nat.reduceSub]
  refine hK _ ?_
  clear hK K
  refine WP.seqR [] fun K hK => ?_
  simp -implicitDefEqProofs only [leafA, innerA, nodeA, patchA, Leaf.cells, Inner.cells, Node.cells, decide_true, decide_false, go_sem, Nat.reduceEqDiff, reduceIte, Nat.reduceAdd, Nat.reduceLeDiff, Nat.reduceLT, Nat.reduceSub]
  refine hK _ ?_
  clear hK K
  refine WP.seqR [r104] fun K hK => ?_
  simp -implicitDefEqProofs only [leafA, innerA, nodeA, patchA, Leaf.cells, Inner.cells, Node.cells, r104_c, r104_ask, decide_true, decide_false, ok, lk, hm, w1, sl, go_sem, Nat.reduceEqDiff, reduceIte, Nat.reduceAdd, Nat.reduceLeDiff, Nat.reduceLT, Nat.reduceSub]
  refine WP.weakL [(3, octs []), (12, nodes S), (13, .int .i64 (S.length : Nat)), (14, .int .i64 0)] ?_ ?_
  · simp only [envL_cons, Nat.reduceEqDiff, reduceIte, List.mem_cons, List.not_mem_nil, or_false, forall_eq_or_imp, forall_eq, weak_refl, weak_nilO, and_self]
  refine WP.loop0 (fun k => k ≤ S.length) (fun k => [(3, octs (putL (S.take k))), (12, nodes S), (13, .int .i64 (S.length : Nat)), (14, .int .i64 (k : Nat))]) (fun k => S.length - k) 0 (Nat.zero_le _) (fun k _ => by simp ) (by simp [putL_nil]) ?_
  intro k hk
  refine wpc_soundR [r188] ?_
  by_cases hlt : (k : Int) < (S.length : Nat)
  · have hk' : k < S.length := by omega
    have okk := ok2 _ (List.getElem_mem hk')
    have pbk := pb k
    have e := putL_take S hk'
    simp -implicitDefEqProofs only [leafA, innerA, nodeA, patchA, Leaf.cells, Inner.cells, Node.cells, r188_c, r188_ask, decide_true, decide_false, hlt, fun H => ix_nodes H S k hk', okk, pbk, go_sem, Nat.reduceEqDiff, reduceIte, Nat.reduceAdd, Nat.reduceLeDiff, Nat.reduceLT, Nat.reduceSub]
    exact ⟨k + 1, by omega, by omega, by simp [wrapS (show k < 9223372036854775807 by omega), e]⟩
  · have e : S.take k = S := List.take_of_length_le (by omega)
    have pbS := pb k
    rw [e] at pbS ⊢
    have pbS2 : (putL S).length ≤ 4290000000 := by omega
    simp -implicitDefEqProofs only [leafA, innerA, nodeA, patchA, Leaf.cells, Inner.cells, Node.cells, r188_c, r188_ask, decide_true, decide_false, hlt, go_sem, Nat.reduceEqDiff, reduceIte, Nat.reduceAdd, Nat.reduceLeDiff, Nat.reduceLT, Nat.reduceSub]
    refine hK _ ?_
    refine wpc_soundR [r198] ?_
    simp -implicitDefEqProofs only [leafA, innerA, nodeA, patchA, Leaf.cells, Inner.cells, Node.cells, r198_c, r198_ask, decide_true, decide_false, pbS2, go_sem, Nat.reduceEqDiff, reduceIte, Nat.reduceAdd, Nat.reduceLeDiff, Nat.reduceLT, Nat.reduceSub]
noncomputable def r331 : Reg seat := .of told331 (ask1 (fun a0' => isNs a0' ∧ Tree.Ok (dNs a0')) fun a0' => .fn (octs (putT (dNs a0')))) (ask1_ok fun a0' h => SaidOk.fn (Fun.weak (.cons (isNs.weak h.1) .nil) (oput_spec _ h.2)))
theorem r331_c : r331.c = 331 := rfl
open Classical in
theorem r331_ask (a0' : AV) : r331.ask [a0'] = if isNs a0' ∧ Tree.Ok (dNs a0') then some (Said.fn (octs (putT (dNs a0')))) else none := by unfold r331 Reg.of ask1; exact ite_cl
section
attribute [local go_sem high] qgrdW_tt
theorem refFput_spec (b : List Int) (f : Bool) (hb : b.length ≤ 4294960000) : Fun seat 245 [octs b, .bool f] (octs (fput b f)) := by
  unfold fput
  cases f with
  | true =>
    refine Fun.of0R [r221f] told245 (by simp [il245]) (by simp [idb_patchA]) (by simp [idb_patchA]) 4 ?_
    simp -implicitDefEqProofs only [il245, List.zipIdx_cons, List.zipIdx_nil, leafA, innerA, nodeA, patchA, Leaf.cells, Inner.cells, Node.cells, r221f_c, r221f_ask, decide_true, decide_false, hb, clamp1, go_sem, Nat.reduceEqDiff, reduceIte, Nat.reduceAdd, Nat.reduceLeDiff, Nat.reduceLT, Nat.reduceSub]
  | false =>
    refine Fun.of0R [r221f] told245 (by simp [il245]) (by simp [idb_patchA]) (by simp [idb_patchA]) 4 ?_
    simp -implicitDefEqProofs only [il245, List.zipIdx_cons, List.zipIdx_nil, leafA, innerA, nodeA, patchA, Leaf.cells, Inner.cells, Node.cells, r221f_c, r221f_ask, decide_true, decide_false, hb, clamp1, go_sem, Nat.reduceEqDiff, reduceIte, Nat.reduceAdd, Nat.reduceLeDiff, Nat.reduceLT, Nat.reduceSub]
noncomputable def r245 : Reg seat := .of told245 (ask2 (fun a0' a1' => isO a0' ∧ isB a1' ∧ (dO a0').length ≤ 4294960000) fun a0' a1' => .fn (octs (fput (dO a0') (dB a1')))) (ask2_ok fun a0' a1' h => SaidOk.fn (Fun.weak (.cons (isO.weak h.1) (.cons (isB.weak h.2.1) .nil)) (refFput_spec _ _ h.2.2)))
theorem r245_c : r245.c = 245 := rfl
open Classical in
theorem r245_ask (a0' a1' : AV) : r245.ask [a0', a1'] = if isO a0' ∧ isB a1' ∧ (dO a0').length ≤ 4294960000 then some (Said.fn (octs (fput (dO a0') (dB a1')))) else none := by unfold r245 Reg.of ask2; exact ite_cl
theorem gflag_consM (x : Int) (r : List Int) : gflag (x :: r) = if x > 1 then (false, [], 2) else (decide (x = 1), r, 0) := by
  have e : gnum 1 (x :: r) = (x, r, 0) := by simp [gnum, num]
  unfold gflag; rw [e]; simp
theorem refGflag_spec (b : List Int) (hb : Oct b) : Fun seat 242 [octs b] (.tup [.bool (gflag b).1, octs (gflag b).2.1, .int .i64 (gflag b).2.2]) := by
  cases b with
  | nil =>
    have e : gflag [] = (false, [], 1) := rfl
    rw [e]
    refine Fun.of0R [] told242 (by simp [il242]) (by simp [idb_patchA]) (by simp [idb_patchA]) 4 ?_
    simp -implicitDefEqProofs only [il242, List.zipIdx_cons, List.zipIdx_nil, leafA, innerA, nodeA, patchA, Leaf.cells, Inner.cells, Node.cells, decide_true, decide_false, Int.ofNat_zero, List.length_nil, go_sem, Nat.reduceEqDiff, reduceIte, Nat.reduceAdd, Nat.reduceLeDiff, Nat.reduceLT, Nat.reduceSub]
    try rfl
  | cons x r =>
    rw [gflag_consM]
    have l0 : ¬ ((r.length + 1 : Nat) : Int) = 0 := by omega
    have i0 : ∀ H, evIndex H 1 (octs (x :: r)) (.int .i64 0) = some (.iptr [.int .u8 x] 0) := fun H => index_octs H (x :: r) 0 (by simp)
    have sl : ∀ H, evSlice H 1 (octs (x :: r)) (some (.int .i64 1)) none none = some (octs r) := fun H => by
      have := sliceF_octs H (x :: r) 1 (by omega) (by simp)
      exact this
    by_cases h : x > 1
    · rw [if_pos h]
      refine Fun.of0R [] told242 (by simp [il242]) (by simp [idb_patchA]) (by simp [idb_patchA]) 4 ?_
      simp -implicitDefEqProofs only [il242, List.zipIdx_cons, List.zipIdx_nil, leafA, innerA, nodeA, patchA, Leaf.cells, Inner.cells, Node.cells, decide_true, decide_false, l0, i0, h, go_sem, Nat.reduceEqDiff, reduceIte, Nat.reduceAdd, Nat.reduceLeDiff, Nat.reduceLT, Nat.reduceSub]
      try rfl
    · rw [if_neg h]
      refine Fun.of0R [] told242 (by simp [il242]) (by simp [idb_patchA]) (by simp [idb_patchA]) 4 ?_
      simp -implicitDefEqProofs only [il242, List.zipIdx_cons, List.zipIdx_nil, leafA, innerA, nodeA, patchA, Leaf.cells, Inner.cells, Node.cells, decide_true, decide_false, l0, i0, h, go_sem, Nat.reduceEqDiff, reduceIte, Nat.reduceAdd, Nat.reduceLeDiff, Nat.reduceLT, Nat.reduceSub]
      refine WP.drawQ [] [.l, .g 0 0, .g 0 0, .l, .l, .g 0 0, .l, .l, .l] mixed (by decide) ?_
      simp -implicitDefEqProofs only [leafA, innerA, nodeA, patchA, Leaf.cells, Inner.cells, Node.cells, decide_true, decide_false, i0, sl, go_sem, Nat.reduceEqDiff, reduceIte, Nat.reduceAdd, Nat.reduceLeDiff, Nat.reduceLT, Nat.reduceSub]
noncomputable def r242 : Reg seat := .of told242 (ask1 (fun a0' => isO a0' ∧ Oct (dO a0')) fun a0' => .fn (.tup [.bool (gflag (dO a0')).1, octs (gflag (dO a0')).2.1, .int .i64 (gflag (dO a0')).2.2])) (ask1_ok fun a0' h => SaidOk.fn (Fun.weak (.cons (isO.weak h.1) .nil) (refGflag_spec _ h.2)))
theorem r242_c : r242.c = 242 := rfl
open Classical in
theorem r242_ask (a0' : AV) : r242.ask [a0'] = if isO a0' ∧ Oct (dO a0') then some (Said.fn (.tup [.bool (gflag (dO a0')).1, octs (gflag (dO a0')).2.1, .int .i64 (gflag (dO a0')).2.2])) else none := by unfold r242 Reg.of ask1; exact ite_cl

set_option maxHeartbeats 1000000 in
theorem refLput_spec (b : List Int) (l : Leaf) (hb : b.length ≤ 4270000000) (hl : l.Ok) : Fun seat 246 [octs b, leafA l] (octs (lput b l)) := by
  have b0 : b.length ≤ 4294967295 := by omega
  have cl : ∃ v, evAppend [.box [octs l.enc, octs l.cred, .int .i64 l.source, octs l.parent], Entry.arr 1 0 []] 1 1 (.own 1 0 0 0) (b.map (AV.int .u8)) = some (.own 1 v 0 b.length, [.box [octs l.enc, octs l.cred, .int .i64 l.source, octs l.parent], .arr 1 v (b.map (AV.int .u8))]) := by
    obtain ⟨v, hv⟩ := encU8.app_any (H := [.box [octs l.enc, octs l.cred, .int .i64 l.source, octs l.parent], Entry.arr 1 0 (([] : List Int).map (AV.int .u8))]) (id := 1) (ver := 0) (l := []) (ys := b) (bytes := 1) rfl (by unfold maxRow; simp; omega) (by decide)
    exact ⟨v, by simpa [encU8] using hv⟩
  obtain ⟨v0, cl⟩ := cl
  have hb0 : ∀ e : Entry, evBslice [e] 1 0 (.int .u8 0) [] = some (.own 1 0 0 0, [e, .arr 1 0 []]) := fun _ => rfl
  by_cases hc : leafCheck l = 0
  rotate_left
  · have e : lput b l = b := if_pos hc
    rw [e]
    refine Fun.of0R [r164] told246 (by simp [il246]) (by simp [idb_patchA]) (by simp [idb_patchA]) 4 ?_
    simp -implicitDefEqProofs only [il246, List.zipIdx_cons, List.zipIdx_nil, leafA, innerA, nodeA, patchA, Leaf.cells, Inner.cells, Node.cells, r164_c, r164_ask, decide_true, decide_false, hl, hc, cl, hb0, go_sem, Nat.reduceEqDiff, reduceIte, Nat.reduceAdd, Nat.reduceLeDiff, Nat.reduceLT, Nat.reduceSub]
  have l1 := pbytes_len b l.enc
  have l2 := pbytes_len (pbytes b l.enc) l.cred
  have b1 : b.length ≤ 4290000000 := by omega
  have b2 : (pbytes b l.enc).length ≤ 4290000000 := by omega
  have b3 : (pbytes (pbytes b l.enc) l.cred).length ≤ 4294960000 := by omega
  have b4 : (pbytes (pbytes b l.enc) l.cred ++ beK 1 l.source).length ≤ 4290000000 := by rw [List.length_append, beK1_len]; omega
  have e : lput b l = if l.source = 3 then pbytes (pbytes (pbytes b l.enc) l.cred ++ beK 1 l.source) l.parent else pbytes (pbytes b l.enc) l.cred ++ beK 1 l.source := if_neg (not_not_intro hc)
  rw [e]
  by_cases hs : l.source = 3
  · rw [if_pos hs]
    refine Fun.of0R [r164, r199, r221] told246 (by simp [il246]) (by simp [idb_patchA]) (by simp [idb_patchA]) 4 ?_
    simp -implicitDefEqProofs only [il246, List.zipIdx_cons, List.zipIdx_nil, leafA, innerA, nodeA, patchA, Leaf.cells, Inner.cells, Node.cells, r164_c, r164_ask, r199_c, r199_ask, r221_c, r221_ask, decide_true, decide_false, hl, hc, cl, hb0, b1, b2, b3, b4, clamp1, eq_true hs, plainI, true_and, go_sem, Nat.reduceEqDiff, reduceIte, Nat.reduceAdd, Nat.reduceLeDiff, Nat.reduceLT, Nat.reduceSub]
  · rw [if_neg hs]
    refine Fun.of0R [r164, r199, r221] told246 (by simp [il246]) (by simp [idb_patchA]) (by simp [idb_patchA]) 4 ?_
    simp -implicitDefEqProofs only [il246, List.zipIdx_cons, List.zipIdx_nil, leafA, innerA, nodeA, patchA, Leaf.cells, Inner.cells, Node.cells, r164_c, r164_ask, r199_c, r199_ask, r221_c, r221_ask, decide_true, decide_false, hl, hc, cl, hb0, b1, b2, b3, b4, clamp1, hs, plainI, true_and, go_sem, Nat.reduceEqDiff, reduceIte, Nat.reduceAdd, Nat.reduceLeDiff, Nat.reduceLT, Nat.reduceSub]
noncomputable def r246 : Reg seat := .of told246 (ask2 (fun a0' a1' => isO a0' ∧ isLf a1' ∧ (dO a0').length ≤ 4270000000 ∧ (dLf a1').Ok) fun a0' a1' => .fn (octs (lput (dO a0') (dLf a1')))) (ask2_ok fun a0' a1' h => SaidOk.fn (Fun.weak (.cons (isO.weak h.1) (.cons (isLf.weak h.2.1) .nil)) (refLput_spec _ _ h.2.2.1 h.2.2.2)))
theorem r246_c : r246.c = 246 := rfl
open Classical in
theorem r246_ask (a0' a1' : AV) : r246.ask [a0', a1'] = if isO a0' ∧ isLf a1' ∧ (dO a0').length ≤ 4270000000 ∧ (dLf a1').Ok then some (Said.fn (octs (lput (dO a0') (dLf a1')))) else none := by unfold r246 Reg.of ask2; exact ite_cl

theorem srcE_bad {s e : Int} (h : ¬ e = 0) : srcE s e = e := if_neg fun x => h x.1
theorem srcE_out {s : Int} (h : ¬ (s ≥ 1 ∧ s ≤ 3)) : srcE s 0 = 7 := if_pos ⟨rfl, h⟩
theorem srcE_in {s : Int} (h : s ≥ 1 ∧ s ≤ 3) : srcE s 0 = 0 := if_neg fun x => x.2 h
set_option maxRecDepth 100000 in
set_option maxHeartbeats 4000000 in
theorem refLget_spec (b : List Int) (hb : Oct b) : Fun seat 243 [octs b] (.tup [leafA (lget b).1, octs (lget b).2.1, .int .i64 (lget b).2.2]) := by
  have ho := gbytes_oct hb
  rcases h1 : gbytes b with ⟨x, r1, e1⟩
  rw [h1] at ho
  have ho2 := gbytes_oct ho.2
  simp only at ho
  rcases h2 : gbytes r1 with ⟨y, r2, e2⟩
  rw [h2] at ho2
  simp only at ho2
  have ho3 := gnum_oct (k := 1) ho2.2
  have hs64 : In64 (gnum 1 r2).1 := by
    have e1 : IntKind.i64.min = -9223372036854775808 := rfl
    have e2 : IntKind.i64.max = 9223372036854775807 := rfl
    unfold gnum
    split
    · exact In64.zero
    · have := num_bd3 (l := r2.take 1) (bytes_take (bytes_of ho2.2) 1) (by rw [List.length_take]; omega)
      simp only [In64]; omega
  rcases h3 : gnum 1 r2 with ⟨s, r3, e3⟩
  rw [h3] at ho3 hs64
  simp only at ho3 hs64
  have o1 := ho.2
  have o2 := ho2.2
  have ho4 := gbytes_oct ho3
  rcases h4 : gbytes r3 with ⟨p, r4, e4⟩
  rw [h4] at ho4
  simp only at ho4
  have g4 : gpar s r3 = if s = 3 then (p, r4, e4) else ([], r3, 0) := by unfold gpar; rw [h4]
  by_cases he1 : e1 = 0
  rotate_left
  · rw [lget_eq h1 h2 h3 (p := (gpar s r3).1) (r4 := (gpar s r3).2.1) (e4 := (gpar s r3).2.2) rfl, if_pos he1]
    refine Fun.of0R [r194] told243 (by simp [il243]) (by simp [idb_patchA]) (by simp [idb_patchA]) 4 ?_
    simp -implicitDefEqProofs only [il243, List.zipIdx_cons, List.zipIdx_nil, leafA, innerA, nodeA, patchA, Leaf.cells, Inner.cells, Node.cells, r194_c, r194_ask, decide_true, decide_false, hb, h1, he1, go_sem, Nat.reduceEqDiff, reduceIte, Nat.reduceAdd, Nat.reduceLeDiff, Nat.reduceLT, Nat.reduceSub]
    try exact ⟨rfl, rfl, rfl, rfl⟩
  by_cases he2 : e2 = 0
  rotate_left
  · rw [lget_eq h1 h2 h3 (p := (gpar s r3).1) (r4 := (gpar s r3).2.1) (e4 := (gpar s r3).2.2) rfl, if_neg (not_not_intro he1), if_pos he2]
    refine Fun.of0R [r194] told243 (by simp [il243]) (by simp [idb_patchA]) (by simp [idb_patchA]) 4 ?_
    simp -implicitDefEqProofs only [il243, List.zipIdx_cons, List.zipIdx_nil, leafA, innerA, nodeA, patchA, Leaf.cells, Inner.cells, Node.cells, r194_c, r194_ask, decide_true, decide_false, hb, h1, he1, o1, h2, he2, go_sem, Nat.reduceEqDiff, reduceIte, Nat.reduceAdd, Nat.reduceLeDiff, Nat.reduceLT, Nat.reduceSub]
    try exact ⟨rfl, rfl, rfl, rfl⟩
  by_cases he3 : e3 = 0
  rotate_left
  · rw [lget_eq h1 h2 h3 (p := (gpar s r3).1) (r4 := (gpar s r3).2.1) (e4 := (gpar s r3).2.2) rfl, if_neg (not_not_intro he1), if_neg (not_not_intro he2), if_pos (by rw [srcE_bad he3]; exact he3), srcE_bad he3]
    refine Fun.of0R [r194, r218] told243 (by simp [il243]) (by simp [idb_patchA]) (by simp [idb_patchA]) 4 ?_
    simp -implicitDefEqProofs only [il243, List.zipIdx_cons, List.zipIdx_nil, leafA, innerA, nodeA, patchA, Leaf.cells, Inner.cells, Node.cells, r194_c, r194_ask, r218_c, r218_ask, decide_true, decide_false, hb, h1, he1, o1, h2, he2, o2, clamp1, h3, he3, go_sem, Nat.reduceEqDiff, reduceIte, Nat.reduceAdd, Nat.reduceLeDiff, Nat.reduceLT, Nat.reduceSub]
    try exact ⟨rfl, rfl, rfl, rfl⟩
  subst he3
  by_cases hs : s ≥ 1 ∧ s ≤ 3
  rotate_left
  · rw [lget_eq h1 h2 h3 (p := (gpar s r3).1) (r4 := (gpar s r3).2.1) (e4 := (gpar s r3).2.2) rfl, if_neg (not_not_intro he1), if_neg (not_not_intro he2), if_pos (by rw [srcE_out hs]; decide), srcE_out hs]
    by_cases hs1 : s < 1
    · refine Fun.of0R [r194, r218] told243 (by simp [il243]) (by simp [idb_patchA]) (by simp [idb_patchA]) 4 ?_
      simp -implicitDefEqProofs only [il243, List.zipIdx_cons, List.zipIdx_nil, leafA, innerA, nodeA, patchA, Leaf.cells, Inner.cells, Node.cells, r194_c, r194_ask, r218_c, r218_ask, decide_true, decide_false, hb, h1, he1, o1, h2, he2, o2, clamp1, h3, hs1, go_sem, Nat.reduceEqDiff, reduceIte, Nat.reduceAdd, Nat.reduceLeDiff, Nat.reduceLT, Nat.reduceSub]
      try exact ⟨rfl, rfl, rfl, rfl⟩
    · have hs2 : s > 3 := by omega
      refine Fun.of0R [r194, r218] told243 (by simp [il243]) (by simp [idb_patchA]) (by simp [idb_patchA]) 4 ?_
      simp -implicitDefEqProofs only [il243, List.zipIdx_cons, List.zipIdx_nil, leafA, innerA, nodeA, patchA, Leaf.cells, Inner.cells, Node.cells, r194_c, r194_ask, r218_c, r218_ask, decide_true, decide_false, hb, h1, he1, o1, h2, he2, o2, clamp1, h3, hs1, hs2, go_sem, Nat.reduceEqDiff, reduceIte, Nat.reduceAdd, Nat.reduceLeDiff, Nat.reduceLT, Nat.reduceSub]
      try exact ⟨rfl, rfl, rfl, rfl⟩
  have hs1 : ¬ s < 1 := by omega
  have hs2 : ¬ s > 3 := by omega
  by_cases k3 : s = 3
  · have k3' : (s = 3) = True := eq_true k3
    rw [if_pos k3] at g4
    have ok : Leaf.Ok ⟨x, y, s, p⟩ := ⟨ho.1, ho2.1, ho4.1, hs64⟩
    rw [lget_eq h1 h2 h3 g4, if_neg (not_not_intro he1), if_neg (not_not_intro he2), if_neg (by rw [srcE_in hs]; decide)]
    by_cases he4 : e4 = 0
    rotate_left
    · rw [if_pos he4]
      refine Fun.of0R [r194, r218] told243 (by simp [il243]) (by simp [idb_patchA]) (by simp [idb_patchA]) 4 ?_
      simp -implicitDefEqProofs only [il243, List.zipIdx_cons, List.zipIdx_nil, leafA, innerA, nodeA, patchA, Leaf.cells, Inner.cells, Node.cells, r194_c, r194_ask, r218_c, r218_ask, decide_true, decide_false, hb, h1, he1, o1, h2, he2, o2, clamp1, h3, hs1, hs2, k3', ho3, h4, he4, go_sem, Nat.reduceEqDiff, reduceIte, Nat.reduceAdd, Nat.reduceLeDiff, Nat.reduceLT, Nat.reduceSub]
      try exact ⟨rfl, rfl, rfl, rfl⟩
    rw [if_neg (not_not_intro he4)]
    unfold lgetS
    by_cases hc : leafCheck ⟨x, y, s, p⟩ = 0
    · rw [if_neg (not_not_intro hc)]
      refine Fun.of0R [r194, r218, r164] told243 (by simp [il243]) (by simp [idb_patchA]) (by simp [idb_patchA]) 4 ?_
      simp -implicitDefEqProofs only [il243, List.zipIdx_cons, List.zipIdx_nil, leafA, innerA, nodeA, patchA, Leaf.cells, Inner.cells, Node.cells, r194_c, r194_ask, r218_c, r218_ask, r164_c, r164_ask, decide_true, decide_false, hb, h1, he1, o1, h2, he2, o2, clamp1, h3, hs1, hs2, k3', ho3, h4, he4, ok, hc, go_sem, Nat.reduceEqDiff, reduceIte, Nat.reduceAdd, Nat.reduceLeDiff, Nat.reduceLT, Nat.reduceSub]
      try rfl
    · rw [if_pos hc]
      refine Fun.of0R [r194, r218, r164] told243 (by simp [il243]) (by simp [idb_patchA]) (by simp [idb_patchA]) 4 ?_
      simp -implicitDefEqProofs only [il243, List.zipIdx_cons, List.zipIdx_nil, leafA, innerA, nodeA, patchA, Leaf.cells, Inner.cells, Node.cells, r194_c, r194_ask, r218_c, r218_ask, r164_c, r164_ask, decide_true, decide_false, hb, h1, he1, o1, h2, he2, o2, clamp1, h3, hs1, hs2, k3', ho3, h4, he4, ok, hc, go_sem, Nat.reduceEqDiff, reduceIte, Nat.reduceAdd, Nat.reduceLeDiff, Nat.reduceLT, Nat.reduceSub]
      refine WP.drawQ [r164] [.g 0 0, .g 0 0, .l, .h 0, .l, .l] mixed (by decide) ?_
      simp -implicitDefEqProofs only [leafA, innerA, nodeA, patchA, Leaf.cells, Inner.cells, Node.cells, r164_c, r164_ask, decide_true, decide_false, ok, go_sem, Nat.reduceEqDiff, reduceIte, Nat.reduceAdd, Nat.reduceLeDiff, Nat.reduceLT, Nat.reduceSub]
      try exact ⟨rfl, rfl, rfl, rfl⟩
  · rw [if_neg k3] at g4
    have ok : Leaf.Ok ⟨x, y, s, []⟩ := ⟨ho.1, ho2.1, .nil, hs64⟩
    rw [lget_eq h1 h2 h3 g4, if_neg (not_not_intro he1), if_neg (not_not_intro he2), if_neg (by rw [srcE_in hs]; decide), if_neg (by decide)]
    unfold lgetS
    by_cases hc : leafCheck ⟨x, y, s, []⟩ = 0
    · rw [if_neg (not_not_intro hc)]
      refine Fun.of0R [r194, r218, r164] told243 (by simp [il243]) (by simp [idb_patchA]) (by simp [idb_patchA]) 4 ?_
      simp -implicitDefEqProofs only [il243, List.zipIdx_cons, List.zipIdx_nil, leafA, innerA, nodeA, patchA, Leaf.cells, Inner.cells, Node.cells, r194_c, r194_ask, r218_c, r218_ask, r164_c, r164_ask, decide_true, decide_false, hb, h1, he1, o1, h2, he2, o2, clamp1, h3, hs1, hs2, k3, ok, hc, go_sem, Nat.reduceEqDiff, reduceIte, Nat.reduceAdd, Nat.reduceLeDiff, Nat.reduceLT, Nat.reduceSub]
      try rfl
    · rw [if_pos hc]
      refine Fun.of0R [r194, r218, r164] told243 (by simp [il243]) (by simp [idb_patchA]) (by simp [idb_patchA]) 4 ?_
      simp -implicitDefEqProofs only [il243, List.zipIdx_cons, List.zipIdx_nil, leafA, innerA, nodeA, patchA, Leaf.cells, Inner.cells, Node.cells, r194_c, r194_ask, r218_c, r218_ask, r164_c, r164_ask, decide_true, decide_false, hb, h1, he1, o1, h2, he2, o2, clamp1, h3, hs1, hs2, k3, ok, hc, go_sem, Nat.reduceEqDiff, reduceIte, Nat.reduceAdd, Nat.reduceLeDiff, Nat.reduceLT, Nat.reduceSub]
      refine WP.drawQ [r164] [.g 0 0, .g 0 0, .l, .h 0, .l, .l] mixed (by decide) ?_
      simp -implicitDefEqProofs only [leafA, innerA, nodeA, patchA, Leaf.cells, Inner.cells, Node.cells, r164_c, r164_ask, decide_true, decide_false, ok, go_sem, Nat.reduceEqDiff, reduceIte, Nat.reduceAdd, Nat.reduceLeDiff, Nat.reduceLT, Nat.reduceSub]
      try exact ⟨rfl, rfl, rfl, rfl⟩
noncomputable def r243 : Reg seat := .of told243 (ask1 (fun a0' => isO a0' ∧ Oct (dO a0')) fun a0' => .fn (.tup [leafA (lget (dO a0')).1, octs (lget (dO a0')).2.1, .int .i64 (lget (dO a0')).2.2])) (ask1_ok fun a0' h => SaidOk.fn (Fun.weak (.cons (isO.weak h.1) .nil) (refLget_spec _ h.2)))
theorem r243_c : r243.c = 243 := rfl
open Classical in
theorem r243_ask (a0' : AV) : r243.ask [a0'] = if isO a0' ∧ Oct (dO a0') then some (Said.fn (.tup [leafA (lget (dO a0')).1, octs (lget (dO a0')).2.1, .int .i64 (lget (dO a0')).2.2])) else none := by unfold r243 Reg.of ask1; exact ite_cl
end

section
attribute [local go_sem high] qgrdW_tt
theorem refKnownN_spec (n : Node) (hn : n.Ok) : Fun seat 244 [nodeA n] (nodeA (knownN n)) := by
  unfold knownN
  by_cases hc : nodeCheck n = 0
  · rw [if_neg (not_not_intro hc)]
    refine Fun.of0R [r153] told244 (by simp [il244]) (by simp [idb_patchA]) (by simp [idb_patchA]) 4 ?_
    simp -implicitDefEqProofs only [il244, List.zipIdx_cons, List.zipIdx_nil, leafA, innerA, nodeA, patchA, Leaf.cells, Inner.cells, Node.cells, r153_c, r153_ask, decide_true, decide_false, hn, hc, go_sem, Nat.reduceEqDiff, reduceIte, Nat.reduceAdd, Nat.reduceLeDiff, Nat.reduceLT, Nat.reduceSub]
    try exact ⟨rfl, rfl, rfl, rfl, rfl, rfl, rfl, rfl⟩
  · rw [if_pos hc]
    refine Fun.of0R [r153] told244 (by simp [il244]) (by simp [idb_patchA]) (by simp [idb_patchA]) 4 ?_
    simp -implicitDefEqProofs only [il244, List.zipIdx_cons, List.zipIdx_nil, leafA, innerA, nodeA, patchA, Leaf.cells, Inner.cells, Node.cells, r153_c, r153_ask, decide_true, decide_false, hn, hc, go_sem, Nat.reduceEqDiff, reduceIte, Nat.reduceAdd, Nat.reduceLeDiff, Nat.reduceLT, Nat.reduceSub]
    try exact ⟨rfl, rfl, rfl, rfl, rfl, rfl, rfl, rfl⟩
noncomputable def r244 : Reg seat := .of told244 (ask1 (fun a0' => isN a0' ∧ (dN a0').Ok) fun a0' => .fn (nodeA (knownN (dN a0')))) (ask1_ok fun a0' h => SaidOk.fn (Fun.weak (.cons (isN.weak h.1) .nil) (refKnownN_spec _ h.2)))
theorem r244_c : r244.c = 244 := rfl
open Classical in
theorem r244_ask (a0' : AV) : r244.ask [a0'] = if isN a0' ∧ (dN a0').Ok then some (Said.fn (nodeA (knownN (dN a0')))) else none := by unfold r244 Reg.of ask1; exact ite_cl
theorem knownN_kind (n : Node) : (knownN n).kind = 0 ∨ (knownN n).kind = 1 ∨ (knownN n).kind = 2 := by
  unfold knownN
  split
  · exact .inl rfl
  · rename_i h
    have h := Classical.not_not.1 h
    unfold nodeCheck at h
    split at h
    · cases h
    · omega
set_option maxHeartbeats 1000000 in
theorem refNput_spec (b : List Int) (n : Node) (hb : b.length ≤ 4200000000) (hn : n.Ok) : Fun seat 238 [octs b, nodeA n] (octs (nput b n)) := by
  have hk := knownN_ok hn
  have hi := hk.inner
  have hl := hk.leaf
  have b1 : b.length ≤ 4294960000 := by omega
  have b2 : (fput b true).length ≤ 4294960000 := by rw [fput_len]; omega
  have b3 : (fput b true ++ beK 1 (knownN n).kind).length ≤ 4280000000 := by rw [List.length_append, fput_len, beK1_len]; omega
  have b4 : (fput b true ++ beK 1 (knownN n).kind).length ≤ 4270000000 := by rw [List.length_append, fput_len, beK1_len]; omega
  rcases knownN_kind n with h | h | h
  · have h' : ((knownN n).kind = 0) = True := eq_true h
    have h1 : ¬ (knownN n).kind = 1 := by omega
    have h2 : ¬ (knownN n).kind = 2 := by omega
    have e : nput b n = fput b false := by unfold nput; rw [if_neg h2, if_neg h1]
    rw [e]
    refine Fun.of0R [r244, r245] told238 (by simp [il238]) (by simp [idb_patchA]) (by simp [idb_patchA]) 4 ?_
    simp -implicitDefEqProofs only [il238, List.zipIdx_cons, List.zipIdx_nil, leafA, innerA, nodeA, patchA, Leaf.cells, Inner.cells, Node.cells, r244_c, r244_ask, r245_c, r245_ask, decide_true, decide_false, hn, h', h1, h2, b1, not_true_eq_false, go_sem, Nat.reduceEqDiff, reduceIte, Nat.reduceAdd, Nat.reduceLeDiff, Nat.reduceLT, Nat.reduceSub]
  · have h' : ((knownN n).kind = 1) = True := eq_true h
    have h1 : ¬ (knownN n).kind = 0 := by omega
    have h2 : ¬ (knownN n).kind = 2 := by omega
    have e : nput b n = lput (fput b true ++ beK 1 (knownN n).kind) (knownN n).leaf := by unfold nput; rw [if_neg h2, if_pos h, h]
    rw [e]
    refine Fun.of0R [r244, r245, r221f, r246] told238 (by simp [il238]) (by simp [idb_patchA]) (by simp [idb_patchA]) 4 ?_
    simp -implicitDefEqProofs only [il238, List.zipIdx_cons, List.zipIdx_nil, leafA, innerA, nodeA, patchA, Leaf.cells, Inner.cells, Node.cells, r244_c, r244_ask, r245_c, r245_ask, r221f_c, r221f_ask, r246_c, r246_ask, decide_true, decide_false, hn, h', h1, h2, b1, b2, b4, hl, clamp1, not_false_eq_true, go_sem, Nat.reduceEqDiff, reduceIte, Nat.reduceAdd, Nat.reduceLeDiff, Nat.reduceLT, Nat.reduceSub]
  · have h' : ((knownN n).kind = 2) = True := eq_true h
    have h1 : ¬ (knownN n).kind = 0 := by omega
    have h2 : ¬ (knownN n).kind = 1 := by omega
    have e : nput b n = iput (fput b true ++ beK 1 (knownN n).kind) (knownN n).inner := by unfold nput; rw [if_pos h, h]
    rw [e]
    refine Fun.of0R [r244, r245, r221f, r184] told238 (by simp [il238]) (by simp [idb_patchA]) (by simp [idb_patchA]) 4 ?_
    simp -implicitDefEqProofs only [il238, List.zipIdx_cons, List.zipIdx_nil, leafA, innerA, nodeA, patchA, Leaf.cells, Inner.cells, Node.cells, r244_c, r244_ask, r245_c, r245_ask, r221f_c, r221f_ask, r184_c, r184_ask, decide_true, decide_false, hn, h', h1, h2, b1, b2, b3, hi, clamp1, not_false_eq_true, go_sem, Nat.reduceEqDiff, reduceIte, Nat.reduceAdd, Nat.reduceLeDiff, Nat.reduceLT, Nat.reduceSub]
noncomputable def r238 : Reg seat := .of told238 (ask2 (fun a0' a1' => isO a0' ∧ isN a1' ∧ (dO a0').length ≤ 4200000000 ∧ (dN a1').Ok) fun a0' a1' => .fn (octs (nput (dO a0') (dN a1')))) (ask2_ok fun a0' a1' h => SaidOk.fn (Fun.weak (.cons (isO.weak h.1) (.cons (isN.weak h.2.1) .nil)) (refNput_spec _ _ h.2.2.1 h.2.2.2)))
theorem r238_c : r238.c = 238 := rfl
open Classical in
theorem r238_ask (a0' a1' : AV) : r238.ask [a0', a1'] = if isO a0' ∧ isN a1' ∧ (dO a0').length ≤ 4200000000 ∧ (dN a1').Ok then some (Said.fn (octs (nput (dO a0') (dN a1')))) else none := by unfold r238 Reg.of ask2; exact ite_cl
end

set_option maxHeartbeats 1000000 in
theorem refNamed_spec (t : List Node) (ht : Tree.Ok t) : Fun seat 330 [nodes t] (.bool (decide (NamedT t))) := by
  have ok := known_ok ht
  have hl := known_len t
  have hs := known_sane t
  obtain ⟨a, ha⟩ : ∃ a, known t = a := ⟨_, rfl⟩
  have hn : NamedT t ↔ NamedK a := by rw [← ha]; exact Iff.rfl
  rw [ha] at ok hl hs
  obtain ⟨B, hB⟩ : ∃ B, decide (NamedT t) = B := ⟨_, rfl⟩
  rw [hB]
  refine Fun.of0W told330 (by simp [il330]) (by simp ) (by simp ) 4 ?_
  simp only [il330, List.zipIdx_cons, List.zipIdx_nil]
  refine WP.seqR [] fun K hK => ?_
  simp -implicitDefEqProofs only [leafA, innerA, nodeA, patchA, Leaf.cells, Inner.cells, Node.cells, decide_true, decide_false, go_sem, Nat.reduceEqDiff, reduceIte, Nat.reduceAdd, Nat.reduceLeDiff, Nat.reduceLT, Nat.reduceSub]
  refine hK _ ?_
  clear hK K
  refine WP.seqR [r137] fun K hK => ?_
  simp -implicitDefEqProofs only [leafA, innerA, nodeA, patchA, Leaf.cells, Inner.cells, Node.cells, r137_c, r137_ask, decide_true, decide_false, ht, ha, go_sem, Nat.reduceEqDiff, reduceIte, Nat.reduceAdd, Nat.reduceLeDiff, Nat.reduceLT, Nat.reduceSub]
  refine hK _ ?_
  clear hK K
  refine WP.seqR [] fun K hK => ?_
  simp -implicitDefEqProofs only [leafA, innerA, nodeA, patchA, Leaf.cells, Inner.cells, Node.cells, decide_true, decide_false, go_sem, Nat.reduceEqDiff, reduceIte, Nat.reduceAdd, Nat.reduceLeDiff, Nat.reduceLT, Nat.reduceSub]
  refine WP.weakL [(3, nodes a), (4, .int .i64 0)] ?_ ?_
  · simp only [envL_cons, Nat.reduceEqDiff, reduceIte, List.mem_cons, List.not_mem_nil, or_false, forall_eq_or_imp, forall_eq, weak_refl, and_self]
  refine WP.loop0 (fun j => j ≤ a.length ∧ ∀ x, x < j → ((nodeAt a x).inner.unmerged.any fun i => !namedB a x i) = false) (fun j => [(3, nodes a), (4, .int .i64 (j : Nat))]) (fun j => a.length - j) 0 ⟨Nat.zero_le _, fun x h => absurd h (Nat.not_lt_zero x)⟩ (fun j _ => by simp ) (by simp ) ?_
  rintro j ⟨hj, hno⟩
  by_cases hlt : (j : Int) < (a.length : Nat)
  rotate_left
  · obtain rfl : B = true := hB.symm.trans (decide_eq_true (hn.2 (namedK_at hno (by omega))))
    refine wpc_soundR [] ?_
    simp -implicitDefEqProofs only [leafA, innerA, nodeA, patchA, Leaf.cells, Inner.cells, Node.cells, decide_true, decide_false, hlt, go_sem, Nat.reduceEqDiff, reduceIte, Nat.reduceAdd, Nat.reduceLeDiff, Nat.reduceLT, Nat.reduceSub]
    refine hK _ ?_
    refine wpc_soundR [] ?_
    simp -implicitDefEqProofs only [leafA, innerA, nodeA, patchA, Leaf.cells, Inner.cells, Node.cells, decide_true, decide_false, go_sem, Nat.reduceEqDiff, reduceIte, Nat.reduceAdd, Nat.reduceLeDiff, Nat.reduceLT, Nat.reduceSub]
  have hj' : j < a.length := by omega
  refine WP.seq (wpc_soundR [] ?_)
  simp -implicitDefEqProofs only [leafA, innerA, nodeA, patchA, Leaf.cells, Inner.cells, Node.cells, decide_true, decide_false, hlt, go_sem, Nat.reduceEqDiff, reduceIte, Nat.reduceAdd, Nat.reduceLeDiff, Nat.reduceLT, Nat.reduceSub]
  refine WP.seq (WP.block (WP.seqR [] fun K2 hK2 => ?_))
  simp -implicitDefEqProofs only [leafA, innerA, nodeA, patchA, Leaf.cells, Inner.cells, Node.cells, decide_true, decide_false, fun H => ix_nodes H a j hj', go_sem, Nat.reduceEqDiff, reduceIte, Nat.reduceAdd, Nat.reduceLeDiff, Nat.reduceLT, Nat.reduceSub]
  refine hK2 _ ?_
  clear hK2 K2
  have un : ∀ i ∈ a[j].inner.unmerged, 0 ≤ i ∧ i ≤ 63 := fun i hi => unm_in hs hj' hi
  have uo := fun (h : a[j].inner.unmerged ≠ []) => (unm_odd hs hj' (i := a[j].inner.unmerged.head h) (by rw [nodeAt_lt hj']; exact List.head_mem h)).1
  obtain ⟨u, hu⟩ : ∃ u, a[j].inner.unmerged = u := ⟨_, rfl⟩
  have hus : u.length ≤ 140737488355328 := by rw [← hu]; exact unm_small (ok.2 _ (List.getElem_mem hj'))
  rw [hu] at un uo ⊢
  refine wpc_soundR [] ?_
  simp -implicitDefEqProofs only [leafA, innerA, nodeA, patchA, Leaf.cells, Inner.cells, Node.cells, decide_true, decide_false, go_sem, Nat.reduceEqDiff, reduceIte, Nat.reduceAdd, Nat.reduceLeDiff, Nat.reduceLT, Nat.reduceSub]
  refine WP.weakL [(3, nodes a), (4, .int .i64 (j : Nat)), (5, ints u), (6, .int .i64 0)] ?_ ?_
  · simp only [envL_cons, Nat.reduceEqDiff, reduceIte, List.mem_cons, List.not_mem_nil, or_false, forall_eq_or_imp, forall_eq, weak_refl, and_self]
  refine WP.loop0 (fun k => k ≤ u.length ∧ ∀ q (h : q < u.length), q < k → namedB a j u[q] = true) (fun k => [(3, nodes a), (4, .int .i64 (j : Nat)), (5, ints u), (6, .int .i64 (k : Nat))]) (fun k => u.length - k) 0 ⟨Nat.zero_le _, fun q _ h => absurd h (Nat.not_lt_zero q)⟩ (fun k _ => by simp ) (by simp ) ?_
  rintro k ⟨hk, hnk⟩
  refine wpc_soundR [r347] ?_
  by_cases hkl : (k : Int) < (u.length : Nat)
  · have hk' : k < u.length := by omega
    have hodd : ((j : Nat) : Int) % 2 = 1 := by have := uo (by intro h; rw [h] at hk'; cases hk'); omega
    have hi := un _ (List.getElem_mem hk')
    cases hb : namedB a j u[k] with
    | true =>
      simp -implicitDefEqProofs only [leafA, innerA, nodeA, patchA, Leaf.cells, Inner.cells, Node.cells, r347_c, r347_ask, decide_true, decide_false, hkl, fun H => index_ints H u k hk', ok, hl, hi, hodd, hb, and_self, not_true_eq_false, go_sem, Nat.reduceEqDiff, reduceIte, Nat.reduceAdd, Nat.reduceLeDiff, Nat.reduceLT, Nat.reduceSub]
      refine ⟨k + 1, ⟨hk', fun q h hq => ?_⟩, by omega, by simp [wrapS (show k < 9223372036854775807 by omega)]⟩
      by_cases e : q = k
      · subst e; exact hb
      · exact hnk q h (by omega)
    | false =>
      obtain rfl : B = false := hB.symm.trans (decide_eq_false fun h => by
        have := (hn.1 h) j hj' u[k] (by rw [nodeAt_lt hj', hu]; exact List.getElem_mem hk')
        rw [hb] at this; cases this)
      simp -implicitDefEqProofs only [leafA, innerA, nodeA, patchA, Leaf.cells, Inner.cells, Node.cells, r347_c, r347_ask, decide_true, decide_false, hkl, fun H => index_ints H u k hk', ok, hl, hi, hodd, hb, and_self, not_false_eq_true, go_sem, Nat.reduceEqDiff, reduceIte, Nat.reduceAdd, Nat.reduceLeDiff, Nat.reduceLT, Nat.reduceSub]
  · simp -implicitDefEqProofs only [leafA, innerA, nodeA, patchA, Leaf.cells, Inner.cells, Node.cells, r347_c, r347_ask, decide_true, decide_false, hkl, go_sem, Nat.reduceEqDiff, reduceIte, Nat.reduceAdd, Nat.reduceLeDiff, Nat.reduceLT, Nat.reduceSub]
    refine wpc_soundR [] ?_
    simp -implicitDefEqProofs only [leafA, innerA, nodeA, patchA, Leaf.cells, Inner.cells, Node.cells, decide_true, decide_false, go_sem, Nat.reduceEqDiff, reduceIte, Nat.reduceAdd, Nat.reduceLeDiff, Nat.reduceLT, Nat.reduceSub]
    refine ⟨j + 1, ⟨hj', fun x hx => ?_⟩, by omega, by simp [wrapS (show j < 9223372036854775807 by omega)]⟩
    by_cases e : x = j
    · subst e
      rw [nodeAt_lt hj', hu, Bool.eq_false_iff]
      intro h
      obtain ⟨i, hi, hb⟩ := List.any_eq_true.1 h
      obtain ⟨q, hq, rfl⟩ := List.getElem_of_mem hi
      rw [hnk q hq (by omega)] at hb
      cases hb
    · exact hno x (by omega)
noncomputable def r330 : Reg seat := .of told330 (ask1 (fun a0' => isNs a0' ∧ Tree.Ok (dNs a0')) fun a0' => .fn (.bool (decide (NamedT (dNs a0'))))) (ask1_ok fun a0' h => SaidOk.fn (Fun.weak (.cons (isNs.weak h.1) .nil) (refNamed_spec _ h.2)))
theorem r330_c : r330.c = 330 := rfl
open Classical in
theorem r330_ask (a0' : AV) : r330.ask [a0'] = if isNs a0' ∧ Tree.Ok (dNs a0') then some (Said.fn (.bool (decide (NamedT (dNs a0'))))) else none := by unfold r330 Reg.of ask1; exact ite_cl
set_option maxHeartbeats 1000000 in
theorem refPut_spec (t : List Node) (ht : Tree.Ok t) : Fun seat 332 [nodes t] (octs (putT t)) := by
  have ok := known_ok ht
  have hl := known_len t
  obtain ⟨l1, l2⟩ := lastT_le t
  have lk := lastT_known t
  unfold putT
  obtain ⟨a, ha⟩ : ∃ a, known t = a := ⟨_, rfl⟩
  rw [ha] at ok hl lk l2 ⊢
  obtain ⟨m, hm⟩ : ∃ m : Nat, lastT t + 1 = m := ⟨(lastT t + 1).toNat, by omega⟩
  rw [hm, Int.toNat_natCast] at l2 ⊢
  have pb : ∀ k, (putL (a.take k)).length ≤ 4200000000 := fun k => by
    have := putL_len (a.take k)
    rw [List.length_take] at this; omega
  refine Fun.of0W told332 (by simp [il332]) (by simp ) (by simp ) 4 ?_
  simp only [il332, List.zipIdx_cons, List.zipIdx_nil]
  refine WP.seqR [] fun K hK => ?_
  simp -implicitDefEqProofs only [leafA, innerA, nodeA, patchA, Leaf.cells, Inner.cells, Node.cells, decide_true, decide_false, go_sem, Nat.reduceEqDiff, reduceIte, Nat.reduceAdd, Nat.reduceLeDiff, Nat.reduceLT, Nat.reduceSub]
  refine hK _ ?_
  clear hK K
  refine WP.seqR [r137] fun K hK => ?_
  simp -implicitDefEqProofs only [leafA, innerA, nodeA, patchA, Leaf.cells, Inner.cells, Node.cells, r137_c, r137_ask, decide_true, decide_false, ht, ha, go_sem, Nat.reduceEqDiff, reduceIte, Nat.reduceAdd, Nat.reduceLeDiff, Nat.reduceLT, Nat.reduceSub]
  refine hK _ ?_
  clear hK K
  refine WP.seqR [] fun K hK => ?_
  simp -implicitDefEqProofs only [leafA, innerA, nodeA, patchA, Leaf.cells, Inner.cells, Node.cells, decide_true, decide_false, go_sem, Nat.reduceEqDiff, reduceIte, Nat.reduceAdd, Nat.reduceLeDiff, Nat.reduceLT, Nat.reduceSub]
  refine hK _ ?_
  clear hK K
  refine WP.seqR [] fun K hK => ?_
  simp -implicitDefEqProofs only [leafA, innerA, nodeA, patchA, Leaf.cells, Inner.cells, Node.cells, decide_true, decide_false, go_sem, Nat.reduceEqDiff, reduceIte, Nat.reduceAdd, Nat.reduceLeDiff, Nat.reduceLT, Nat.reduceSub]
  refine WP.weakL [(3, nodes a), (4, octs []), (5, .int .i64 0)] ?_ ?_
  · simp only [envL_cons, Nat.reduceEqDiff, reduceIte, List.mem_cons, List.not_mem_nil, or_false, forall_eq_or_imp, forall_eq, weak_refl, weak_nilO, and_self]
  refine WP.loop0 (fun k => k ≤ m) (fun k => [(3, nodes a), (4, octs (putL (a.take k))), (5, .int .i64 (k : Nat))]) (fun k => m - k) 0 (Nat.zero_le _) (fun k _ => by simp ) (by simp [putL_nil]) ?_
  intro k hk
  refine wpc_soundR [r297, r238] ?_
  by_cases hlt : k < m
  · have hk' : k < a.length := by omega
    have okk := ok.2 _ (List.getElem_mem hk')
    have pbk := pb k
    have e := putL_take a hk'
    have hle : ((k : Int) ≤ lastT t) = True := eq_true (by omega)
    simp -implicitDefEqProofs only [leafA, innerA, nodeA, patchA, Leaf.cells, Inner.cells, Node.cells, r297_c, r297_ask, r238_c, r238_ask, decide_true, decide_false, ok, lk, hle, fun H => ix_nodes H a k hk', okk, pbk, go_sem, Nat.reduceEqDiff, reduceIte, Nat.reduceAdd, Nat.reduceLeDiff, Nat.reduceLT, Nat.reduceSub]
    exact ⟨k + 1, by omega, by omega, by simp [wrapS (show k < 9223372036854775807 by omega), e]⟩
  · have e : k = m := by omega
    subst e
    have pbS2 : (putL (a.take k)).length ≤ 4290000000 := by have := pb k; omega
    have hle : ¬ ((k : Int) ≤ lastT t) := by omega
    simp -implicitDefEqProofs only [leafA, innerA, nodeA, patchA, Leaf.cells, Inner.cells, Node.cells, r297_c, r297_ask, r238_c, r238_ask, decide_true, decide_false, ok, lk, hle, go_sem, Nat.reduceEqDiff, reduceIte, Nat.reduceAdd, Nat.reduceLeDiff, Nat.reduceLT, Nat.reduceSub]
    refine hK _ ?_
    refine wpc_soundR [r199] ?_
    simp -implicitDefEqProofs only [leafA, innerA, nodeA, patchA, Leaf.cells, Inner.cells, Node.cells, r199_c, r199_ask, decide_true, decide_false, pbS2, go_sem, Nat.reduceEqDiff, reduceIte, Nat.reduceAdd, Nat.reduceLeDiff, Nat.reduceLT, Nat.reduceSub]
noncomputable def r332 : Reg seat := .of told332 (ask1 (fun a0' => isNs a0' ∧ Tree.Ok (dNs a0')) fun a0' => .fn (octs (putT (dNs a0')))) (ask1_ok fun a0' h => SaidOk.fn (Fun.weak (.cons (isNs.weak h.1) .nil) (refPut_spec _ h.2)))
theorem r332_c : r332.c = 332 := rfl
open Classical in
theorem r332_ask (a0' : AV) : r332.ask [a0'] = if isNs a0' ∧ Tree.Ok (dNs a0') then some (Said.fn (octs (putT (dNs a0')))) else none := by unfold r332 Reg.of ask1; exact ite_cl
end Go.Proofs.YtihhinbjhiankaaGreatDoor.Al

set_option linter.unusedSimpArgs false
set_option linter.unusedVariables false
namespace Go.Proofs.YtihhinbjhiankaaGreatDoor.Al
open Go
attribute [local go_sem] W_mv W_pick W_alloc W_box W_build W_bslice W_load W_store W_bin W_isnil W_un W_convI W_convS W_mkiface W_mkfunc W_slice W_faddr W_iaddr W_idxA W_extract W_len W_min W_max W_append thenQ_normal thenQ_exit thenQ_ret blockQ_normal blockQ_ret blockQ_exit wpc_skip wpc_region wpc_draw wpc_seq wpc_cond wpc_block wpc_exit wpc_ret wpc_loop wpc_range condW_true condW_false condW_dec condW_any W_nil W_call resW_some evalOp Opd.ev updo_envL updo_none setL_cons setL_nil envL_cons Option.map_some Option.bind_some evBin evInt List.map_cons List.map_nil Option.pure_def Option.bind_eq_bind W_grd' grdW_tt grdW_ff grdW_tf grdW_ft grdW_tup grdW_dt grdW_df L_mv L_load L_bin L_un L_faddr L_iaddr L_nil L_call lresW_some upd_envL evUn beq_dec bne_dec leaves_ret1 leaves_ret0 leaves_end0 rowLen_ints load_iptr0 not_dec heap_get0 heap_get1 heap_set0 heap_set1 heap_len1 heap_app bslice1_int seen_one0 Nat.sub_zero Bool.not_true Bool.not_false List.length_nil List.length_cons List.nil_append List.cons_append Nat.zero_add canon_ptrI canon_bool canon_tup canon_agg canon_ints' canon_ints0 rowLen_octs seen_octs canon_octs' rowLen_nodes canon_nodes' rowLen_nodes0 rowLen_nodes3 seen_list cells_int oneIn_int cells_bool oneIn_bool cells_list oneIn_list cells_func oneIn_func cells_own cells_ptr cells_agg oneIn_own0 oneIn_own1 seenL1 seenM1 oneIn_ptr2 seenL2 oneIn_own3 seenL3 cells_ints oneIn_ints cells_octs oneIn_octs cells_nodes oneIn_nodes ldB0 ldA0 adB0 stB0 ldB1 ldA1 adB1 stB1 ldB2 ldA2 adB2 stB2 ldB3 stB3 List.getElem?_cons_zero List.getElem?_cons_succ beq_self_eq_true splice List.take_zero List.take_succ_cons List.drop_zero List.drop_succ_cons List.append_nil List.set_cons_zero List.set_cons_succ List.all_cons List.all_nil Bool.and_self and_self and_true true_and Nat.lt_irrefl Nat.zero_lt_one Nat.le_refl fillA evNil notA Bool.false_eq_true evMin_int evMax_int Option.map_none freezeP_all_nil freezeP_all_cons frzE_box frzE_arr foldA List.foldlM_cons List.foldlM_nil callW_f lcallW_f ansW_fn ansW_own lansW_fn ansW_none tab_cons tab_nil dI_int dB_bool dO_octs dO_ints dO_list dO_nil dN_nodeA dLf_agg dIn_agg dN_agg dNs_nodes dNs_nil isI_int isB_bool isO_octs isO_nil isO_list isS_ints isS_nil isNs_nodes isNs_nil isN_nodeA isLf_agg isIn_agg isN_agg leaf_eta inner_eta node_eta leaf_zero inner_zero decide_eq_true_eq decide_eq_false_iff_not eq_self forall_const true_implies false_implies Bool.not_eq_true' Bool.not_eq_false' Bool.true_eq_false implies_true ne_eq ldI ldIA adI AV.tup.injEq AV.agg.injEq List.cons.injEq AV.int.injEq AV.bool.injEq nodes_inj octs_inj ints_inj nil_nodes nil_octs nil_ints canon_nilL decide_eq_decide two_ne four_ne b256_ne lendA_own lendA_none isO_own false_and and_false Q_nil Q_l Q_g Q_h Q_grd qgrdW_b lightD_some heavyD_some readD_some fnD_some callL_f Q_call pendOk_nil pendOk_cons pastOk_nil Q_mv Q_pick Q_bin Q_extract Q_min Q_load Q_slice Q_len H_store free_mv free_pick free_bin free_extract free_min free_load free_slice free_len callW_y List.length_map List.length_set leaves_r evR_some evRess1 evRess2 evRess3 evRes_t evRes_c nz_kind nz_enc nz_cred nz_source nz_parent nz_ienc nz_hash nz_un true_or or_true bsl_node appI appO canon_rowI canon_rowO not_false_eq_true not_true_eq_false ldE_a ldE_c adE_b stE_b onP_b
attribute [local go_sem low] condW_b ldP adP stP onO
attribute [local simp] envL_cons envL_nil idb_int idb_bool idb_ints idb_nil idb_own idb_ptr idb_octs idb_nodes idb_leafA idb_innerA idb_nodeA idb_agg idb_tup idb_iptr idb_fn entB_dead entB_box
def GivesP (S : Seat) (c : Nat) (cap : List AV) (p : Nat) (st : Entry) (xs : List (List AV)) : Prop :=
  ∀ (id : Nat) (H0 : List Entry) (J : Nat → List Entry → Prop) (Jx : List Entry → Prop), H0[p]? = some st → J 0 H0 → (∀ k H e, J k H → J k (H.set p e)) → (∀ k H X, J k H → J k (H ++ X)) →
    (∀ k (hk : k < xs.length) H1, J k H1 → AYield S id xs[k] H1 (fun r H2 => (r = .bool true ∧ H2[p]? = H1[p]? ∧ J (k + 1) H2) ∨ (r = .bool false ∧ Jx H2))) →
    ACall S c ([.func (.y id) [] []] ++ cap) H0 (fun _ H' => J xs.length H' ∨ Jx H')

section
variable {S : Seat}
theorem WP.rangeP {N b : Nat} {Q : Exit → St → Prop} {H : List Entry} {env : Env} {g : Opd} {ps : List Nat} {assign body : IC} {c : Nat} {cap : List AV} (p : Nat) (st : Entry) (xs : List (List AV)) (hg : g.ev env = .func (.f c) [] cap) (hcb : Callable S c) (hG : GivesP S c cap p st xs)
    (hps : ∀ x ∈ xs, x.length = ps.length) (G : Nat → Entry → List Entry) (P : Nat → Prop) (hp : p < H.length) (hlen : ∀ k e, (G k e).length = H.length) (hGp : ∀ k e, (G k e)[p]? = some e) (hGs : ∀ k e e', (G k e).set p e' = G k e') (hP : P 0) (h0 : G 0 st = H)
    (hround : ∀ k (hk : k < xs.length) (e : Entry), P k → ∀ (l : Nat) (T : List Entry) (b : Nat), b = H.length + T.length → WP S (some l) N b assign (fun x s => x = .normal ∧ ∃ X, s.H = G k e ++ (T ++ X) ∧
      ∀ T', T'.length = T.length → WP S (some l) N b body (RoundQ (fun k => G k e) P H.length Q env k T') ⟨s.env, G k e ++ (T' ++ X)⟩) ⟨setPs env ps xs[k], G k e ++ T⟩)
    (hend : P xs.length → ∀ e T, Q .normal ⟨env, G xs.length e ++ T⟩) : WP S none N b (.rangeFunc g ps assign body) Q ⟨env, H⟩ := by
  refine WP.range (first := []) hg hcb fun L hy => ?_
  have getT : ∀ (A T : List Entry), A.length = H.length → (A ++ T)[H.length]? = T[0]? := fun A T h => by
    rw [List.getElem?_append_right (by omega), h, Nat.sub_self]
  have setT : ∀ (A T : List Entry) (x : Entry), A.length = H.length → (A ++ T).set H.length x = A ++ T.set 0 x := fun A T x h => by
    rw [List.set_append_right _ _ (by omega), h, Nat.sub_self]
  have getp : ∀ k e T, (G k e ++ T)[p]? = some e := fun k e T => by rw [List.getElem?_append_left (by rw [hlen]; exact hp), hGp]
  refine (hG H.length _ (fun k H1 => P k ∧ ∃ e T, H1 = G k e ++ T ∧ T[0]? = some (L .ready)) (fun H1 => ∃ j H2 T, H1 = H2 ++ T ∧ H2.length = H.length ∧ T[0]? = some (L (.done j)) ∧ ∀ T3, Q j.leave ⟨env, H2 ++ T3⟩) ?_ ⟨hP, st, [L .ready], by rw [h0], rfl⟩ ?_ ?_ ?_).mono ?_
  · rw [← h0]; exact getp 0 st _
  · rintro k _ e' ⟨a, e, T, rfl, hT⟩
    exact ⟨a, e', T, by rw [List.set_append_left _ _ (by rw [hlen]; exact hp), hGs], hT⟩
  · rintro k _ X ⟨a, e, T, rfl, hT⟩
    exact ⟨a, e, T ++ X, by rw [List.append_assoc], by rw [List.getElem?_append_left (lt_of_get hT)]; exact hT⟩
  · rintro k hk H1 ⟨hpk, e, T, rfl, hT⟩
    have hT0 : 0 < T.length := lt_of_get hT
    refine hy _ _ _ ⟨by rw [getT _ _ (hlen k e)]; exact hT, hps _ (List.getElem_mem hk), fun l => ?_⟩
    refine WP.mono (hround k hk e hpk l T _ (by simp [hlen])) ?_
    rintro x s ⟨rfl, X, hH, hbody⟩
    have hTX : (T ++ X)[0]? = T[0]? := List.getElem?_append_left hT0
    have hTS : ∀ x, (T ++ X).set 0 x = T.set 0 x ++ X := fun x => by rw [List.set_append_left _ _ hT0]
    refine ⟨rfl, by rw [hH, getT _ _ (hlen k e), hTX]; exact hT, ?_⟩
    rw [hH, setT _ _ _ (hlen k e), hTS]
    have hb := hbody (T.set 0 (L .busy)) (by simp)
    refine WP.mono hb ?_
    rintro e' st' ⟨H2, T2, h1, h2, h3, h4⟩
    have hbz : T2[0]? = some (L .busy) := by
      rw [h3 0 (by simpa using hT0), List.getElem?_set_self hT0]
    refine ⟨by rw [h1, getT _ _ h2]; exact hbz, ?_⟩
    have hl2 := lt_of_get hbz
    cases e' with
    | normal =>
      obtain ⟨h5, rfl⟩ := h4
      exact .inl ⟨rfl, by rw [h1, setT _ _ _ h2, getp, getp], h5, e, T2.set 0 (L .ready), by rw [h1, setT _ _ _ h2], List.getElem?_set_self hl2⟩
    | _ =>
      obtain ⟨j, h5, h6⟩ := h4
      exact ⟨j, h5, .inr ⟨rfl, j, H2, T2.set 0 (L (.done j)), by rw [h1, setT _ _ _ h2], h2, List.getElem?_set_self hl2, h6⟩⟩
  · rintro r H' (⟨hpe, e, T, rfl, hT⟩ | ⟨j, H2, T, rfl, h2, hT, hq⟩)
    · refine .inl ⟨by rw [getT _ _ (hlen _ _)]; exact hT, ?_⟩
      rw [setT _ _ _ (hlen _ _)]
      exact hend hpe _ _
    · refine .inr ⟨j, by rw [getT _ _ h2]; exact hT, ?_⟩
      rw [setT _ _ _ h2]
      exact hq _

end

theorem nget_rest {b : List Int} (hb : Oct b) : Oct (nget b).2.1 ∧ (nget b).2.1.length ≤ b.length := by
  rcases h : nget b with ⟨n, r, e⟩
  by_cases he : e = 0
  · subst he
    obtain ⟨_, hp⟩ := nget_only (bytes_of hb) h
    have hl : r.length ≤ b.length := by rw [← hp, List.length_append]; omega
    have hbl := hb.1
    simp only [Small] at hbl
    exact ⟨⟨by simp only [Small]; omega, fun x hx => hb.2 x (by rw [← hp]; exact List.mem_append_right _ hx)⟩, hl⟩
  · obtain ⟨_, rfl⟩ := nget_bad h he
    exact ⟨⟨Nat.zero_le _, fun x hx => by cases hx⟩, Nat.zero_le _⟩
theorem AYield.weak {S : Seat} {id : Nat} {args args' : List AV} {H : List Entry} {R : AV → List Entry → Prop} (hw : Weaks args args') (h : AYield S id args' H R) : AYield S id args H R :=
  fun m I X w vs hs hv => h m I X w vs hs (hw.rels hv)
def ysA (p : Node × Int) : List AV := [nodeA p.1, .int .i64 p.2]
theorem zeroY_weak : Weaks [AV.agg [.int .i64 0, .list true [], .list true [], .int .i64 0, .list true [], .list true [], .list true [], .list true []], .int .i64 10] (ysA (.zero, 10)) :=
  .cons (.agg (.cons (.refl _) (.cons (.list _ _) (.cons (.list _ _) (.cons (.refl _) (.cons (.list _ _) (.cons (.list _ _) (.cons (.list _ _) (.cons (.list _ _) .nil))))))))) (.cons (.refl _) .nil)
theorem ysF_cons {f k : Nat} {v : List Int} (hv : v ≠ []) (hk : k < 127) : ysF (f + 1) k v = ((nget v).1, errK k v) :: ysF f (k + 1) (nget v).2.1 := by
  conv => lhs; unfold ysF
  rw [if_neg hv, if_neg (by omega)]
theorem errK_two (k : Nat) (v : List Int) : errK k v = if (nget v).2.2 = 0 ∧ (nget v).1.kind = (if k % 2 = 0 then 2 else 1) then 7 else (nget v).2.2 := by
  unfold errK BadK
  by_cases h : k % 2 = 0
  · simp [h]
  · have h1 : k % 2 = 1 := by omega
    simp [h1]
theorem nodes_spec (v : List Int) (H : List Entry) : ACall seat 343 [octs v] H (fun r H' => r = .func (.f 352) [] [.ptr H.length 0] ∧ H' = H ++ [.box [octs v]]) := by
  refine ACall.of_wp told343 (by simp [il343]) ?_
  rw [start_env]
  simp only [il343, List.zipIdx_cons, List.zipIdx_nil, Nat.zero_add]
  refine wpc_soundR [] ?_
  simp -implicitDefEqProofs only [leafA, innerA, nodeA, patchA, Leaf.cells, Inner.cells, Node.cells, decide_true, decide_false, go_sem, Nat.reduceEqDiff, reduceIte, Nat.reduceAdd, Nat.reduceLeDiff, Nat.reduceLT, Nat.reduceSub]
theorem ix20 (G : List Entry) : (if 0 ≤ (0 : Int) ∧ (0 : Int) < ((2 : Nat) : Int) then Option.map (fun v => (v, G)) [AV.int IntKind.i64 2, AV.int IntKind.i64 1][Int.toNat 0 * 1]? else none) = some (.int .i64 2, G) := (rfl)
theorem ix21 (G : List Entry) : (if 0 ≤ (1 : Int) ∧ (1 : Int) < ((2 : Nat) : Int) then Option.map (fun v => (v, G)) [AV.int IntKind.i64 2, AV.int IntKind.i64 1][Int.toNat 1 * 1]? else none) = some (.int .i64 1, G) := (rfl)
set_option maxHeartbeats 2000000 in
theorem nodes1_gives (v0 : List Int) (hv0 : Oct v0) (hl0 : v0.length ≤ 4294967295) (p : Nat) : GivesP seat 352 [.ptr p 0] p (.box [octs v0]) ((ysI v0).map ysA) := by
  intro id H0 J Jx hst h0 hset happ hround
  refine ACall.of_wp told352 (by simp [il352]) ?_
  rw [start_env]
  simp only [il352, List.zipIdx_cons, List.zipIdx_nil, Nat.zero_add, List.cons_append, List.nil_append]
  refine wpc_soundR [] ?_
  simp -implicitDefEqProofs only [leafA, innerA, nodeA, patchA, Leaf.cells, Inner.cells, Node.cells, decide_true, decide_false, go_sem, Nat.reduceEqDiff, reduceIte, Nat.reduceAdd, Nat.reduceLeDiff, Nat.reduceLT, Nat.reduceSub]
  have hyl : (ysI v0).length ≤ 128 := ysF_len _ _ _
  refine WP.loopJ (fun k : Nat => [(0, .func (.y id) [] []), (1, .ptr p 0), (3, .int .i64 (k : Nat))]) (fun k H => k ≤ 127 ∧ k ≤ (ysI v0).length ∧ J k H ∧ ∃ v, H[p]? = some (.box [octs v]) ∧ Oct v ∧ v.length ≤ 4294967295 ∧ ysF (128 - k) k v = (ysI v0).drop k) (fun k => 128 - k) 0 (by simp ) ⟨by omega, Nat.zero_le _, h0, v0, hst, hv0, hl0, rfl⟩ ?_
  rintro k H ⟨hk7, hky, hj, v, hp, ho, hl, hd⟩
  obtain ⟨f, hf⟩ : ∃ f, 128 - k = f + 1 := ⟨127 - k, by omega⟩
  rw [hf] at hd
  refine WP.seq ?_
  by_cases hv : v = []
  · subst hv
    rw [ysF_nil] at hd
    have hke : k = (ysI v0).length := by
      have := congrArg List.length hd
      simp only [List.length_nil, List.length_drop] at this
      omega
    subst hke
    refine wpc_soundR [] ?_
    simp -implicitDefEqProofs only [leafA, innerA, nodeA, patchA, Leaf.cells, Inner.cells, Node.cells, decide_true, decide_false, load_box hp, List.length_nil, Int.natCast_zero, Int.lt_irrefl, go_sem, Nat.reduceEqDiff, reduceIte, Nat.reduceAdd, Nat.reduceLeDiff, Nat.reduceLT, Nat.reduceSub]
    exact .inl hj
  have hvl : (v.length : Int) > 0 := by have := List.length_pos_iff.2 hv; omega
  have hky' : k < (ysI v0).length := by
    refine Classical.byContradiction fun hn => ?_
    rw [List.drop_eq_nil_of_le (by omega)] at hd
    unfold ysF at hd
    rw [if_neg hv] at hd
    split at hd <;> cases hd
  rw [List.drop_eq_getElem_cons hky'] at hd
  have hr := hround k (by simpa using hky')
  rw [List.getElem_map] at hr
  refine wpc_soundR [] ?_
  simp -implicitDefEqProofs only [leafA, innerA, nodeA, patchA, Leaf.cells, Inner.cells, Node.cells, decide_true, decide_false, load_box hp, hvl, go_sem, Nat.reduceEqDiff, reduceIte, Nat.reduceAdd, Nat.reduceLeDiff, Nat.reduceLT, Nat.reduceSub]
  refine WP.seq (WP.block (WP.seqR [] fun K hK => ?_))
  by_cases h7 : k = 127
  · subst h7
    rw [ysF_full f hv] at hd
    obtain ⟨e1, e2⟩ := List.cons.inj hd
    have hke : (ysI v0).length = 128 := by
      have := congrArg List.length e2
      simp only [List.length_nil, List.length_drop] at this
      omega
    rw [← e1] at hr
    have h127 : (((127 : Nat) : Int) = 127) = True := eq_true rfl
    simp -implicitDefEqProofs only [leafA, innerA, nodeA, patchA, Leaf.cells, Inner.cells, Node.cells, decide_true, decide_false, h127, go_sem, Nat.reduceEqDiff, reduceIte, Nat.reduceAdd, Nat.reduceLeDiff, Nat.reduceLT, Nat.reduceSub]
    refine Callee.yld (AYield.weak zeroY_weak (hr H hj)) ?_
    rintro r H' (⟨rfl, hp', hj'⟩ | ⟨rfl, hx'⟩)
    · exact .inl (by rw [hke]; exact hj')
    · exact .inr hx'
  rw [ysF_cons hv (by omega)] at hd
  obtain ⟨e1, e2⟩ := List.cons.inj hd
  rw [← e1] at hr
  obtain ⟨ho2, hl2⟩ := nget_rest ho
  have h7' : ¬ (k : Int) = 127 := by omega
  simp -implicitDefEqProofs only [leafA, innerA, nodeA, patchA, Leaf.cells, Inner.cells, Node.cells, decide_true, decide_false, h7', go_sem, Nat.reduceEqDiff, reduceIte, Nat.reduceAdd, Nat.reduceLeDiff, Nat.reduceLT, Nat.reduceSub]
  refine hK _ ?_
  clear hK K
  have e3 := errK_two k v
  rcases hn : nget v with ⟨n, s, e⟩
  rw [hn] at ho2 hl2 e2 e3 hr
  simp only at ho2 hl2 e2 e3
  simp only [ysA] at hr
  refine WP.seqR [r189] fun K hK => ?_
  simp -implicitDefEqProofs only [leafA, innerA, nodeA, patchA, Leaf.cells, Inner.cells, Node.cells, r189_c, r189_ask, decide_true, decide_false, load_box hp, ho, hl, hn, go_sem, Nat.reduceEqDiff, reduceIte, Nat.reduceAdd, Nat.reduceLeDiff, Nat.reduceLT, Nat.reduceSub]
  refine hK _ ?_
  clear hK K
  obtain ⟨G, hG⟩ : ∃ G, H ++ [Entry.box [AV.int IntKind.i64 n.kind, octs n.leaf.enc, octs n.leaf.cred, AV.int IntKind.i64 n.leaf.source, octs n.leaf.parent, octs n.inner.enc, octs n.inner.hash, ints n.inner.unmerged]] = G := ⟨_, rfl⟩
  have hq : G[H.length]? = some (.box [AV.int IntKind.i64 n.kind, octs n.leaf.enc, octs n.leaf.cred, AV.int IntKind.i64 n.leaf.source, octs n.leaf.parent, octs n.inner.enc, octs n.inner.hash, ints n.inner.unmerged]) := by rw [← hG]; simp
  have hjG : J k G := by rw [← hG]; exact happ _ _ _ hj
  have hpG : G[p]? = some (.box [octs v]) := by rw [← hG, List.getElem?_append_left (lt_of_get hp)]; exact hp
  rw [hG]
  generalize H.length = q at *
  have hrG := hr G hjG
  obtain ⟨E, hE⟩ : ∃ E, errK k v = E := ⟨_, rfl⟩
  rw [hE] at e3 hrG
  refine WP.weakL [(0, .func (.y id) [] []), (1, .ptr p 0), (3, .int .i64 k), (4, .ptr q 0), (5, octs s), (6, .int .i64 e)] ?_ ?_
  · simp only [envL_cons, Nat.reduceEqDiff, reduceIte, List.mem_cons, List.not_mem_nil, or_false, forall_eq_or_imp, forall_eq, weak_refl, and_self]
  have lq1 : evLoad G true 8 (.ptr q 0) = some (.agg [AV.int IntKind.i64 n.kind, octs n.leaf.enc, octs n.leaf.cred, AV.int IntKind.i64 n.leaf.source, octs n.leaf.parent, octs n.inner.enc, octs n.inner.hash, ints n.inner.unmerged]) := by simp [evLoad, window, hq]
  have lq0 : evLoad G false 1 (.ptr q 0) = some (.int .i64 n.kind) := by simp [evLoad, window, hq]
  refine WP.seqR [] fun K hK => ?_
  have TAIL : ∀ env', (∀ p' ∈ [(0, AV.func (.y id) [] []), (1, .ptr p 0), (3, .int .i64 (k : Nat)), (4, .ptr q 0), (5, octs s), (6, .int .i64 E)], env' p'.1 = p'.2) → K ⟨env', G⟩ := by
    intro env' he
    refine hK _ (WP.slots he ?_)
    clear hK K
    refine WP.seqR [] fun K hK => ?_
    simp -implicitDefEqProofs only [leafA, innerA, nodeA, patchA, Leaf.cells, Inner.cells, Node.cells, decide_true, decide_false, lq1, go_sem, Nat.reduceEqDiff, reduceIte, Nat.reduceAdd, Nat.reduceLeDiff, Nat.reduceLT, Nat.reduceSub]
    simp only [nodeA, Node.cells, Leaf.cells, Inner.cells, List.cons_append, List.nil_append] at hrG
    refine Callee.yld hrG ?_
    rintro r H' (⟨rfl, hp', hj'⟩ | ⟨rfl, hx'⟩)
    · rw [hpG] at hp'
      simp -implicitDefEqProofs only [leafA, innerA, nodeA, patchA, Leaf.cells, Inner.cells, Node.cells, decide_true, decide_false, go_sem, Nat.reduceEqDiff, reduceIte, Nat.reduceAdd, Nat.reduceLeDiff, Nat.reduceLT, Nat.reduceSub]
      refine hK _ ?_
      clear hK K
      refine wpc_soundR [] ?_
      have st : evStore H' 1 (.ptr p 0) (octs s) = some (H'.set p (.box [octs s])) := store_box hp' rfl rfl
      simp -implicitDefEqProofs only [leafA, innerA, nodeA, patchA, Leaf.cells, Inner.cells, Node.cells, decide_true, decide_false, st, go_sem, Nat.reduceEqDiff, reduceIte, Nat.reduceAdd, Nat.reduceLeDiff, Nat.reduceLT, Nat.reduceSub]
      refine wpc_soundR [] ?_
      simp -implicitDefEqProofs only [leafA, innerA, nodeA, patchA, Leaf.cells, Inner.cells, Node.cells, decide_true, decide_false, go_sem, Nat.reduceEqDiff, reduceIte, Nat.reduceAdd, Nat.reduceLeDiff, Nat.reduceLT, Nat.reduceSub]
      refine ⟨k + 1, ⟨by omega, by omega, hset _ _ _ hj', s, List.getElem?_set_self (lt_of_get hp'), ho2, by omega, ?_⟩, by omega, by simp [wrapS (show k < 9223372036854775807 by omega)]⟩
      rw [show 128 - (k + 1) = f by omega]; exact e2
    · simp -implicitDefEqProofs only [leafA, innerA, nodeA, patchA, Leaf.cells, Inner.cells, Node.cells, decide_true, decide_false, go_sem, Nat.reduceEqDiff, reduceIte, Nat.reduceAdd, Nat.reduceLeDiff, Nat.reduceLT, Nat.reduceSub]
      exact .inr hx'
  have had : adE G[q]? q 0 = some (.ptr q 0) := by rw [hq]; rfl
  by_cases hm2 : k % 2 = 0
  · have hm : ((k : Nat) : Int).tmod 2 = 0 := by rw [Int.tmod_eq_emod_of_nonneg (by omega)]; omega
    rw [if_pos hm2] at e3
    by_cases hbad : e = 0 ∧ n.kind = 2
    · obtain ⟨he, hkd⟩ := hbad
      rw [if_pos ⟨he, hkd⟩] at e3
      simp -implicitDefEqProofs only [leafA, innerA, nodeA, patchA, Leaf.cells, Inner.cells, Node.cells, decide_true, decide_false, hm, ix20, eq_true he, had, lq0, eq_true hkd, go_sem, Nat.reduceEqDiff, reduceIte, Nat.reduceAdd, Nat.reduceLeDiff, Nat.reduceLT, Nat.reduceSub]
      refine TAIL _ ?_
      simp [e3]
    · rw [if_neg hbad] at e3
      by_cases he : e = 0
      · have hkd : ¬ n.kind = 2 := fun h => hbad ⟨he, h⟩
        simp -implicitDefEqProofs only [leafA, innerA, nodeA, patchA, Leaf.cells, Inner.cells, Node.cells, decide_true, decide_false, hm, ix20, eq_true he, had, lq0, hkd, go_sem, Nat.reduceEqDiff, reduceIte, Nat.reduceAdd, Nat.reduceLeDiff, Nat.reduceLT, Nat.reduceSub]
        refine TAIL _ ?_
        simp [e3]
      · simp -implicitDefEqProofs only [leafA, innerA, nodeA, patchA, Leaf.cells, Inner.cells, Node.cells, decide_true, decide_false, hm, ix20, he, go_sem, Nat.reduceEqDiff, reduceIte, Nat.reduceAdd, Nat.reduceLeDiff, Nat.reduceLT, Nat.reduceSub]
        refine TAIL _ ?_
        simp [e3]
  · have hm : ((k : Nat) : Int).tmod 2 = 1 := by rw [Int.tmod_eq_emod_of_nonneg (by omega)]; omega
    rw [if_neg hm2] at e3
    by_cases hbad : e = 0 ∧ n.kind = 1
    · obtain ⟨he, hkd⟩ := hbad
      rw [if_pos ⟨he, hkd⟩] at e3
      simp -implicitDefEqProofs only [leafA, innerA, nodeA, patchA, Leaf.cells, Inner.cells, Node.cells, decide_true, decide_false, hm, ix21, eq_true he, had, lq0, eq_true hkd, go_sem, Nat.reduceEqDiff, reduceIte, Nat.reduceAdd, Nat.reduceLeDiff, Nat.reduceLT, Nat.reduceSub]
      refine TAIL _ ?_
      simp [e3]
    · rw [if_neg hbad] at e3
      by_cases he : e = 0
      · have hkd : ¬ n.kind = 1 := fun h => hbad ⟨he, h⟩
        simp -implicitDefEqProofs only [leafA, innerA, nodeA, patchA, Leaf.cells, Inner.cells, Node.cells, decide_true, decide_false, hm, ix21, eq_true he, had, lq0, hkd, go_sem, Nat.reduceEqDiff, reduceIte, Nat.reduceAdd, Nat.reduceLeDiff, Nat.reduceLT, Nat.reduceSub]
        refine TAIL _ ?_
        simp [e3]
      · simp -implicitDefEqProofs only [leafA, innerA, nodeA, patchA, Leaf.cells, Inner.cells, Node.cells, decide_true, decide_false, hm, ix21, he, go_sem, Nat.reduceEqDiff, reduceIte, Nat.reduceAdd, Nat.reduceLeDiff, Nat.reduceLT, Nat.reduceSub]
        refine TAIL _ ?_
        simp [e3]
end Go.Proofs.YtihhinbjhiankaaGreatDoor.Al
