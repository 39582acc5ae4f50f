/-
  THE ABSTRACT CODE of the functions that are met, and that the program is told by it.
-/
import Derived.Test.YtlehcigcaihoaaaDoorAlD
import Derived.Test.YtlehcigcaihoaaaDoorAlSeat
namespace Go.Proofs.YtlehcigcaihoaaaDoor.Al
open Go

def il14 : IFn := ⟨18, [(.t 4)], (.seq (.region [⟨(some 4), (.mv (.c (.bool false))), none, []⟩] false) (.seq (.seq (.region [⟨(some 5), (.mv (.c (.int .i64 0))), none, []⟩] false) (.block 0 (.loop (.seq (.seq (.region [⟨(some 6), (.mv (.t 5)), none, []⟩, ⟨(some 7), (.mv (.t 0)), none, []⟩, ⟨(some 8), (.len (.t 7)), none, [1]⟩, ⟨(some 9), (.bin false .lss (.t 6) (.t 8)), none, [0, 2]⟩] false) (.cond (.t 9) .skip (.exit 0))) (.seq (.block 1 (.seq (.region [⟨(some 12), (.mv (.t 0)), none, []⟩, ⟨(some 13), (.mv (.t 5)), none, []⟩, ⟨(some 14), (.iaddr 1 (.t 12) (.t 13)), none, [0, 1]⟩, ⟨(some 15), (.load false 1 (.t 14)), none, [2]⟩, ⟨(some 16), (.mv (.t 1)), none, []⟩, ⟨(some 17), (.bin false .eql (.t 15) (.t 16)), none, [3, 4]⟩] false) (.cond (.t 17) (.seq (.region [⟨(some 4), (.mv (.c (.bool true))), none, []⟩] false) .ret) .skip))) (.region [⟨(some 10), (.mv (.t 5)), none, []⟩, ⟨(some 11), (.bin false .add (.t 10) (.c (.int .i64 1))), none, [0]⟩, ⟨(some 5), (.mv (.t 11)), none, [1, 0, 1]⟩] false)))))) (.seq (.region [⟨(some 4), (.mv (.c (.bool false))), none, []⟩] false) .ret)))⟩
theorem told14 : trFn seat 14 = some il14 := by kernel_rfl

end Go.Proofs.YtlehcigcaihoaaaDoor.Al
