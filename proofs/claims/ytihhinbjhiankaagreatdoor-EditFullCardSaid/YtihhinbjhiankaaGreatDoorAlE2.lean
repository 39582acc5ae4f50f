/-
  WHAT A LAW IS HANDED: leaves, inner nodes, nodes, patches.
-/
import Derived.Test.YtihhinbjhiankaaGreatDoorAlE1
import Derived.Test.YtihhinbjhiankaaGreatDoorAlR
import Derived.Test.YtihhinbjhiankaaGreatDoorAlSeat
namespace Go.Proofs.YtihhinbjhiankaaGreatDoor.Al
open Go
theorem Shape.map {S : Seat} {t : TypeId} {α β : Type} {E : α → AV} {W : α → Prop} {F : β → AV} {V : β → Prop} (h : Shape S t E W) (f : α → β) (h1 : ∀ a, (F (f a)).cells = (E a).cells) (h2 : ∀ a, W a → V (f a)) : Shape S t F V := by
  intro H enc w base sp held fuel cs x hx hsz
  obtain ⟨a, ha, ht⟩ := h hx hsz
  exact ⟨f a, h2 a ha, by rw [h1]; exact ht⟩

theorem shapeInt : Shape seat 3 (AV.int .i64) In64 := Shape.int (k := .i64) (t := 3) (by kernel_rfl)
theorem shapeU8 : Shape seat 5 (AV.int .u8) (fun n => IntKind.u8.min ≤ n ∧ n ≤ IntKind.u8.max) := Shape.int (k := .u8) (t := 5) (by kernel_rfl)
theorem shapeOct : Shape seat 23 octs Oct := Shape.slice (t := 23) (e := 5) (sz := 1) (by kernel_rfl) (by kernel_rfl) (by decide) (fun _ => rfl) shapeU8
theorem shapeNums : Shape seat 35 ints Nums := Shape.slice (t := 35) (e := 3) (sz := 1) (by kernel_rfl) (by kernel_rfl) (by decide) (fun _ => rfl) shapeInt
theorem shapeOcts : Shape seat 95 octss (fun l => Small l ∧ ∀ x ∈ l, Oct x) := Shape.slice (t := 95) (e := 23) (sz := 1) (by kernel_rfl) (by kernel_rfl) (by decide) (fun _ => rfl) shapeOct
theorem shapeLeaf : Shape seat 25 leafA Leaf.Ok := Shape.map (Shape.struct (t := 25) (fs := #[⟨"Enc", 23, 0, false, "", "", 0⟩, ⟨"Cred", 23, 1, false, "", "", 24⟩, ⟨"Source", 3, 2, false, "", "", 48⟩, ⟨"Parent", 23, 3, false, "", "", 56⟩]) (n := 4) (by kernel_rfl) (by kernel_rfl) (fun _ => rfl) (.cons (sz := 1) rfl (by kernel_rfl) (fun _ => rfl) shapeOct (.cons (sz := 1) rfl (by kernel_rfl) (fun _ => rfl) shapeOct (.cons (sz := 1) rfl (by kernel_rfl) (fun _ => rfl) shapeInt (.cons (sz := 1) rfl (by kernel_rfl) (fun _ => rfl) shapeOct (.nil _)))))) (fun p => ⟨p.1, p.2.1, p.2.2.1, p.2.2.2.1⟩) (fun _ => rfl) (fun _ h => ⟨h.1, h.2.1, h.2.2.2.1, h.2.2.1⟩)
theorem shapeInner : Shape seat 47 innerA Inner.Ok := Shape.map (Shape.struct (t := 47) (fs := #[⟨"Enc", 23, 0, false, "", "", 0⟩, ⟨"Hash", 23, 1, false, "", "", 24⟩, ⟨"Unmerged", 35, 2, false, "", "", 48⟩]) (n := 3) (by kernel_rfl) (by kernel_rfl) (fun _ => rfl) (.cons (sz := 1) rfl (by kernel_rfl) (fun _ => rfl) shapeOct (.cons (sz := 1) rfl (by kernel_rfl) (fun _ => rfl) shapeOct (.cons (sz := 1) rfl (by kernel_rfl) (fun _ => rfl) shapeNums (.nil _))))) (fun p => ⟨p.1, p.2.1, p.2.2.1⟩) (fun _ => rfl) (fun _ h => ⟨h.1, h.2.1, h.2.2.1⟩)
theorem shapeNode : Shape seat 49 nodeA Node.Ok := Shape.map (Shape.struct (t := 49) (fs := #[⟨"Kind", 3, 0, false, "", "", 0⟩, ⟨"Leaf", 25, 1, false, "", "", 8⟩, ⟨"Inner", 47, 5, false, "", "", 88⟩]) (n := 8) (by kernel_rfl) (by kernel_rfl) (fun _ => rfl) (.cons (sz := 1) rfl (by kernel_rfl) (fun _ => rfl) shapeInt (.cons (sz := 4) rfl (by kernel_rfl) (fun _ => rfl) shapeLeaf (.cons (sz := 3) rfl (by kernel_rfl) (fun _ => rfl) shapeInner (.nil _))))) (fun p => ⟨p.1, p.2.1, p.2.2.1⟩) (fun _ => rfl) (fun _ h => ⟨h.2.1, h.2.2.1, h.1⟩)
theorem shapeNodes : Shape seat 22 nodes Tree.Ok := Shape.slice (t := 22) (e := 49) (sz := 8) (by kernel_rfl) (by kernel_rfl) (by decide) (fun _ => rfl) shapeNode
theorem shapePatch : Shape seat 59 patchA Patch.Ok := Shape.map (Shape.struct (t := 59) (fs := #[⟨"Len", 3, 0, false, "", "", 0⟩, ⟨"X", 35, 1, false, "", "", 8⟩, ⟨"N", 22, 2, false, "", "", 32⟩]) (n := 3) (by kernel_rfl) (by kernel_rfl) (fun _ => rfl) (.cons (sz := 1) rfl (by kernel_rfl) (fun _ => rfl) shapeInt (.cons (sz := 1) rfl (by kernel_rfl) (fun _ => rfl) shapeNums (.cons (sz := 1) rfl (by kernel_rfl) (fun _ => rfl) shapeNodes (.nil _))))) (fun p => ⟨p.1, p.2.1, p.2.2.1⟩) (fun _ => rfl) (fun _ h => ⟨h.1, h.2.1, h.2.2.1⟩)
end Go.Proofs.YtihhinbjhiankaaGreatDoor.Al
