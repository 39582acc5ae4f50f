/-
  PLAIN LAWS: leaves, inner nodes, nodes.
-/
import Derived.Test.YtihhinbjhiankaaGreatDoorAlP
set_option linter.unusedSimpArgs false
set_option linter.unusedVariables false
namespace Go.Proofs.YtihhinbjhiankaaGreatDoor.Al

def Small {α : Type} (l : List α) : Prop := l.length ≤ 140737488355328
def Oct (l : List Int) : Prop := Small l ∧ ∀ x ∈ l, IntKind.u8.min ≤ x ∧ x ≤ IntKind.u8.max
def Nums (l : List Int) : Prop := Small l ∧ ∀ x ∈ l, IntKind.i64.min ≤ x ∧ x ≤ IntKind.i64.max
def In64 (n : Int) : Prop := IntKind.i64.min ≤ n ∧ n ≤ IntKind.i64.max
structure Leaf.Ok (l : Leaf) : Prop where
  enc : Oct l.enc
  cred : Oct l.cred
  parent : Oct l.parent
  source : In64 l.source
structure Inner.Ok (l : Inner) : Prop where
  enc : Oct l.enc
  hash : Oct l.hash
  unmerged : Nums l.unmerged
structure Node.Ok (n : Node) : Prop where
  leaf : n.leaf.Ok
  inner : n.inner.Ok
  kind : In64 n.kind
def Tree.Ok (t : List Node) : Prop := Small t ∧ ∀ n ∈ t, n.Ok
def Leaf.zero : Leaf := ⟨[], [], 0, []⟩
def Inner.zero : Inner := ⟨[], [], []⟩
def Node.zero : Node := ⟨0, .zero, .zero⟩
theorem Oct.nil : Oct [] := ⟨Nat.zero_le _, fun _ h => by simp at h⟩
theorem Nums.nil : Nums [] := ⟨Nat.zero_le _, fun _ h => by simp at h⟩
theorem In64.zero : In64 0 := ⟨by decide, by decide⟩
theorem In64.le {n : Int} (h : In64 n) : -9223372036854775808 ≤ n ∧ n ≤ 9223372036854775807 := h
theorem Oct.len {l : List Int} (h : Oct l) : l.length ≤ 140737488355328 := h.1
theorem Nums.len {l : List Int} (h : Nums l) : l.length ≤ 140737488355328 := h.1
theorem Leaf.Ok.zero : Leaf.zero.Ok := ⟨.nil, .nil, .nil, .zero⟩
theorem Inner.Ok.zero : Inner.zero.Ok := ⟨.nil, .nil, .nil⟩
theorem Node.Ok.zero : Node.zero.Ok := ⟨.zero, .zero, .zero⟩
theorem Tree.Ok.nil : Tree.Ok [] := ⟨Nat.zero_le _, fun _ h => by simp at h⟩
theorem Tree.Ok.len {t : List Node} (h : Tree.Ok t) : t.length ≤ 140737488355328 := h.1
theorem Tree.Ok.at {t : List Node} (h : Tree.Ok t) {k : Nat} (hk : k < t.length) : (t[k]).Ok := h.2 _ (List.getElem_mem hk)

/-- What is wrong with a leaf. -/
def leafCheck (l : Leaf) : Int :=
  if l.enc.length = 0 then 5 else if l.enc.length > 200 ∨ l.cred.length > 200 ∨ l.parent.length > 200 then 4
  else if l.source < 1 ∨ l.source > 3 then 7 else if l.source ≠ 3 ∧ l.parent.length > 0 then 2 else 0
/-- What is wrong with an inner node. -/
def innerCheck (n : Inner) : Int :=
  if n.enc.length = 0 then 5 else if n.enc.length > 200 ∨ n.hash.length > 200 ∨ n.unmerged.length > 64 then 4
  else if ∃ i ∈ n.unmerged, i < 0 ∨ i > 63 then 3 else if rise n.unmerged ≠ n.unmerged then 8 else 0
/-- What is wrong with a node. -/
def nodeCheck (n : Node) : Int :=
  if n.kind < 0 ∨ n.kind > 2 then 7 else if n.kind ≠ 1 ∧ n.leaf ≠ .zero ∨ n.kind ≠ 2 ∧ n.inner ≠ .zero then 2
  else if n.kind = 1 then leafCheck n.leaf else if n.kind = 2 then innerCheck n.inner else 0

/-- Where the first one stands of which p is true, or -1. -/
def idxF {α : Type} (p : α → Bool) (l : List α) : Int := if l.any p then (l.findIdx p : Int) else -1
theorem idxF_ge {α : Type} (p : α → Bool) (l : List α) : decide (idxF p l ≥ 0) = l.any p := by
  unfold idxF
  split
  · rename_i h; rw [h]; simp
  · rename_i h; simp at h; simp; exact h
theorem findIdx_at {α : Type} {p : α → Bool} {l : List α} {k : Nat} (hk : k < l.length) (h : p l[k] = true) (hno : ∀ j (hj : j < k), p (l[j]'(by omega)) = false) : idxF p l = k := by
  have ha : l.any p = true := List.any_eq_true.2 ⟨l[k], List.getElem_mem hk, h⟩
  unfold idxF
  rw [if_pos ha]
  congr 1
  rw [List.findIdx_eq hk]
  exact ⟨h, fun j hj => hno j hj⟩
theorem idxF_none {α : Type} {p : α → Bool} {l : List α} (hno : ∀ j (hj : j < l.length), p l[j] = false) : idxF p l = -1 := by
  unfold idxF
  rw [if_neg]
  intro h
  obtain ⟨x, hx, hp⟩ := List.any_eq_true.1 h
  obtain ⟨j, hj, rfl⟩ := List.getElem_of_mem hx
  rw [hno j hj] at hp; cases hp

theorem rises_iff_step {l : List Int} : Rises l ↔ ∀ j (h : j + 1 < l.length), l[j] < l[j + 1] := by
  constructor
  · intro h j hj
    exact List.pairwise_iff_getElem.1 h j (j + 1) (by omega) hj (by omega)
  · intro h
    refine List.pairwise_iff_getElem.2 fun i j hi hj hij => ?_
    induction j with
    | zero => omega
    | succ j ih =>
      have := h j hj
      rcases Nat.lt_or_ge i j with h1 | h1
      · have := ih (by omega) h1; omega
      · obtain rfl : i = j := by omega
        exact this
theorem rise_eq_iff {l : List Int} : rise l = l ↔ Rises l := ⟨fun h => by rw [← h]; exact rises_rise l, rise_of_rises⟩

end Go.Proofs.YtihhinbjhiankaaGreatDoor.Al
