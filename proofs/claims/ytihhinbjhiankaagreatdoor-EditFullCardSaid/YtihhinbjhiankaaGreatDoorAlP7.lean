/-
  PLAIN LAWS: what is done to trees.
-/
import Derived.Test.YtihhinbjhiankaaGreatDoorAlP6
set_option linter.unusedSimpArgs false
set_option linter.unusedVariables false
namespace Go.Proofs.YtihhinbjhiankaaGreatDoor.Al

/-- The first place below n of which p is true. -/
def firstN (p : Nat → Bool) (n : Nat) : Option Nat := (List.range n).find? p
/-- The last one. -/
def lastN (p : Nat → Bool) : Nat → Option Nat
  | 0 => none
  | n + 1 => if p n then some n else lastN p n
theorem firstN_some {p : Nat → Bool} {n k : Nat} (hk : k < n) (h : p k = true) (hno : ∀ j, j < k → p j = false) : firstN p n = some k := by
  rw [firstN, List.find?_range_eq_some]
  exact ⟨h, by simpa using hk, fun j hj => by rw [hno j hj]; rfl⟩
theorem firstN_none {p : Nat → Bool} {n : Nat} (hno : ∀ j, j < n → p j = false) : firstN p n = none := by
  rw [firstN, List.find?_range_eq_none]
  intro i hi; rw [hno i hi]; rfl
theorem firstN_eq {p : Nat → Bool} {n k : Nat} (h : firstN p n = some k) : k < n ∧ p k = true ∧ ∀ j, j < k → p j = false := by
  rw [firstN, List.find?_range_eq_some] at h
  exact ⟨by simpa using h.2.1, h.1, fun j hj => by simpa using h.2.2 j hj⟩
theorem firstN_no {p : Nat → Bool} {n : Nat} (h : firstN p n = none) : ∀ j, j < n → p j = false := by
  rw [firstN, List.find?_range_eq_none] at h
  intro j hj; simpa using h j hj
theorem lastN_some {p : Nat → Bool} {k : Nat} (h : p k = true) : ∀ {n : Nat}, k < n → (∀ j, k < j → j < n → p j = false) → lastN p n = some k := by
  intro n
  induction n with
  | zero => omega
  | succ n ih =>
    intro hk hno
    rw [lastN]
    by_cases e : k = n
    · subst e; rw [if_pos h]
    · rw [hno n (by omega) (by omega)]
      exact ih (by omega) fun j h1 h2 => hno j h1 (by omega)
theorem lastN_none {p : Nat → Bool} : ∀ {n : Nat}, (∀ j, j < n → p j = false) → lastN p n = none := by
  intro n
  induction n with
  | zero => intro _; rfl
  | succ n ih =>
    intro hno
    rw [lastN, hno n (by omega)]
    exact ih fun j hj => hno j (by omega)
theorem lastN_eq {p : Nat → Bool} : ∀ {n k : Nat}, lastN p n = some k → k < n ∧ p k = true ∧ ∀ j, k < j → j < n → p j = false := by
  intro n
  induction n with
  | zero => intro k h; cases h
  | succ n ih =>
    intro k h
    rw [lastN] at h
    split at h
    · rename_i hp; cases h; exact ⟨by omega, hp, fun j h1 h2 => by omega⟩
    · rename_i hp
      obtain ⟨h1, h2, h3⟩ := ih h
      refine ⟨by omega, h2, fun j h4 h5 => ?_⟩
      by_cases e : j = n
      · subst e; simpa using hp
      · exact h3 j h4 (by omega)
theorem lastN_no {p : Nat → Bool} : ∀ {n : Nat}, lastN p n = none → ∀ j, j < n → p j = false := by
  intro n
  induction n with
  | zero => intro _ j hj; omega
  | succ n ih =>
    intro h j hj
    rw [lastN] at h
    split at h
    · cases h
    · rename_i hp
      by_cases e : j = n
      · subst e; simpa using hp
      · exact ih h j (by omega)
def optI : Option Nat → Int
  | some k => k
  | none => -1

def nodeAt (t : List Node) (x : Nat) : Node := t.getD x .zero
theorem nodeAt_lt {t : List Node} {x : Nat} (h : x < t.length) : nodeAt t x = t[x] := by simp [nodeAt, h]
theorem nodeAt_ge {t : List Node} {x : Nat} (h : t.length ≤ x) : nodeAt t x = .zero := by simp [nodeAt, h]
def blankEven (t : List Node) (x : Nat) : Bool := decide (x % 2 = 0 ∧ (nodeAt t x).kind = 0)
def freeT (t : List Node) : Int := match firstN (blankEven (known t)) (known t).length with
  | some k => (k / 2 : Nat)
  | none => -1
def lastT (t : List Node) : Int := optI (lastN (fun x => decide ((nodeAt (known t) x).kind ≠ 0)) (known t).length)
/-- A tree with another node. -/
def setT (t : List Node) (x : Int) (n : Node) : List Node × Int :=
  if x < 0 ∨ x ≥ (known t).length then ([], 3) else if nodeCheck n ≠ 0 then ([], nodeCheck n) else if ¬ Stands x n.kind then ([], 7) else ((known t).set x.toNat n, 0)
def growT (t : List Node) : List Node × Int :=
  if (known t).length = 127 then ([], 10) else (known t ++ List.replicate ((known t).length + 1) .zero, 0)
/-- No leaf from a place on. -/
def Leafless (t : List Node) (from_ : Nat) : Prop := ∀ x (h : x < t.length), from_ ≤ x → t[x].kind ≠ 1
instance (t : List Node) (k : Nat) : Decidable (Leafless t k) := inferInstanceAs (Decidable (∀ x (h : x < t.length), _))
def trimL (a : List Node) : List Node := if h : 1 < a.length ∧ Leafless a (a.length / 2) then trimL (a.take (a.length / 2)) else a
termination_by a.length
decreasing_by rw [List.length_take]; omega
def trimT (t : List Node) : List Node := let a := trimL (known t); if a.length = 1 ∧ (nodeAt a 0).kind = 0 then [] else a
theorem trimL_step {a : List Node} (h : 1 < a.length) (h1 : Leafless a (a.length / 2)) : trimL a = trimL (a.take (a.length / 2)) := by
  rw [trimL, dif_pos ⟨h, h1⟩]
theorem trimL_end {a : List Node} (h : ¬ (1 < a.length ∧ Leafless a (a.length / 2))) : trimL a = a := by
  rw [trimL, dif_neg h]

/-- A tree, as long as is said. -/
def fitT (t : List Node) (n : Nat) : List Node := t.take n ++ List.replicate (n - t.length) .zero
theorem fitT_len (t : List Node) (n : Nat) : (fitT t n).length = n := by simp [fitT]; omega
theorem fitT_at (t : List Node) {n x : Nat} (h : x < n) : nodeAt (fitT t n) x = nodeAt t x := by
  unfold nodeAt fitT
  rcases Nat.lt_or_ge x t.length with h1 | h1
  · rw [List.getD_eq_getElem?_getD, List.getElem?_append_left (by simp; omega), List.getElem?_take, if_pos h, List.getD_eq_getElem?_getD]
  · rw [List.getD_eq_getElem?_getD, List.getElem?_append_right (by simp; omega), List.getD_eq_getElem?_getD, List.getElem?_eq_none h1]
    simp [List.getElem?_replicate]
    split <;> rfl
theorem fitT_ok {t : List Node} (h : Tree.Ok t) {n : Nat} (hn : n ≤ 140737488355328) : Tree.Ok (fitT t n) := by
  refine ⟨by rw [Small, fitT_len]; exact hn, fun x hx => ?_⟩
  unfold fitT at hx
  rcases List.mem_append.1 hx with hx | hx
  · exact h.2 x (List.mem_of_mem_take hx)
  · rw [(List.mem_replicate.1 hx).2]; exact .zero
theorem list_ext {a b : List Node} (hl : a.length = b.length) (h : ∀ x, x < a.length → nodeAt a x = nodeAt b x) : a = b :=
  List.ext_getElem hl fun x h1 h2 => by rw [← nodeAt_lt h1, ← nodeAt_lt h2]; exact h x h1
theorem nodeAt_append (a b : List Node) (x : Nat) : nodeAt (a ++ b) x = if x < a.length then nodeAt a x else nodeAt b (x - a.length) := by
  unfold nodeAt
  split
  · rename_i h; rw [List.getD_eq_getElem?_getD, List.getElem?_append_left h, List.getD_eq_getElem?_getD]
  · rename_i h; rw [List.getD_eq_getElem?_getD, List.getElem?_append_right (by omega), List.getD_eq_getElem?_getD]
theorem nodeAt_set (a : List Node) (k : Nat) (n : Node) (x : Nat) (hk : k < a.length) : nodeAt (a.set k n) x = if x = k then n else nodeAt a x := by
  unfold nodeAt
  rw [List.getD_eq_getElem?_getD, List.getElem?_set, List.getD_eq_getElem?_getD]
  split
  · rename_i h; subst h; simp [hk]
  · rename_i h; rw [if_neg (Ne.symm h)]
theorem fitT_succ (t : List Node) (k : Nat) : fitT t (k + 1) = fitT t k ++ [nodeAt t k] := by
  refine list_ext (by simp [fitT_len]) fun x hx => ?_
  rw [fitT_len] at hx
  rw [fitT_at _ hx, nodeAt_append, fitT_len]
  split
  · rename_i h; exact (fitT_at _ h).symm
  · have : x = k := by omega
    subst this; simp [nodeAt]
theorem fitT_zero (t : List Node) : fitT t 0 = [] := by simp [fitT]
theorem set_ok {t : List Node} (h : Tree.Ok t) {n : Node} (hn : n.Ok) (k : Nat) : Tree.Ok (t.set k n) := by
  refine ⟨by rw [Small, List.length_set]; exact h.1, fun x hx => ?_⟩
  rcases List.mem_or_eq_of_mem_set hx with hx | rfl
  · exact h.2 x hx
  · exact hn
theorem nodeAt_ok {t : List Node} (h : Tree.Ok t) (x : Nat) : (nodeAt t x).Ok := by
  rcases Nat.lt_or_ge x t.length with h1 | h1
  · rw [nodeAt_lt h1]; exact h.at h1
  · rw [nodeAt_ge h1]; exact .zero
theorem take_ok {t : List Node} (h : Tree.Ok t) (n : Nat) : Tree.Ok (t.take n) := ⟨by rw [Small, List.length_take]; have := h.len; omega, fun x hx => h.2 x (List.mem_of_mem_take hx)⟩
theorem drop_ok {t : List Node} (h : Tree.Ok t) (n : Nat) : Tree.Ok (t.drop n) := ⟨by rw [Small, List.length_drop]; have := h.len; omega, fun x hx => h.2 x (List.mem_of_mem_drop hx)⟩

end Go.Proofs.YtihhinbjhiankaaGreatDoor.Al
