/-
  JOINED: P7, P9, P10, P13, P14, P20, P22, P23, M1A, M8J, M8, S2B, S2, I1
-/
import Derived.Test.YtihhinbjhiankaaGreatDoorLawSetBP9
import Derived.Test.YtihhinbjhiankaaGreatDoorLawSetBP6
import Derived.Test.YtihhinbjhiankaaGreatDoorLawSetBP8
import Derived.Test.YtihhinbjhiankaaGreatDoorLawSetBP7
import Derived.Shelf.Spec.TrailingZeros
set_option linter.unusedSimpArgs false
set_option linter.unusedVariables false
namespace Go.Proofs.YtihhinbjhiankaaGreatDoor.Al

/-- The first place below n of which p is true. -/
def firstN (p : Nat → Bool) (n : Nat) : Option Nat := (List.range n).find? p
/-- The last one. -/
def lastN (p : Nat → Bool) : Nat → Option Nat
  | 0 => none
  | n + 1 => if p n then some n else lastN p n
theorem firstN_eq {p : Nat → Bool} {n k : Nat} (h : firstN p n = some k) : k < n ∧ p k = true ∧ ∀ j, j < k → p j = false := by
  rw [firstN, List.find?_range_eq_some] at h
  exact ⟨by simpa using h.2.1, h.1, fun j hj => by simpa using h.2.2 j hj⟩
theorem lastN_some {p : Nat → Bool} {k : Nat} (h : p k = true) : ∀ {n : Nat}, k < n → (∀ j, k < j → j < n → p j = false) → lastN p n = some k := by
  intro n
  induction n with
  | zero => omega
  | succ n ih =>
    intro hk hno
    rw [lastN]
    by_cases e : k = n
    · subst e; rw [if_pos h]
    · rw [hno n (by omega) (by omega)]
      exact ih (by omega) fun j h1 h2 => hno j h1 (by omega)
theorem lastN_none {p : Nat → Bool} : ∀ {n : Nat}, (∀ j, j < n → p j = false) → lastN p n = none := by
  intro n
  induction n with
  | zero => intro _; rfl
  | succ n ih =>
    intro hno
    rw [lastN, hno n (by omega)]
    exact ih fun j hj => hno j (by omega)
theorem lastN_eq {p : Nat → Bool} : ∀ {n k : Nat}, lastN p n = some k → k < n ∧ p k = true ∧ ∀ j, k < j → j < n → p j = false := by
  intro n
  induction n with
  | zero => intro k h; cases h
  | succ n ih =>
    intro k h
    rw [lastN] at h
    split at h
    · rename_i hp; cases h; exact ⟨by omega, hp, fun j h1 h2 => by omega⟩
    · rename_i hp
      obtain ⟨h1, h2, h3⟩ := ih h
      refine ⟨by omega, h2, fun j h4 h5 => ?_⟩
      by_cases e : j = n
      · subst e; simpa using hp
      · exact h3 j h4 (by omega)
theorem lastN_no {p : Nat → Bool} : ∀ {n : Nat}, lastN p n = none → ∀ j, j < n → p j = false := by
  intro n
  induction n with
  | zero => intro _ j hj; omega
  | succ n ih =>
    intro h j hj
    rw [lastN] at h
    split at h
    · cases h
    · rename_i hp
      by_cases e : j = n
      · subst e; simpa using hp
      · exact ih h j (by omega)
def optI : Option Nat → Int
  | some k => k
  | none => -1

def nodeAt (t : List Node) (x : Nat) : Node := t.getD x .zero
theorem nodeAt_lt {t : List Node} {x : Nat} (h : x < t.length) : nodeAt t x = t[x] := by simp [nodeAt, h]
theorem nodeAt_ge {t : List Node} {x : Nat} (h : t.length ≤ x) : nodeAt t x = .zero := by simp [nodeAt, h]
def blankEven (t : List Node) (x : Nat) : Bool := decide (x % 2 = 0 ∧ (nodeAt t x).kind = 0)
def freeT (t : List Node) : Int := match firstN (blankEven (known t)) (known t).length with
  | some k => (k / 2 : Nat)
  | none => -1
def lastT (t : List Node) : Int := optI (lastN (fun x => decide ((nodeAt (known t) x).kind ≠ 0)) (known t).length)
/-- A tree with another node. -/
def setT (t : List Node) (x : Int) (n : Node) : List Node × Int :=
  if x < 0 ∨ x ≥ (known t).length then ([], 3) else if nodeCheck n ≠ 0 then ([], nodeCheck n) else if ¬ Stands x n.kind then ([], 7) else ((known t).set x.toNat n, 0)
def growT (t : List Node) : List Node × Int :=
  if (known t).length = 127 then ([], 10) else (known t ++ List.replicate ((known t).length + 1) .zero, 0)
/-- No leaf from a place on. -/
def Leafless (t : List Node) (from_ : Nat) : Prop := ∀ x (h : x < t.length), from_ ≤ x → t[x].kind ≠ 1
instance (t : List Node) (k : Nat) : Decidable (Leafless t k) := inferInstanceAs (Decidable (∀ x (h : x < t.length), _))
theorem nodeAt_append (a b : List Node) (x : Nat) : nodeAt (a ++ b) x = if x < a.length then nodeAt a x else nodeAt b (x - a.length) := by
  unfold nodeAt
  split
  · rename_i h; rw [List.getD_eq_getElem?_getD, List.getElem?_append_left h, List.getD_eq_getElem?_getD]
  · rename_i h; rw [List.getD_eq_getElem?_getD, List.getElem?_append_right (by omega), List.getD_eq_getElem?_getD]
end Go.Proofs.YtihhinbjhiankaaGreatDoor.Al

set_option linter.unusedSimpArgs false
set_option linter.unusedVariables false
namespace Go.Proofs.YtihhinbjhiankaaGreatDoor.Al

theorem growT_len {t : List Node} (h : Sane t) (h1 : t.length ≠ 127) : growT t = (t ++ List.replicate (t.length + 1) .zero, 0) := by
  unfold growT; rw [known_of h, if_neg h1]
theorem growT_full {t : List Node} (h : Sane t) (h1 : t.length = 127) : growT t = ([], 10) := by
  unfold growT; rw [known_of h, if_pos h1]
theorem width_double {n : Nat} (h : n = 0 ∨ Whole n) (h1 : n ≠ 127) : Whole ((2 * n + 1 : Nat) : Int) := by unfold Whole at *; omega
theorem grow_sane {t : List Node} (h : Sane t) (h1 : t.length ≠ 127) : Sane (t ++ List.replicate (t.length + 1) .zero) := by
  refine ⟨fun x hx => ?_, .inr ?_⟩
  · rw [List.getElem_append]
    split
    · rename_i hlt; exact h.1 x hlt
    · rw [List.getElem_replicate]; exact good_zero x
  · have := width_double h.2 h1
    simp only [List.length_append, List.length_replicate]
    rw [show t.length + (t.length + 1) = 2 * t.length + 1 by omega]; exact this
theorem grow_ok {t : List Node} (ht : Tree.Ok t) (h : t.length ≤ 127) : Tree.Ok (t ++ List.replicate (t.length + 1) .zero) := by
  refine ⟨by simp only [Small, List.length_append, List.length_replicate]; omega, fun x hx => ?_⟩
  rcases List.mem_append.1 hx with h | h
  · exact ht.2 x h
  · rw [(List.mem_replicate.1 h).2]; exact .zero
theorem growT_ok {t : List Node} (ht : Tree.Ok t) : Tree.Ok (growT t).1 := by
  unfold growT
  split
  · exact .nil
  · exact grow_ok (known_ok ht) (known_len t)
theorem freeT_pos {t : List Node} (h : Sane t) (hf : ¬ freeT t < 0) : ∃ k : Nat, freeT t = k ∧ 2 * k < t.length ∧ blankEven t (2 * k) = true ∧ ∀ j, j < 2 * k → blankEven t j = false := by
  unfold freeT at hf ⊢
  rw [known_of h] at hf ⊢
  cases e : firstN (blankEven t) t.length with
  | none => rw [e] at hf; simp only at hf; omega
  | some k =>
    obtain ⟨h1, h2, h3⟩ := firstN_eq e
    have hk : k % 2 = 0 := by
      have := h2; simp only [blankEven, decide_eq_true_eq] at this; exact this.1
    have e2 : 2 * (k / 2) = k := by omega
    exact ⟨k / 2, rfl, by omega, by rw [e2]; exact h2, by rw [e2]; exact h3⟩
theorem lastT_neg {t : List Node} (h : Sane t) (hf : lastT t < 0) : lastT t = -1 ∧ ∀ j, j < t.length → (nodeAt t j).kind = 0 := by
  unfold lastT at hf ⊢
  rw [known_of h] at hf ⊢
  cases e : lastN (fun x => decide ((nodeAt t x).kind ≠ 0)) t.length with
  | some k => rw [e] at hf; simp only [optI] at hf; omega
  | none => exact ⟨rfl, fun j hj => by simpa using lastN_no e j hj⟩
theorem lastT_pos {t : List Node} (h : Sane t) (hf : ¬ lastT t < 0) : ∃ k : Nat, lastT t = k ∧ k < t.length ∧ (nodeAt t k).kind ≠ 0 ∧ ∀ j, k < j → j < t.length → (nodeAt t j).kind = 0 := by
  unfold lastT at hf ⊢
  rw [known_of h] at hf ⊢
  cases e : lastN (fun x => decide ((nodeAt t x).kind ≠ 0)) t.length with
  | none => rw [e] at hf; simp only [optI] at hf; omega
  | some k =>
    obtain ⟨h1, h2, h3⟩ := lastN_eq e
    exact ⟨k, rfl, h1, by simpa using h2, fun j a b => by simpa using h3 j a b⟩
theorem leaves_of {t : List Node} (h : Sane t) : leaves_ t = ((t.length : Int) + 1) / 2 := by unfold leaves_; rw [known_of h]

theorem lastT_none {t : List Node} (h : Sane t) (hz : ∀ j, j < t.length → (nodeAt t j).kind = 0) : lastT t = -1 := by
  unfold lastT; rw [known_of h, lastN_none fun j hj => by simp [hz j hj]]; rfl
theorem lastT_some {t : List Node} (h : Sane t) {k : Nat} (hk : k < t.length) (h0 : (nodeAt t k).kind ≠ 0) (hz : ∀ j, k < j → j < t.length → (nodeAt t j).kind = 0) : lastT t = k := by
  unfold lastT; rw [known_of h, lastN_some (by simpa using h0) hk fun j h1 h2 => by simp [hz j h1 h2]]; rfl
def grown (t : List Node) : List Node := t ++ List.replicate (t.length + 1) .zero
theorem grown_len (t : List Node) : (grown t).length = 2 * t.length + 1 := by simp [grown]; omega
theorem grown_at (t : List Node) (x : Nat) : nodeAt (grown t) x = nodeAt t x := by
  unfold grown
  rw [nodeAt_append]
  split
  · rfl
  · rename_i h
    rw [nodeAt_ge (t := t) (by omega)]
    unfold nodeAt
    rw [List.getD_eq_getElem?_getD, List.getElem?_replicate]
    split <;> rfl
theorem lastT_grow {t : List Node} (h : Sane t) (h1 : t.length ≠ 127) : lastT (grown t) = lastT t := by
  have hg : Sane (grown t) := grow_sane h h1
  have hl := grown_len t
  by_cases hn : lastT t < 0
  · obtain ⟨e, hz⟩ := lastT_neg h hn
    rw [e]
    refine lastT_none hg fun j hj => ?_
    rw [grown_at]
    rcases Nat.lt_or_ge j t.length with hlt | hge
    · exact hz j hlt
    · rw [nodeAt_ge hge]; rfl
  · obtain ⟨k, e, hk, h0, hz⟩ := lastT_pos h hn
    rw [e]
    refine lastT_some hg (by omega) (by rw [grown_at]; exact h0) fun j h2 h3 => ?_
    rw [grown_at]
    rcases Nat.lt_or_ge j t.length with hlt | hge
    · exact hz j h2 hlt
    · rw [nodeAt_ge hge]; rfl
theorem growT_grown {t : List Node} (h : Sane t) (h1 : t.length ≠ 127) : growT t = (grown t, 0) := growT_len h h1
end Go.Proofs.YtihhinbjhiankaaGreatDoor.Al

set_option linter.unusedSimpArgs false
set_option linter.unusedVariables false
namespace Go.Proofs.YtihhinbjhiankaaGreatDoor.Al

end Go.Proofs.YtihhinbjhiankaaGreatDoor.Al

set_option linter.unusedSimpArgs false
set_option linter.unusedVariables false
namespace Go.Proofs.YtihhinbjhiankaaGreatDoor.Al
open Go

/-- How far up a node stands. -/
def levF : Nat → Nat → Nat
  | 0, _ => 0
  | f + 1, x => if x % 2 = 1 then levF f (x / 2) + 1 else 0
def lev (x : Nat) : Nat := levF 7 x
def level (x : Int) : Int := if 0 ≤ x ∧ x < 127 then lev x.toNat else -1
def parN (x : Nat) : Nat := if x / 2 ^ (lev x + 1) % 2 = 0 then x + 2 ^ lev x else x - 2 ^ lev x
def IsN (x w : Int) : Prop := Whole w ∧ 0 ≤ x ∧ x < w
instance (x w : Int) : Decidable (IsN x w) := inferInstanceAs (Decidable (_ ∧ _))
def parI (x w : Int) : Int := if IsN x w then (if x = w / 2 then -1 else parN x.toNat) else -1
def upsF : Nat → Int → Int → List Int
  | 0, _, _ => []
  | f + 1, x, w => if IsN x w then x :: upsF f (parI x w) w else []
/-- The way up, the node itself first. -/
def ups (x w : Int) : List Int := upsF 7 x w
def directI (x w : Int) : List Int := (ups x w).tail
theorem whole_mem {w : Int} (h : Whole w) : ∃ n ∈ [1, 3, 7, 15, 31, 63, 127], w = ((n : Nat) : Int) := by
  rcases h with h | h | h | h | h | h | h
  · exact ⟨1, by simp, h⟩
  · exact ⟨3, by simp, h⟩
  · exact ⟨7, by simp, h⟩
  · exact ⟨15, by simp, h⟩
  · exact ⟨31, by simp, h⟩
  · exact ⟨63, by simp, h⟩
  · exact ⟨127, by simp, h⟩
/-- What holds at each place of each width, checked one by one. -/
theorem IsN.all {p : Nat → Nat → Prop} (hp : ∀ n ∈ [1, 3, 7, 15, 31, 63, 127], ∀ y, y < n → p y n) {x w : Int} (h : IsN x w) : p x.toNat w.toNat := by
  obtain ⟨n, hn, rfl⟩ := whole_mem h.1
  have h2 := h.2.2
  have h1 := h.2.1
  exact hp _ hn _ (by omega)
theorem IsN.cast {x w : Int} (h : IsN x w) : ((x.toNat : Nat) : Int) = x ∧ ((w.toNat : Nat) : Int) = w := by
  have := h.2
  constructor <;> omega
theorem IsN.lt {x w : Int} (h : IsN x w) : 0 ≤ x ∧ x < 127 := by
  have := h.1.le
  have := h.2
  omega
set_option maxRecDepth 100000 in
theorem ups_step {x w : Int} (h : IsN x w) : ups x w = x :: ups (parI x w) w := by
  have := IsN.all (p := fun y n => ups (y : Int) (n : Int) = (y : Int) :: ups (parI (y : Int) (n : Int)) (n : Int)) (by decide +kernel) h
  rwa [h.cast.1, h.cast.2] at this
theorem ups_not {x w : Int} (h : ¬ IsN x w) : ups x w = [] := by unfold ups upsF; rw [if_neg h]
theorem parI_neg {x w : Int} (h : ¬ IsN (parI x w) w) : parI x w < 0 := by
  by_cases hx : IsN x w
  · have := IsN.all (p := fun y n => ¬ IsN (parI (y : Int) (n : Int)) (n : Int) → parI (y : Int) (n : Int) < 0) (by decide +kernel) hx
    rw [hx.cast.1, hx.cast.2] at this
    exact this h
  · unfold parI; rw [if_neg hx]; omega
theorem direct_eq (x w : Int) : directI x w = ups (parI x w) w := by
  unfold directI
  by_cases h : IsN x w
  · rw [ups_step h]; rfl
  · have e : parI x w = -1 := by unfold parI; rw [if_neg h]
    rw [ups_not h, e, ups_not (fun h => by have := h.2.1; omega)]; rfl
theorem upsF_is : ∀ (f : Nat) (x w : Int), ∀ y ∈ upsF f x w, IsN y w
  | 0, _, _, y, h => by cases h
  | f + 1, x, w, y, h => by
    unfold upsF at h
    split at h
    · rename_i hx
      rcases List.mem_cons.1 h with rfl | h
      · exact hx
      · exact upsF_is f _ w y h
    · cases h
theorem ups_is {x w y : Int} (h : y ∈ ups x w) : IsN y w := upsF_is _ _ _ _ h
theorem upsF_len : ∀ (f : Nat) (x w : Int), (upsF f x w).length ≤ f
  | 0, _, _ => Nat.le_refl _
  | f + 1, x, w => by
    unfold upsF
    split
    · have := upsF_len f (parI x w) w; simp only [List.length_cons]; omega
    · simp
theorem ups_len (x w : Int) : (ups x w).length ≤ 7 := upsF_len _ _ _
theorem lev_le {x w : Int} (h : IsN x w) : lev x.toNat ≤ 6 := IsN.all (p := fun y _ => lev y ≤ 6) (by decide +kernel) h

end Go.Proofs.YtihhinbjhiankaaGreatDoor.Al

set_option linter.unusedSimpArgs false
set_option linter.unusedVariables false
namespace Go.Proofs.YtihhinbjhiankaaGreatDoor.Al
open Go

end Go.Proofs.YtihhinbjhiankaaGreatDoor.Al

set_option linter.unusedSimpArgs false
set_option linter.unusedVariables false
namespace Go.Proofs.YtihhinbjhiankaaGreatDoor.Al

theorem unm_len {n : Node} (h : nodeCheck n = 0) : n.inner.unmerged.length ≤ 64 := by
  unfold nodeCheck at h
  split at h
  · cases h
  · split at h
    · cases h
    · rename_i h1 h2
      by_cases hk : n.kind = 2
      · rw [if_neg (by omega), if_pos hk] at h
        unfold innerCheck at h
        split at h
        · cases h
        · split at h
          · cases h
          · omega
      · have : n.inner = .zero := Classical.byContradiction fun hn => h2 (.inr ⟨hk, hn⟩)
        rw [this]; exact Nat.zero_le _
theorem direct_ups {x w y : Int} (h : y ∈ directI x w) : y ∈ ups x w := List.mem_of_mem_tail h
end Go.Proofs.YtihhinbjhiankaaGreatDoor.Al

set_option linter.unusedSimpArgs false
set_option linter.unusedVariables false
namespace Go.Proofs.YtihhinbjhiankaaGreatDoor.Al

/-- May a node name a leaf? -/
def namedB (t : List Node) (x i : Int) : Bool := decide (x ∈ ups (2 * i) t.length) && decide ((nodeAt t (2 * i).toNat).kind ≠ 0) &&
  ((directI (2 * i) t.length).takeWhile fun y => decide (y ≠ x)).all fun y => !(decide ((nodeAt t y.toNat).kind = 2) && !(nodeAt t y.toNat).inner.unmerged.contains i)
def NamedK (t : List Node) : Prop := ∀ x, x < t.length → ∀ i ∈ (nodeAt t x).inner.unmerged, namedB t x i = true
instance (t : List Node) : Decidable (NamedK t) := inferInstanceAs (Decidable (∀ x, x < t.length → _))
def NamedT (t : List Node) : Prop := NamedK (known t)
instance (t : List Node) : Decidable (NamedT t) := inferInstanceAs (Decidable (NamedK _))
def putL (t : List Node) : List Int := t.flatMap (nput [])
def putT (t : List Node) : List Int := pbytes [] (putL ((known t).take (lastT t + 1).toNat))
def BadK (k : Nat) (n : Node) : Prop := (k % 2 = 0 ∧ n.kind = 2) ∨ (k % 2 = 1 ∧ n.kind = 1)
instance (k : Nat) (n : Node) : Decidable (BadK k n) := inferInstanceAs (Decidable (_ ∨ _))
def errK (k : Nat) (v : List Int) : Int := if (nget v).2.2 = 0 ∧ BadK k (nget v).1 then 7 else (nget v).2.2
/-- The nodes that octets are, with what is wrong with each. -/
def ysF : Nat → Nat → List Int → List (Node × Int)
  | 0, _, _ => []
  | f + 1, k, v => if v = [] then [] else if k = 127 then [(.zero, 10)] else ((nget v).1, errK k v) :: ysF f (k + 1) (nget v).2.1
def ysI (v : List Int) : List (Node × Int) := ysF 128 0 v
def firstE (ys : List (Node × Int)) : Int := match ys.find? fun p => decide (p.2 ≠ 0) with
  | some p => p.2
  | none => 0
def padW (n : Nat) : Nat := if n ≤ 1 then 1 else if n ≤ 3 then 3 else if n ≤ 7 then 7 else if n ≤ 15 then 15 else if n ≤ 31 then 31 else if n ≤ 63 then 63 else 127
def padT (t : List Node) : List Node := t ++ List.replicate (padW t.length - t.length) .zero
def getK (v : List Int) : List Node × Int :=
  if v = [] then ([], 5) else if firstE (ysI v) ≠ 0 then ([], firstE (ysI v))
  else if (nodeAt ((ysI v).map Prod.fst) (((ysI v).map Prod.fst).length - 1)).kind = 0 then ([], 6)
  else if ¬ NamedT (padT ((ysI v).map Prod.fst)) then ([], 8) else (padT ((ysI v).map Prod.fst), 0)
def getT (b : List Int) : List Node × Int :=
  if (gbytes b).2.2 ≠ 0 then ([], (gbytes b).2.2) else if (gbytes b).2.1 ≠ [] then ([], 2) else getK (gbytes b).1

theorem putL_nil : putL [] = [] := rfl
theorem putL_snoc (t : List Node) (n : Node) : putL (t ++ [n]) = nput (putL t) n := by
  unfold putL
  rw [List.flatMap_append, nput_app]
  simp
theorem putL_take (t : List Node) {k : Nat} (h : k < t.length) : putL (t.take (k + 1)) = nput (putL (t.take k)) t[k] := by
  rw [List.take_succ_eq_append_getElem h, putL_snoc]
theorem f1_le (v : List Int) : (f1 v).length ≤ v.length + 4 := by
  have : (vput v.length).length ≤ 4 := by
    unfold vput
    split
    · simp
    · split
      · simp
      · split <;> simp
  unfold f1; rw [List.length_append]; omega
theorem nput_len (n : Node) : (nput [] n).length ≤ 1100 := by
  rw [nput_known]
  rcases known_cases n with h | ⟨l, hl, h⟩ | ⟨m, hm, h⟩
  · rw [h, nput_zero]; decide
  · obtain ⟨_, a1, a2, a3, _⟩ := leafCheck_ok hl
    have b1 := f1_le l.enc
    have b2 := f1_le l.cred
    have b3 := f1_le l.parent
    rw [h, nput_leaf hl, lput_eq hl]
    split <;> simp only [List.length_append, List.length_cons, List.length_nil] <;> omega
  · obtain ⟨a1, a2, a3, _⟩ := innerCheck_zero hm
    have b1 := f1_le m.enc
    have b2 := f1_le m.hash
    have b3 := f1_le (m.unmerged.flatMap be4)
    rw [be4_len] at b3
    rw [h, nput_inner hm, iput_eq hm]
    simp only [List.length_append, List.length_cons, List.length_nil]; omega
theorem putL_len (t : List Node) : (putL t).length ≤ 1100 * t.length := by
  unfold putL
  induction t with
  | nil => simp
  | cons n t ih => have := nput_len n; rw [List.flatMap_cons, List.length_append, List.length_cons]; omega
theorem pad_ge (n : Nat) (h : n ≤ 127) : n ≤ padW n := by unfold padW; split <;> (try split) <;> (try split) <;> (try split) <;> (try split) <;> (try split) <;> omega
theorem pad_whole (n : Nat) : Whole ((padW n : Nat) : Int) := by unfold padW Whole; split <;> (try split) <;> (try split) <;> (try split) <;> (try split) <;> (try split) <;> omega
theorem pad_first {n j : Nat} (h : n ≤ 127) (hn : 0 < n) (hj : n + j < padW n) : ¬ Whole ((n + j : Nat) : Int) := by
  unfold padW at hj; unfold Whole
  split at hj <;> (try split at hj) <;> (try split at hj) <;> (try split at hj) <;> (try split at hj) <;> (try split at hj) <;> omega
theorem pad_half {n : Nat} (h : n ≤ 127) (hn : 1 < n) : padW n / 2 < n := by
  unfold padW
  split <;> (try split) <;> (try split) <;> (try split) <;> (try split) <;> (try split) <;> omega
theorem padT_len {t : List Node} (h : t.length ≤ 127) : (padT t).length = padW t.length := by
  have := pad_ge _ h
  unfold padT; simp; omega
theorem padT_at (t : List Node) (x : Nat) : nodeAt (padT t) x = nodeAt t x := by
  unfold padT
  rw [nodeAt_append]
  split
  · rfl
  · rw [nodeAt_ge (t := t) (by omega)]
    unfold nodeAt
    rw [List.getD_eq_getElem?_getD, List.getElem?_replicate]
    split <;> rfl

/-- Octets are read on: what is done, and what is left. -/
theorem ysF_done : ∀ (f k : Nat) (v : List Int), 127 ≤ f + k → k ≤ 127 → v ≠ [] → k < 127 → ysF (f + 1) k v = ((nget v).1, errK k v) :: ysF f (k + 1) (nget v).2.1 := by
  intro f k v _ _ hv hk
  conv => lhs; unfold ysF
  rw [if_neg hv, if_neg (by omega)]
theorem ysF_nil (f k : Nat) : ysF f k [] = [] := by cases f <;> simp [ysF]
theorem ysF_full (f : Nat) {v : List Int} (hv : v ≠ []) : ysF (f + 1) 127 v = [(.zero, 10)] := by
  conv => lhs; unfold ysF
  rw [if_neg hv, if_pos rfl]
theorem ysF_len : ∀ (f k : Nat) (v : List Int), (ysF f k v).length ≤ f
  | 0, _, _ => Nat.le_refl _
  | f + 1, k, v => by
    unfold ysF
    split
    · simp
    · split
      · simp
      · have := ysF_len f (k + 1) (nget v).2.1
        simp; omega
theorem kind_zero {n : Node} (h : nodeCheck n = 0) (hk : n.kind = 0) : n = .zero := by
  unfold nodeCheck at h
  rw [if_neg (by omega)] at h
  split at h
  · cases h
  · rename_i hc
    have h1 : n.leaf = .zero := Classical.byContradiction fun hn => hc (.inl ⟨by omega, hn⟩)
    have h2 : n.inner = .zero := Classical.byContradiction fun hn => hc (.inr ⟨by omega, hn⟩)
    rcases n with ⟨k, l, i⟩
    simp only at h1 h2 hk
    rw [h1, h2, hk]; rfl
theorem inner_none {n : Node} (h : nodeCheck n = 0) (hk : n.kind ≠ 2) : n.inner = .zero := by
  unfold nodeCheck at h
  split at h
  · cases h
  · split at h
    · cases h
    · rename_i hc
      exact Classical.byContradiction fun hn => hc (.inr ⟨hk, hn⟩)
theorem unm_odd {t : List Node} (hs : Sane t) {x : Nat} (hx : x < t.length) {i : Int} (hi : i ∈ (nodeAt t x).inner.unmerged) : x % 2 = 1 ∧ (nodeAt t x).kind = 2 := by
  rw [nodeAt_lt hx] at hi ⊢
  have hg := hs.1 x hx
  have hk : t[x].kind = 2 := Classical.byContradiction fun hn => by rw [inner_none hg.2 hn] at hi; cases hi
  refine ⟨?_, hk⟩
  have h1 := hg.1
  unfold Stands at h1
  rw [hk] at h1
  have : ((x : Nat) : Int).tmod 2 = ((x % 2 : Nat) : Int) := by rw [Int.tmod_eq_emod_of_nonneg (by omega)]; omega
  rw [this] at h1
  split at h1
  · exact absurd rfl h1
  · omega

/-! ### OctetsTrail -/
theorem put_grown {t : List Node} (hs : Sane t) (h7 : t.length ≠ 127) : putT (grown t) = putT t := by
  have hg : Sane (grown t) := grow_sane hs h7
  unfold putT
  rw [lastT_grow hs h7, known_of hs, known_of hg]
  congr 2
  have hl : (lastT t + 1).toNat ≤ t.length := by
    by_cases h : lastT t < 0
    · omega
    · obtain ⟨k, e, hk, _⟩ := lastT_pos hs h; omega
  unfold grown
  rw [List.take_append_of_le_length hl]
theorem behind_zero {t : List Node} (hs : Sane t) {x : Nat} (hx : x < t.length) (h : lastT t < (x : Int)) : t[x] = .zero := by
  refine kind_zero (hs.1 x hx).2 ?_
  rw [← nodeAt_lt hx]
  by_cases h0 : lastT t < 0
  · exact (lastT_neg hs h0).2 x hx
  · obtain ⟨k, e, hk, _, hz⟩ := lastT_pos hs h0
    exact hz x (by omega) hx

/-! ### OctetsNamed -/
theorem named_none {t : List Node} (hs : Sane t) (h : ∀ x (hx : x < t.length), t[x].kind ≠ 2) : NamedT t := by
  unfold NamedT NamedK
  rw [known_of hs]
  intro x hx i hi
  have := (unm_odd hs hx hi).2
  rw [nodeAt_lt hx] at this
  exact absurd this (h x hx)
theorem grow_all' {p : Nat → Nat → Prop} (hp : ∀ n ∈ [1, 3, 7, 15, 31, 63], ∀ y, y < n → p y n) {x w : Int} (h : IsN x w) (hw : w ≠ 127) : p x.toNat w.toNat := by
  obtain ⟨n, hn, rfl⟩ := whole_mem h.1
  obtain ⟨h1, h2⟩ := h.2
  have := hp n (by simp only [List.mem_cons, List.not_mem_nil, or_false] at hn ⊢; omega) x.toNat (by omega)
  simpa using this
theorem ups_grown {x w : Int} (h : IsN x w) (hw : w ≠ 127) : ups x (2 * w + 1) = ups x w ++ [w] := by
  have := grow_all' (p := fun x n => ups (x : Int) (2 * (n : Int) + 1) = ups (x : Int) (n : Int) ++ [(n : Int)]) (by decide +kernel) h hw
  rwa [h.cast.1, h.cast.2] at this
theorem ups_right {y w : Int} (h : IsN y (2 * w + 1)) (hw : Whole w) (hy : w < y) : ∀ x ∈ ups y (2 * w + 1), w ≤ x := by
  have hw127 : w ≠ 127 := by have := h.1.le; have := hw.le; omega
  have hr : IsN (y - w - 1) w := ⟨hw, by omega, by have := h.2; omega⟩
  have := grow_all' (p := fun z n => ∀ x ∈ ups ((z : Int) + (n : Int) + 1) (2 * (n : Int) + 1), (n : Int) ≤ x) (by decide +kernel) hr hw127
  rw [hr.cast.1, hr.cast.2] at this
  have e : y - w - 1 + w + 1 = y := by omega
  rwa [e] at this
theorem takeW_app {α : Type} {p : α → Bool} {a b : List α} (h : ∃ x ∈ a, p x = false) : (a ++ b).takeWhile p = a.takeWhile p := by
  induction a with
  | nil => obtain ⟨x, hx, _⟩ := h; cases hx
  | cons c a ih =>
    rw [List.cons_append, List.takeWhile_cons, List.takeWhile_cons]
    by_cases hc : p c = true
    · rw [if_pos hc, if_pos hc]
      congr 1
      obtain ⟨x, hx, hp⟩ := h
      rcases List.mem_cons.1 hx with rfl | hx
      · rw [hc] at hp; cases hp
      · exact ih ⟨x, hx, hp⟩
    · rw [if_neg hc, if_neg hc]
theorem named_grown {t : List Node} (hs : Sane t) (h7 : t.length ≠ 127) : NamedT (grown t) ↔ NamedT t := by
  have hg : Sane (grown t) := grow_sane hs h7
  unfold NamedT NamedK
  rw [known_of hs, known_of hg]
  have key : ∀ x, x < t.length → ∀ i ∈ (nodeAt t x).inner.unmerged, namedB (grown t) x i = namedB t x i := by
    intro x hx i hi
    have hne : t.length ≠ 0 := by omega
    have hw : Whole t.length := hs.2.resolve_left hne
    obtain ⟨ho, hk⟩ := unm_odd hs hx hi
    have hc := (hs.1 x hx).2
    rw [← nodeAt_lt hx] at hc
    have hib : 0 ≤ i ∧ i ≤ 63 := by
      have h2 := hc
      unfold nodeCheck at h2
      rw [if_neg (by omega)] at h2
      split at h2
      · cases h2
      · rw [if_neg (by omega)] at h2
        exact (innerCheck_zero h2).2.2.2.1 i hi
    have gl : ((grown t).length : Int) = 2 * (t.length : Int) + 1 := by rw [grown_len]; omega
    have w7 : (t.length : Int) ≠ 127 := by omega
    unfold namedB
    rw [gl]
    simp only [grown_at]
    by_cases hlt : 2 * i < t.length
    · have hN : IsN (2 * i) t.length := ⟨hw, by omega, hlt⟩
      have e1 := ups_grown hN w7
      have e2 : directI (2 * i) (2 * (t.length : Int) + 1) = directI (2 * i) t.length ++ [(t.length : Int)] := by
        unfold directI
        rw [e1, ups_step hN]; rfl
      have hm : ((x : Int) ∈ ups (2 * i) (2 * (t.length : Int) + 1)) ↔ (x : Int) ∈ ups (2 * i) t.length := by
        rw [e1, List.mem_append, List.mem_singleton]
        exact ⟨fun h => h.resolve_right (by omega), .inl⟩
      rw [e2]
      simp only [hm]
      by_cases hu : (x : Int) ∈ ups (2 * i) t.length
      · have hd : (x : Int) ∈ directI (2 * i) t.length := by
          rw [ups_step hN] at hu
          rcases List.mem_cons.1 hu with h | h
          · omega
          · rw [direct_eq]; exact h
        rw [takeW_app ⟨_, hd, by simp⟩]
      · simp [hu]
    · have h1 : ¬ (x : Int) ∈ ups (2 * i) t.length := by
        rw [ups_not fun h => by have := h.2.2; omega]; simp
      have h2 : ¬ (x : Int) ∈ ups (2 * i) (2 * (t.length : Int) + 1) := by
        by_cases hN : IsN (2 * i) (2 * (t.length : Int) + 1)
        · intro h
          have := ups_right hN hw (by have := hw.odd; omega) _ h
          omega
        · rw [ups_not hN]; simp
      simp [h1, h2]
  constructor
  · intro h x hx i hi
    have := h x (by rw [grown_len]; omega) i (by rw [grown_at]; exact hi)
    rwa [key x hx i hi] at this
  · intro h x hx i hi
    rw [grown_at] at hi
    have hx' : x < t.length := by
      rcases Nat.lt_or_ge x t.length with h1 | h1
      · exact h1
      · rw [nodeAt_ge h1] at hi; cases hi
    rw [key x hx' i hi]
    exact h x hx' i hi
end Go.Proofs.YtihhinbjhiankaaGreatDoor.Al

set_option linter.unusedSimpArgs false
set_option linter.unusedVariables false
namespace Go.Proofs.YtihhinbjhiankaaGreatDoor.Al

theorem firstE_zero {ys : List (Node × Int)} (h : firstE ys = 0) : ∀ p ∈ ys, p.2 = 0 := by
  unfold firstE at h
  split at h
  · rename_i p hp
    have := List.find?_some hp
    simp only [decide_eq_true_eq] at this
    exact absurd h this
  · rename_i hn
    intro p hp
    have := List.find?_eq_none.1 hn p hp
    simpa using this
theorem ysF_all : ∀ (f k : Nat) (v : List Int), f + k = 128 → k ≤ 127 → Bytes v → (∀ p ∈ ysF f k v, p.2 = 0) →
    v = putL ((ysF f k v).map Prod.fst) ∧ (ysF f k v).length + k ≤ 127 ∧ ∀ j (hj : j < ((ysF f k v).map Prod.fst).length), nodeCheck ((ysF f k v).map Prod.fst)[j] = 0 ∧ ¬ BadK (k + j) ((ysF f k v).map Prod.fst)[j] := by
  intro f
  induction f with
  | zero => intro k v h hk; omega
  | succ f ih =>
    intro k v hf hk hb hall
    by_cases hv : v = []
    · subst hv
      rw [ysF_nil]
      exact ⟨rfl, by simpa using hk, fun j hj => by simp at hj⟩
    by_cases h7 : k = 127
    · subst h7
      rw [ysF_full f hv] at hall
      have := hall (.zero, 10) (by simp)
      cases this
    have e := ysF_done f k v (by omega) hk hv (by omega)
    rw [e] at hall ⊢
    have h0 : errK k v = 0 := hall _ (List.mem_cons_self ..)
    rcases hn : nget v with ⟨n, r, er⟩
    unfold errK at h0
    rw [hn] at h0
    simp only at h0 hall ⊢
    have hnb : er = 0 ∧ ¬ BadK k n := by
      split at h0
      · cases h0
      · rename_i hc
        exact ⟨h0, fun hb => hc ⟨h0, hb⟩⟩
    obtain ⟨rfl, hbad⟩ := hnb
    obtain ⟨hc, hp⟩ := nget_only hb hn
    have hbr : Bytes r := by rw [← hp] at hb; exact (Bytes.app.1 hb).2
    obtain ⟨i1, i2, i3⟩ := ih (k + 1) r (by omega) (by omega) hbr fun p hp => hall p (List.mem_cons_of_mem _ (by rw [hn]; exact hp))
    refine ⟨?_, by simp only [List.length_cons]; omega, fun j hj => ?_⟩
    · rw [List.map_cons]
      unfold putL at i1 ⊢
      rw [List.flatMap_cons, ← i1, hp]
    · cases j with
      | zero => exact ⟨hc, hbad⟩
      | succ j =>
        have := i3 j (by simpa using hj)
        simp only [List.map_cons, List.getElem_cons_succ]
        rw [show k + (j + 1) = k + 1 + j by omega]
        exact this
theorem stands_of {n : Node} {k : Nat} (h : ¬ BadK k n) : Stands k n.kind := by
  unfold Stands
  unfold BadK at h
  have : ((k : Nat) : Int).tmod 2 = ((k % 2 : Nat) : Int) := by rw [Int.tmod_eq_emod_of_nonneg (by omega)]; omega
  rw [this]
  split <;> omega
theorem getT_only {b : List Int} {t : List Node} (ho : Oct b) (h : getT b = (t, 0)) :
    Sane t ∧ 0 < t.length ∧ NamedT t ∧ leaves_ t ≤ 64 ∧ putT t = b ∧ (t.length = 1 ∨ lastT t > (t.length : Int) / 2 - 1) ∧ (∀ x : Int, (getT (b ++ [x])).2 = 2) ∧ 0 < b.length ∧ (getT (b.take (b.length - 1))).2 = 1 := by
  have hb := bytes_of ho
  unfold getT at h
  split at h
  · rename_i hn; exact absurd (congrArg Prod.snd h) hn
  split at h
  · exact absurd (congrArg Prod.snd h) (by simp)
  rename_i c1 c2
  rcases hg : gbytes b with ⟨v, r, e⟩
  rw [hg] at h c1 c2
  simp only [ne_eq, Classical.not_not] at h c1 c2
  subst c1 c2
  unfold getK at h
  split at h
  · exact absurd (congrArg Prod.snd h) (by simp)
  split at h
  · rename_i hn; exact absurd (congrArg Prod.snd h) hn
  split at h
  · exact absurd (congrArg Prod.snd h) (by simp)
  split at h
  · exact absurd (congrArg Prod.snd h) (by simp)
  rename_i hv he hlast hnam
  obtain ⟨hvl, hvb⟩ := gbytes_only hb hg
  have hbv : Bytes v := (gbytes_rest hb hg).1
  obtain ⟨y1, y2, y3⟩ := ysF_all 128 0 v rfl (by omega) hbv (firstE_zero (Classical.not_not.1 he))
  change v = putL ((ysI v).map Prod.fst) at y1
  change (ysI v).length + 0 ≤ 127 at y2
  change ∀ j (hj : j < ((ysI v).map Prod.fst).length), nodeCheck ((ysI v).map Prod.fst)[j] = 0 ∧ ¬ BadK (0 + j) ((ysI v).map Prod.fst)[j] at y3
  have y2' : ((ysI v).map Prod.fst).length ≤ 127 := by rw [List.length_map]; omega
  generalize (ysI v).map Prod.fst = ns at *
  simp only [Prod.mk.injEq, and_true] at h
  subst h
  have hns : ns ≠ [] := by rintro rfl; exact hv y1
  have hpos : 0 < ns.length := List.length_pos_iff.2 hns
  have hpl := padT_len y2'
  have hge := pad_ge _ y2'
  have hW := pad_whole ns.length
  have hs : Sane (padT ns) := by
    refine ⟨fun x hx => ?_, .inr (by rw [hpl]; exact hW)⟩
    rw [← nodeAt_lt hx, padT_at]
    rcases Nat.lt_or_ge x ns.length with h1 | h1
    · rw [nodeAt_lt h1]
      have := y3 x h1
      rw [Nat.zero_add] at this
      exact ⟨stands_of this.2, this.1⟩
    · rw [nodeAt_ge h1]; exact good_zero x
  have hl : lastT (padT ns) = ((ns.length - 1 : Nat) : Int) := by
    refine lastT_some hs (by omega) (by rw [padT_at]; exact hlast) fun j h1 h2 => ?_
    rw [padT_at, nodeAt_ge (by omega)]; rfl
  have htk : (padT ns).take (((ns.length - 1 : Nat) : Int) + 1).toNat = ns := by
    have : (((ns.length - 1 : Nat) : Int) + 1).toNat = ns.length := by omega
    rw [this]
    unfold padT
    simp
  rw [List.append_nil] at hvb
  have hbl : b.length = (vput v.length ++ v).length := by rw [hvb]
  have hvpos : 0 < v.length := List.length_pos_iff.2 hv
  refine ⟨hs, by omega, Classical.not_not.1 hnam, ?_, ?_, ?_, fun x => ?_, ?_, ?_⟩
  · rw [leaves_of hs, hpl]
    have := hW.le; omega
  · unfold putT
    rw [known_of hs, hl, htk, ← y1, pbytes_eq hvl, List.nil_append, hvb]
  · rw [hpl, hl]
    rcases Nat.lt_or_ge 1 ns.length with h1 | h1
    · have := pad_half y2' h1
      right; omega
    · left
      have : ns.length = 1 := by omega
      rw [this]; rfl
  · have hg2 : gbytes (b ++ [x]) = (v, [x], 0) := by rw [← hvb]; exact gbytes_put hvl [x]
    unfold getT
    rw [hg2]
    simp
  · rw [hbl, List.length_append]; omega
  · have hg3 : gbytes (b.take (b.length - 1)) = ([], [], 1) := by
      have := gbytes_cut hvl (c := b.length - 1) (by rw [← hbl, hbl, List.length_append]; omega)
      rwa [hvb] at this
    unfold getT
    rw [hg3]
    simp
theorem getT_err {b : List Int} (h : (getT b).2 ≠ 0) : (getT b).1 = [] := by
  unfold getT at h ⊢
  split
  · rfl
  · rename_i c1
    rw [if_neg c1] at h
    split
    · rfl
    · rename_i c2
      rw [if_neg c2] at h
      unfold getK at h ⊢
      split
      · rfl
      · rename_i c3
        rw [if_neg c3] at h
        split
        · rfl
        · rename_i c4
          rw [if_neg c4] at h
          split
          · rfl
          · rename_i c5
            rw [if_neg c5] at h
            split
            · rfl
            · rename_i c6
              rw [if_neg c6] at h
              exact absurd rfl h
end Go.Proofs.YtihhinbjhiankaaGreatDoor.Al

set_option linter.unusedSimpArgs false
set_option linter.unusedVariables false
namespace Go.Proofs.YtihhinbjhiankaaGreatDoor.Al
open Go
attribute [local go_sem] W_mv W_pick W_alloc W_box W_build W_bslice W_load W_store W_bin W_isnil W_un W_convI W_convS W_mkiface W_mkfunc W_slice W_faddr W_iaddr W_idxA W_extract W_len W_min W_max W_append W_appendZ W_clear W_invoke thenQ_normal thenQ_exit thenQ_goto thenQ_ret blockQ_normal blockQ_ret blockQ_goto blockQ_exit wpc_skip wpc_region wpc_draw wpc_seq wpc_cond wpc_block wpc_exit wpc_goto wpc_label wpc_ret wpc_loop wpc_range wpc_scope condW_true condW_false condW_dec condW_any W_nil W_call resW_some evalOp Opd.ev updo_envL updo_none setL_cons setL_nil envL_cons Option.map_some Option.bind_some evBin evInt List.map_cons List.map_nil Option.pure_def Option.bind_eq_bind W_grd' grdW_tt grdW_ff grdW_tf grdW_ft grdW_tup grdW_dt grdW_df lgrdW_tup L_mv L_load L_bin L_un L_faddr L_iaddr L_nil L_call lresW_some upd_envL evUn beq_dec bne_dec leaves_ret1 leaves_ret0 leaves_end0 rowLen_ints load_iptr0 not_dec heap_get0 heap_get1 heap_set0 heap_set1 heap_len1 heap_app bslice1_int seen_ints seen_one0 bslice0_int Nat.sub_zero Bool.not_true Bool.not_false List.length_nil List.length_cons List.nil_append List.cons_append Nat.zero_add load_iptrA canon_ptrI canon_bool canon_tup canon_agg canon_ints' canon_ints0 rowLen_ints1 rowLen_octs seen_octs canon_octs' seen_intss seen_octss rowLen_nodes seen_nodes canon_nodes' rowLen_nodes3 seen_list cells_int oneIn_int cells_bool oneIn_bool cells_str oneIn_str cells_list oneIn_list cells_func oneIn_func cells_nilfunc oneIn_nilfunc cells_iptr oneIn_iptr cells_iface oneIn_iface cells_nilIface oneIn_nilIface cells_own cells_ptr cells_anybool oneIn_anybool cells_agg oneIn_own0 oneIn_own1 seenL1 seenM1 oneIn_ptr2 seenL2 oneIn_own3 seenL3 cells_ints oneIn_ints cells_octs oneIn_octs cells_intss oneIn_intss cells_octss oneIn_octss cells_nodes oneIn_nodes ldB0 ldA0 adB0 stB0 ldB1 ldA1 adB1 stB1 ldB2 ldA2 adB2 stB2 ldB3 ldA3 adB3 stB3 ldB4 ldA4 adB4 stB4 ldB5 ldA5 adB5 stB5 List.getElem?_cons_zero List.getElem?_cons_succ beq_self_eq_true splice List.take_zero List.take_succ_cons List.drop_zero List.drop_succ_cons List.append_nil List.set_cons_zero List.set_cons_succ List.all_cons List.all_nil Bool.and_self and_self and_true true_and Nat.lt_irrefl Nat.zero_lt_one Nat.le_refl fillA evNil notA Bool.false_eq_true evMin_int evMax_int Option.map_none freezeP_all_nil freezeP_all_cons frzE_box frzE_arr frzE_dead foldA List.foldlM_cons List.foldlM_nil callW_f lcallW_f ansW_fn ansW_own lansW_fn lansW_own ansW_none lansW_none tab_cons tab_nil dI_int dB_bool dO_octs dO_ints dO_list dO_nil dOs_nil dN_nodeA dLf_agg dIn_agg dN_agg dNs_nodes dNs_nil isI_int isB_bool isO_octs isO_nil isO_list isS_ints isS_nil isNs_nodes isNs_nil isN_nodeA isLf_agg isIn_agg isN_agg leaf_eta inner_eta node_eta leaf_zero inner_zero node_zero dP_agg isP_agg patch_eta decide_eq_true_eq decide_eq_false_iff_not eq_self forall_const true_implies false_implies Bool.not_eq_true' Bool.not_eq_false' Bool.true_eq_false implies_true ne_eq ldI ldIA adI AV.tup.injEq AV.agg.injEq List.cons.injEq AV.int.injEq AV.bool.injEq nodes_inj octs_inj ints_inj nil_nodes nil_octs nil_ints canon_nilL decide_eq_decide two_ne four_ne lendA_fn lendA_own lendA_none llendA_fn llendA_none false_and and_false Q_nil Q_l Q_g Q_h Q_grd qgrdW_b qgrdW_tup lightD_some heavyD_some readD_some fnD_some fnD_own fnD_none callL_f ownH_some litD_some litE_some Q_call Q_bslice H_call pendOk_nil pendOk_cons pastOk_nil pastOk_cons Q_mv Q_pick Q_bin Q_un Q_convI Q_mkfunc Q_extract Q_min Q_max Q_lenS Q_lenA Q_field Q_idxA Q_mkiface Q_tassert Q_alloc Q_box Q_store Q_mkslice Q_append Q_appendZ Q_copy Q_clear Q_build Q_load Q_nilck Q_isnil Q_convS Q_slice Q_faddr Q_iaddr Q_iaddrA Q_len H_alloc H_box H_bslice H_store H_mkslice H_append H_appendZ H_copy H_clear free_mv free_pick free_bin free_un free_convI free_mkfunc free_extract free_min free_max free_lenS free_lenA free_field free_idxA free_mkiface free_tassert free_build free_load free_nilck free_isnil free_convS free_slice free_faddr free_iaddr free_iaddrA free_len callW_y List.length_map List.length_set leaves_r evR_some evRess1 evRess2 evRess3 evRes_t evRes_c nz_kind nz_enc nz_cred nz_source nz_parent nz_ienc nz_hash nz_un true_or or_true bsl_node appI appO ixo_nodes canon_rowI canon_rowO not_false_eq_true not_true_eq_false ldE_a ldE_c adE_b stE_b onE_a onP_b bsl_zero
attribute [local go_sem low] condW_b grdW_b lgrdW_b ldP adP stP onO onPt
attribute [local simp] envL_cons envL_nil idb_int idb_bool idb_ints idb_nil idb_own idb_ptr idb_octs idb_nodes idb_leafA idb_innerA idb_nodeA idb_agg idb_tup idb_iptr idb_fn entB_dead entB_box
theorem cloneI_spec (b : List Int) (hl : b.length ≤ 4294967295) : FunOwn seat 201 [ints b] 1 (b.map (AV.int .i64)) := by
  refine FunOwn.of0W told201 (by simp [il201]) (by simp ) (encI64.xs_idb b) (wpc_sound ?_)
  simp only [il201, List.zipIdx_cons, List.zipIdx_nil, Nat.zero_add, go_sem, Nat.reduceEqDiff, reduceIte, Nat.reduceAdd, Nat.reduceLeDiff, Nat.reduceLT, Nat.reduceSub, ints]
  have app : ∀ r : List Int, r.length ≤ 4294967295 → ∃ v, evAppend [Entry.arr 1 0 (([] : List Int).map (AV.int .i64))] 1 8 (.own 0 0 0 ([] : List Int).length) (r.map (AV.int .i64)) = some (.own 0 v 0 r.length, [.arr 1 v (r.map (AV.int .i64))]) := by
    intro r hr
    obtain ⟨v, hv⟩ := encI64.app_any (H := [Entry.arr 1 0 (([] : List Int).map (AV.int .i64))]) (id := 0) (ver := 0) (l := []) (ys := r) (bytes := 8) rfl (by unfold maxRow; simp; omega) (by decide)
    exact ⟨v, by simpa [encI64] using hv⟩
  have hb : evBslice ([] : List Entry) 1 0 (.int .i64 0) [] = some (.own 0 0 0 0, [.arr 1 0 []]) := rfl
  cases b with
  | nil =>
    obtain ⟨v, hv⟩ := app [] (by simp)
    simp only [List.map_nil, List.length_nil] at hv
    simp only [List.map_nil, go_sem, Nat.reduceEqDiff, reduceIte, Nat.reduceAdd, Nat.reduceLeDiff, Nat.reduceLT, Nat.reduceSub, hv, hb]
    exact .inl ⟨0, v, rfl, rfl⟩
  | cons x r =>
    obtain ⟨v, hv⟩ := app (x :: r) hl
    simp only [List.map_nil, List.length_nil, List.map_cons, List.length_cons] at hv
    simp only [List.map_cons, go_sem, Nat.reduceEqDiff, reduceIte, Nat.reduceAdd, Nat.reduceLeDiff, Nat.reduceLT, Nat.reduceSub, hv, hb]
    exact .inl ⟨0, v, by simp, rfl⟩
noncomputable def r201 : Reg seat := .of told201 (ask1 (fun a0' => isS a0' ∧ (dO a0').length ≤ 4294967295) fun a0' => .own 1 ((dO a0').map (AV.int .i64))) (ask1_ok fun a0' h => SaidOk.own (FunOwn.weak (.cons (isS.weak h.1) .nil) (cloneI_spec _ h.2)) (by first | exact encU8.xs_idb _ | exact encI64.xs_idb _ | exact encNode.xs_idb _))
theorem r201_c : r201.c = 201 := rfl
open Classical in
theorem r201_ask (a0' : AV) : r201.ask [a0'] = if isS a0' ∧ (dO a0').length ≤ 4294967295 then some (Said.own 1 ((dO a0').map (AV.int .i64))) else none := by unfold r201 Reg.of ask1; exact ite_cl
end Go.Proofs.YtihhinbjhiankaaGreatDoor.Al

set_option linter.unusedSimpArgs false
set_option linter.unusedVariables false
namespace Go.Proofs.YtihhinbjhiankaaGreatDoor.Al
open Go
attribute [local go_sem] W_mv W_pick W_alloc W_box W_build W_bslice W_load W_store W_bin W_isnil W_un W_convI W_convS W_mkiface W_mkfunc W_slice W_faddr W_iaddr W_idxA W_extract W_len W_min W_max W_append W_appendZ W_clear W_invoke thenQ_normal thenQ_exit thenQ_goto thenQ_ret blockQ_normal blockQ_ret blockQ_goto blockQ_exit wpc_skip wpc_region wpc_draw wpc_seq wpc_cond wpc_block wpc_exit wpc_goto wpc_label wpc_ret wpc_loop wpc_range wpc_scope condW_true condW_false condW_dec condW_any W_nil W_call resW_some evalOp Opd.ev updo_envL updo_none setL_cons setL_nil envL_cons Option.map_some Option.bind_some evBin evInt List.map_cons List.map_nil Option.pure_def Option.bind_eq_bind W_grd' grdW_tt grdW_ff grdW_tf grdW_ft grdW_tup grdW_dt grdW_df lgrdW_tup L_mv L_load L_bin L_un L_faddr L_iaddr L_nil L_call lresW_some upd_envL evUn beq_dec bne_dec leaves_ret1 leaves_ret0 leaves_end0 rowLen_ints load_iptr0 not_dec heap_get0 heap_get1 heap_set0 heap_set1 heap_len1 heap_app bslice1_int seen_ints seen_one0 bslice0_int Nat.sub_zero Bool.not_true Bool.not_false List.length_nil List.length_cons List.nil_append List.cons_append Nat.zero_add load_iptrA canon_ptrI canon_bool canon_tup canon_agg canon_ints' canon_ints0 rowLen_ints1 rowLen_octs seen_octs canon_octs' seen_intss seen_octss rowLen_nodes seen_nodes canon_nodes' rowLen_nodes3 seen_list cells_int oneIn_int cells_bool oneIn_bool cells_str oneIn_str cells_list oneIn_list cells_func oneIn_func cells_nilfunc oneIn_nilfunc cells_iptr oneIn_iptr cells_iface oneIn_iface cells_nilIface oneIn_nilIface cells_own cells_ptr cells_anybool oneIn_anybool cells_agg oneIn_own0 oneIn_own1 seenL1 seenM1 oneIn_ptr2 seenL2 oneIn_own3 seenL3 cells_ints oneIn_ints cells_octs oneIn_octs cells_intss oneIn_intss cells_octss oneIn_octss cells_nodes oneIn_nodes ldB0 ldA0 adB0 stB0 ldB1 ldA1 adB1 stB1 ldB2 ldA2 adB2 stB2 ldB3 ldA3 adB3 stB3 ldB4 ldA4 adB4 stB4 ldB5 ldA5 adB5 stB5 List.getElem?_cons_zero List.getElem?_cons_succ beq_self_eq_true splice List.take_zero List.take_succ_cons List.drop_zero List.drop_succ_cons List.append_nil List.set_cons_zero List.set_cons_succ List.all_cons List.all_nil Bool.and_self and_self and_true true_and Nat.lt_irrefl Nat.zero_lt_one Nat.le_refl fillA evNil notA Bool.false_eq_true evMin_int evMax_int Option.map_none freezeP_all_nil freezeP_all_cons frzE_box frzE_arr frzE_dead foldA List.foldlM_cons List.foldlM_nil callW_f lcallW_f ansW_fn ansW_own lansW_fn lansW_own ansW_none lansW_none tab_cons tab_nil dI_int dB_bool dO_octs dO_ints dO_list dO_nil dOs_nil dN_nodeA dLf_agg dIn_agg dN_agg dNs_nodes dNs_nil isI_int isB_bool isO_octs isO_nil isO_list isS_ints isS_nil isNs_nodes isNs_nil isN_nodeA isLf_agg isIn_agg isN_agg leaf_eta inner_eta node_eta leaf_zero inner_zero node_zero dP_agg isP_agg patch_eta decide_eq_true_eq decide_eq_false_iff_not eq_self forall_const true_implies false_implies Bool.not_eq_true' Bool.not_eq_false' Bool.true_eq_false implies_true ne_eq ldI ldIA adI AV.tup.injEq AV.agg.injEq List.cons.injEq AV.int.injEq AV.bool.injEq nodes_inj octs_inj ints_inj nil_nodes nil_octs nil_ints canon_nilL decide_eq_decide two_ne four_ne lendA_fn lendA_own lendA_none llendA_fn llendA_none false_and and_false Q_nil Q_l Q_g Q_h Q_grd qgrdW_b qgrdW_tup lightD_some heavyD_some readD_some fnD_some fnD_own fnD_none callL_f ownH_some litD_some litE_some Q_call Q_bslice H_call pendOk_nil pendOk_cons pastOk_nil pastOk_cons Q_mv Q_pick Q_bin Q_un Q_convI Q_mkfunc Q_extract Q_min Q_max Q_lenS Q_lenA Q_field Q_idxA Q_mkiface Q_tassert Q_alloc Q_box Q_store Q_mkslice Q_append Q_appendZ Q_copy Q_clear Q_build Q_load Q_nilck Q_isnil Q_convS Q_slice Q_faddr Q_iaddr Q_iaddrA Q_len H_alloc H_box H_bslice H_store H_mkslice H_append H_appendZ H_copy H_clear free_mv free_pick free_bin free_un free_convI free_mkfunc free_extract free_min free_max free_lenS free_lenA free_field free_idxA free_mkiface free_tassert free_build free_load free_nilck free_isnil free_convS free_slice free_faddr free_iaddr free_iaddrA free_len callW_y List.length_map List.length_set leaves_r evR_some evRess1 evRess2 evRess3 evRes_t evRes_c nz_kind nz_enc nz_cred nz_source nz_parent nz_ienc nz_hash nz_un true_or or_true bsl_node appI appO ixo_nodes canon_rowI canon_rowO not_false_eq_true not_true_eq_false ldE_a ldE_c adE_b stE_b onE_a onP_b bsl_zero
attribute [local go_sem low] condW_b grdW_b lgrdW_b ldP adP stP onO onPt
attribute [local simp] envL_cons envL_nil idb_int idb_bool idb_ints idb_nil idb_own idb_ptr idb_octs idb_nodes idb_leafA idb_innerA idb_nodeA idb_agg idb_tup idb_iptr idb_fn entB_dead entB_box
end Go.Proofs.YtihhinbjhiankaaGreatDoor.Al

set_option linter.unusedSimpArgs false
set_option linter.unusedVariables false
namespace Go.Proofs.YtihhinbjhiankaaGreatDoor.Al
open Go
attribute [local go_sem] W_mv W_pick W_alloc W_box W_build W_bslice W_load W_store W_bin W_isnil W_un W_convI W_convS W_mkiface W_mkfunc W_slice W_faddr W_iaddr W_idxA W_extract W_len W_min W_max W_append W_appendZ W_clear W_invoke thenQ_normal thenQ_exit thenQ_goto thenQ_ret blockQ_normal blockQ_ret blockQ_goto blockQ_exit wpc_skip wpc_region wpc_draw wpc_seq wpc_cond wpc_block wpc_exit wpc_goto wpc_label wpc_ret wpc_loop wpc_range wpc_scope condW_true condW_false condW_dec condW_any W_nil W_call resW_some evalOp Opd.ev updo_envL updo_none setL_cons setL_nil envL_cons Option.map_some Option.bind_some evBin evInt List.map_cons List.map_nil Option.pure_def Option.bind_eq_bind W_grd' grdW_tt grdW_ff grdW_tf grdW_ft grdW_tup grdW_dt grdW_df lgrdW_tup L_mv L_load L_bin L_un L_faddr L_iaddr L_nil L_call lresW_some upd_envL evUn beq_dec bne_dec leaves_ret1 leaves_ret0 leaves_end0 rowLen_ints load_iptr0 not_dec heap_get0 heap_get1 heap_set0 heap_set1 heap_len1 heap_app bslice1_int seen_ints seen_one0 bslice0_int Nat.sub_zero Bool.not_true Bool.not_false List.length_nil List.length_cons List.nil_append List.cons_append Nat.zero_add load_iptrA canon_ptrI canon_bool canon_tup canon_agg canon_ints' canon_ints0 rowLen_ints1 rowLen_octs seen_octs canon_octs' seen_intss seen_octss rowLen_nodes seen_nodes canon_nodes' rowLen_nodes3 seen_list cells_int oneIn_int cells_bool oneIn_bool cells_str oneIn_str cells_list oneIn_list cells_func oneIn_func cells_nilfunc oneIn_nilfunc cells_iptr oneIn_iptr cells_iface oneIn_iface cells_nilIface oneIn_nilIface cells_own cells_ptr cells_anybool oneIn_anybool cells_agg oneIn_own0 oneIn_own1 seenL1 seenM1 oneIn_ptr2 seenL2 oneIn_own3 seenL3 cells_ints oneIn_ints cells_octs oneIn_octs cells_intss oneIn_intss cells_octss oneIn_octss cells_nodes oneIn_nodes ldB0 ldA0 adB0 stB0 ldB1 ldA1 adB1 stB1 ldB2 ldA2 adB2 stB2 ldB3 ldA3 adB3 stB3 ldB4 ldA4 adB4 stB4 ldB5 ldA5 adB5 stB5 List.getElem?_cons_zero List.getElem?_cons_succ beq_self_eq_true splice List.take_zero List.take_succ_cons List.drop_zero List.drop_succ_cons List.append_nil List.set_cons_zero List.set_cons_succ List.all_cons List.all_nil Bool.and_self and_self and_true true_and Nat.lt_irrefl Nat.zero_lt_one Nat.le_refl fillA evNil notA Bool.false_eq_true evMin_int evMax_int Option.map_none freezeP_all_nil freezeP_all_cons frzE_box frzE_arr frzE_dead foldA List.foldlM_cons List.foldlM_nil callW_f lcallW_f ansW_fn ansW_own lansW_fn lansW_own ansW_none lansW_none tab_cons tab_nil dI_int dB_bool dO_octs dO_ints dO_list dO_nil dOs_nil dN_nodeA dLf_agg dIn_agg dN_agg dNs_nodes dNs_nil isI_int isB_bool isO_octs isO_nil isO_list isS_ints isS_nil isNs_nodes isNs_nil isN_nodeA isLf_agg isIn_agg isN_agg leaf_eta inner_eta node_eta leaf_zero inner_zero node_zero dP_agg isP_agg patch_eta decide_eq_true_eq decide_eq_false_iff_not eq_self forall_const true_implies false_implies Bool.not_eq_true' Bool.not_eq_false' Bool.true_eq_false implies_true ne_eq ldI ldIA adI AV.tup.injEq AV.agg.injEq List.cons.injEq AV.int.injEq AV.bool.injEq nodes_inj octs_inj ints_inj nil_nodes nil_octs nil_ints canon_nilL decide_eq_decide two_ne four_ne lendA_fn lendA_own lendA_none llendA_fn llendA_none false_and and_false Q_nil Q_l Q_g Q_h Q_grd qgrdW_b qgrdW_tup lightD_some heavyD_some readD_some fnD_some fnD_own fnD_none callL_f ownH_some litD_some litE_some Q_call Q_bslice H_call pendOk_nil pendOk_cons pastOk_nil pastOk_cons Q_mv Q_pick Q_bin Q_un Q_convI Q_mkfunc Q_extract Q_min Q_max Q_lenS Q_lenA Q_field Q_idxA Q_mkiface Q_tassert Q_alloc Q_box Q_store Q_mkslice Q_append Q_appendZ Q_copy Q_clear Q_build Q_load Q_nilck Q_isnil Q_convS Q_slice Q_faddr Q_iaddr Q_iaddrA Q_len H_alloc H_box H_bslice H_store H_mkslice H_append H_appendZ H_copy H_clear free_mv free_pick free_bin free_un free_convI free_mkfunc free_extract free_min free_max free_lenS free_lenA free_field free_idxA free_mkiface free_tassert free_build free_load free_nilck free_isnil free_convS free_slice free_faddr free_iaddr free_iaddrA free_len callW_y List.length_map List.length_set leaves_r evR_some evRess1 evRess2 evRess3 evRes_t evRes_c nz_kind nz_enc nz_cred nz_source nz_parent nz_ienc nz_hash nz_un true_or or_true bsl_node appI appO ixo_nodes canon_rowI canon_rowO not_false_eq_true not_true_eq_false ldE_a ldE_c adE_b stE_b onE_a onP_b bsl_zero
attribute [local go_sem low] condW_b grdW_b lgrdW_b ldP adP stP onO onPt
attribute [local simp] envL_cons envL_nil idb_int idb_bool idb_ints idb_nil idb_own idb_ptr idb_octs idb_nodes idb_leafA idb_innerA idb_nodeA idb_agg idb_tup idb_iptr idb_fn entB_dead entB_box
theorem index_spec (l : List Int) (x : Int) (hl : Small l) : Fun seat 222 [ints l, .int .i64 x] (.int .i64 (idxF (fun y => decide (x = y)) l)) := by
  simp only [Small] at hl
  refine Fun.of0R [] told222 (by simp [il222]) (by simp [idb_patchA]) (by simp [idb_patchA]) 4 ?_
  simp -implicitDefEqProofs only [il222, List.zipIdx_cons, List.zipIdx_nil, leafA, innerA, nodeA, patchA, Leaf.cells, Inner.cells, Node.cells, decide_true, decide_false, go_sem, Nat.reduceEqDiff, reduceIte, Nat.reduceAdd, Nat.reduceLeDiff, Nat.reduceLT, Nat.reduceSub]
  refine WP.loop0 (fun k => k ≤ l.length ∧ ∀ j (h : j < l.length), j < k → ¬ x = l[j]) (fun k => [(0, ints l), (1, .int .i64 x), (7, .int .i64 l.length), (8, .int .i64 (k : Nat))]) (fun k => l.length - k) 0 ⟨Nat.zero_le _, fun j _ h => absurd h (Nat.not_lt_zero j)⟩ (fun k _ => by simp ) (by simp ) ?_
  rintro k ⟨hk, hno⟩
  refine wpc_soundR [] ?_
  by_cases hlt : (k : Int) < (l.length : Nat)
  · have hk' : k < l.length := by omega
    by_cases he : x = l[k]
    · simp -implicitDefEqProofs only [leafA, innerA, nodeA, patchA, Leaf.cells, Inner.cells, Node.cells, decide_true, decide_false, hlt, fun H => index_ints H l k hk', he, go_sem, Nat.reduceEqDiff, reduceIte, Nat.reduceAdd, Nat.reduceLeDiff, Nat.reduceLT, Nat.reduceSub]
      exact (findIdx_at hk' (by simp) fun j hj => decide_eq_false (by have := hno j (by omega) hj; rwa [he] at this)).symm
    · simp -implicitDefEqProofs only [leafA, innerA, nodeA, patchA, Leaf.cells, Inner.cells, Node.cells, decide_true, decide_false, hlt, fun H => index_ints H l k hk', he, go_sem, Nat.reduceEqDiff, reduceIte, Nat.reduceAdd, Nat.reduceLeDiff, Nat.reduceLT, Nat.reduceSub]
      exact ⟨k + 1, ⟨hk', scanS (p := fun j h => ¬ x = l[j]) hno fun _ => he⟩, by omega, by simp [wrapS (show k < 9223372036854775807 by omega)]⟩
  · simp -implicitDefEqProofs only [leafA, innerA, nodeA, patchA, Leaf.cells, Inner.cells, Node.cells, decide_true, decide_false, hlt, go_sem, Nat.reduceEqDiff, reduceIte, Nat.reduceAdd, Nat.reduceLeDiff, Nat.reduceLT, Nat.reduceSub]
    exact (idxF_none (l := l) (p := fun y => decide (x = y)) fun j hj => decide_eq_false (hno j hj (by omega))).symm
noncomputable def r222 : Reg seat := .of told222 (ask2 (fun a0' a1' => isS a0' ∧ isI a1' ∧ Small (dO a0')) fun a0' a1' => .fn (.int .i64 (idxF (fun y => decide ((dI a1') = y)) (dO a0')))) (ask2_ok fun a0' a1' h => SaidOk.fn (Fun.weak (.cons (isS.weak h.1) (.cons (isI.weak h.2.1) .nil)) (index_spec _ _ h.2.2)))
theorem r222_c : r222.c = 222 := rfl
open Classical in
theorem r222_ask (a0' a1' : AV) : r222.ask [a0', a1'] = if isS a0' ∧ isI a1' ∧ Small (dO a0') then some (Said.fn (.int .i64 (idxF (fun y => decide ((dI a1') = y)) (dO a0')))) else none := by unfold r222 Reg.of ask2; exact ite_cl
theorem idxF_has (l : List Int) (x : Int) : decide (idxF (fun y => decide (x = y)) l ≥ 0) = l.contains x := by
  rw [idxF_ge]
  rw [Bool.eq_iff_iff]
  simp only [List.any_eq_true, decide_eq_true_eq, List.contains_iff_mem]
  exact ⟨fun ⟨y, h1, h2⟩ => h2 ▸ h1, fun h => ⟨x, h, rfl⟩⟩
theorem contains_spec (l : List Int) (x : Int) (hl : Small l) : Fun seat 204 [ints l, .int .i64 x] (.bool (l.contains x)) := by
  rw [← idxF_has]
  refine Fun.of0R [r222] told204 (by simp [il204]) (by simp [idb_patchA]) (by simp [idb_patchA]) 4 ?_
  simp -implicitDefEqProofs only [il204, List.zipIdx_cons, List.zipIdx_nil, leafA, innerA, nodeA, patchA, Leaf.cells, Inner.cells, Node.cells, r222_c, r222_ask, decide_true, decide_false, hl, go_sem, Nat.reduceEqDiff, reduceIte, Nat.reduceAdd, Nat.reduceLeDiff, Nat.reduceLT, Nat.reduceSub]
noncomputable def r204 : Reg seat := .of told204 (ask2 (fun a0' a1' => isS a0' ∧ isI a1' ∧ Small (dO a0')) fun a0' a1' => .fn (.bool ((dO a0').contains (dI a1')))) (ask2_ok fun a0' a1' h => SaidOk.fn (Fun.weak (.cons (isS.weak h.1) (.cons (isI.weak h.2.1) .nil)) (contains_spec _ _ h.2.2)))
theorem r204_c : r204.c = 204 := rfl
open Classical in
theorem r204_ask (a0' a1' : AV) : r204.ask [a0', a1'] = if isS a0' ∧ isI a1' ∧ Small (dO a0') then some (Said.fn (.bool ((dO a0').contains (dI a1')))) else none := by unfold r204 Reg.of ask2; exact ite_cl
theorem cutting_spec (l : List Int) (x : Int) (hl : Small l) : Fun seat 203 [.int .i64 x, .iptr [ints l] 0] (.bool (l.contains x)) := by
  refine Fun.of0R [r204] told203 (by simp [il203]) (by simp [idb_patchA]) (by simp [idb_patchA]) 4 ?_
  simp -implicitDefEqProofs only [il203, List.zipIdx_cons, List.zipIdx_nil, leafA, innerA, nodeA, patchA, Leaf.cells, Inner.cells, Node.cells, r204_c, r204_ask, decide_true, decide_false, hl, go_sem, Nat.reduceEqDiff, reduceIte, Nat.reduceAdd, Nat.reduceLeDiff, Nat.reduceLT, Nat.reduceSub]

theorem st_rowI {H : List Entry} {id ver k : Nat} {l : List Int} (n : Int) (h : H[id]? = some (.arr 1 ver (l.map (AV.int .i64)))) (hk : k < l.length) : evStore H 1 (.eptr id ver k 0) (.int .i64 n) = some (H.set id (.arr 1 ver ((l.set k n).map (AV.int .i64)))) := by
  have h3 : (l.map (AV.int .i64))[k]? = some (.int .i64 l[k]) := by simp [hk]
  simp [evStore, AV.cells, AV.oneIn, h, h3, setPart, splice, List.map_set, hk]
theorem clearI {e0 : Entry} {v c : Nat} {R : List Int} (hc : c ≤ R.length) : evClear [e0, .arr 1 v (R.map (AV.int .i64))] 1 (.int .i64 0) (.own 1 v c R.length) = some [e0, .arr 1 v ((R.take c ++ List.replicate (R.length - c) 0).map (AV.int .i64))] := by
  simp [evClear, hc, szOk, AV.cells, AV.oneIn]
theorem idxF_cases {α : Type} (p : α → Bool) (l : List α) : (idxF p l = -1 ∧ ∀ j (h : j < l.length), p l[j] = false) ∨ ∃ k : Nat, ∃ hk : k < l.length, idxF p l = k ∧ p l[k] = true ∧ ∀ j (h : j < k), p (l[j]'(by omega)) = false := by
  by_cases ha : l.any p = true
  · right
    obtain ⟨x, hx, hp⟩ := List.any_eq_true.1 ha
    have hlt : l.findIdx p < l.length := List.findIdx_lt_length_of_exists ⟨x, hx, hp⟩
    exact ⟨l.findIdx p, hlt, by unfold idxF; rw [if_pos ha], List.findIdx_getElem, fun j h => by simpa using List.not_of_lt_findIdx h⟩
  · left
    refine ⟨by unfold idxF; rw [if_neg ha], fun j h => ?_⟩
    cases hp : p l[j] with
    | false => rfl
    | true => exact absurd (List.any_eq_true.2 ⟨l[j], List.getElem_mem h, hp⟩) ha
theorem cutL_same {l i : List Int} (h : ∀ j (hj : j < l.length), i.contains l[j] = false) : cutL l i = l := by
  unfold cutL
  rw [List.filter_eq_self]
  intro x hx
  obtain ⟨j, hj, rfl⟩ := List.getElem_of_mem hx
  rw [h j hj]; rfl

theorem take_set_last {R : List Int} {c : Nat} {x : Int} (h : c < R.length) : (R.set c x).take (c + 1) = R.take c ++ [x] := by
  rw [List.take_succ_eq_append_getElem (by rw [List.length_set]; exact h), List.getElem_set_self, List.take_set, List.set_eq_of_length_le (by rw [List.length_take]; omega)]
theorem drop_set_more {R : List Int} {c m : Nat} {x : Int} (h : c < m) : (R.set c x).drop m = R.drop m := by
  rw [List.drop_set, if_pos h]
/-- slices.DeleteFunc over a row of one's own: what is left stands ahead. -/
theorem delete_spec (l i : List Int) (v : Nat) (hl : l.length ≤ 4294967295) (hi : Small i) :
    ACall seat 202 [.own 1 v 0 l.length, .func (.f 203) [] [.iptr [ints i] 0]] [.dead, .arr 1 v (l.map (AV.int .i64))] (fun r H' => r = .own 1 v 0 (cutL l i).length ∧ ∃ R : List Int, H' = [.dead, .arr 1 v (R.map (AV.int .i64))] ∧ R.length = l.length ∧ R.take (cutL l i).length = cutL l i) := by
  refine ACall.of_wp told202 (by simp [il202]) (wpc_soundR [] ?_)
  rw [start_env]
  simp only [il202, List.zipIdx_cons, List.zipIdx_nil, Nat.zero_add, go_sem, Nat.reduceEqDiff, reduceIte, Nat.reduceAdd, Nat.reduceLeDiff, Nat.reduceLT, Nat.reduceSub]
  refine Callee.lend (r := .int .i64 (idxF (fun x => i.contains x) l)) 1 told167 ?_ (.int _ _) ?_
  · rw [List.map_cons, List.map_cons, List.map_nil, canon_rowI (H := [.dead, .arr 1 v (l.map (AV.int .i64))]) (id := 1) (ver := v) (k := 0) (l := l) rfl]
    exact idx167_spec l (fun x => i.contains x) 203 il203 told203 [.iptr [ints i] 0] (fun x hx => by simp only [List.mem_singleton] at hx; subst hx; simp ) fun x hx => cutting_spec i x hi
  rcases idxF_cases (fun x => i.contains x) l with ⟨h1, h2⟩ | ⟨k0, hk0, h1, h2, h3⟩
  · have e := cutL_same h2
    rw [h1, e]
    simp -implicitDefEqProofs only [leafA, innerA, nodeA, patchA, Leaf.cells, Inner.cells, Node.cells, decide_true, decide_false, go_sem, Nat.reduceEqDiff, reduceIte, Nat.reduceAdd, Nat.reduceLeDiff, Nat.reduceLT, Nat.reduceSub]
    exact ⟨l, rfl, rfl, List.take_length⟩
  have hne : ¬ (k0 : Int) = -1 := by omega
  rw [h1]
  have w0 := wrapS (show k0 < 9223372036854775807 by omega)
  have c0 : cutL (l.take k0) i = l.take k0 := cutL_same fun j hj => by
    rw [List.length_take] at hj
    rw [List.getElem_take]; exact h3 j (by omega)
  have c1 : cutL (l.take (k0 + 1)) i = l.take k0 := by
    have hm : l[k0] ∈ i := by simpa using h2
    rw [cutL_take hk0, if_pos hm, c0]
  simp -implicitDefEqProofs only [leafA, innerA, nodeA, patchA, Leaf.cells, Inner.cells, Node.cells, decide_true, decide_false, hne, w0, go_sem, Nat.reduceEqDiff, reduceIte, Nat.reduceAdd, Nat.reduceLeDiff, Nat.reduceLT, Nat.reduceSub]
  refine WP.loopG (fun s : Nat × List Int => s.1 ≤ l.length ∧ s.2.length = l.length ∧ (cutL (l.take s.1) i).length < s.1 ∧ s.2.take (cutL (l.take s.1) i).length = cutL (l.take s.1) i ∧ s.2.drop s.1 = l.drop s.1)
    (fun s => [(0, .own 1 v 0 l.length), (1, .func (.f 203) [] [.iptr [ints i] 0]), (5, .int .i64 ((cutL (l.take s.1) i).length : Nat)), (6, .int .i64 (s.1 : Nat))]) (fun s => [.dead, .arr 1 v (s.2.map (AV.int .i64))]) (fun s => l.length - s.1) (k0 + 1, l)
    ⟨hk0, rfl, by rw [c1, List.length_take]; simp only; omega, by rw [c1, List.length_take, Nat.min_eq_left (by omega)], rfl⟩
    (fun s hs => ⟨by simp, by simp , fun e he => by
      simp only [List.mem_cons, List.not_mem_nil, or_false] at he
      rcases he with rfl | rfl <;> first | exact encI64.entB _ _ _ _ | simp ⟩) (by simp [c1, Nat.min_eq_left (show k0 ≤ l.length by omega)]) ?_
  rintro ⟨j, R⟩ ⟨a1, a2, a3, a4, a5⟩
  simp only at a1 a2 a3 a4 a5
  refine wpc_soundR [] ?_
  by_cases hlt : (j : Int) < (l.length : Nat)
  · have hj : j < l.length := by omega
    have hR : R[j]'(by omega) = l[j] := by
      have := congrArg (fun x => x[0]?) a5
      simpa [List.getElem?_drop, hj, a2] using this
    have ix : ∀ c : Nat, c < l.length → evIndex [.dead, .arr 1 v (R.map (AV.int .i64))] 1 (.own 1 v 0 l.length) (.int .i64 (c : Int)) = some (.eptr 1 v c 0) := fun c hc => by
      rw [← a2]; exact encI64.index_own rfl (by omega)
    have ixj := ix j hj
    have ixc := ix (cutL (l.take j) i).length (by omega)
    have ld : evLoad [.dead, .arr 1 v (R.map (AV.int .i64))] false 1 (.eptr 1 v j 0) = some (.int .i64 l[j]) := by
      rw [← hR]; simp [evLoad, window, AV.cells, a2, hj]
    have st : ∀ n : Int, evStore [.dead, .arr 1 v (R.map (AV.int .i64))] 1 (.eptr 1 v (cutL (l.take j) i).length 0) (.int .i64 n) = some [.dead, .arr 1 v ((R.set (cutL (l.take j) i).length n).map (AV.int .i64))] := fun n => st_rowI n rfl (by omega)
    have wj := wrapS (show j < 9223372036854775807 by omega)
    have wc := wrapS (show (cutL (l.take j) i).length < 9223372036854775807 by omega)
    simp -implicitDefEqProofs only [leafA, innerA, nodeA, patchA, Leaf.cells, Inner.cells, Node.cells, decide_true, decide_false, hlt, ixj, ld, go_sem, Nat.reduceEqDiff, reduceIte, Nat.reduceAdd, Nat.reduceLeDiff, Nat.reduceLT, Nat.reduceSub]
    refine Callee.c told203 (cutting_spec i l[j] hi) ?_
    have ct := cutL_take (i := i) hj
    by_cases hm : l[j] ∈ i
    · have hc : i.contains l[j] = true := by simpa using hm
      rw [if_pos hm] at ct
      rw [hc]
      simp -implicitDefEqProofs only [leafA, innerA, nodeA, patchA, Leaf.cells, Inner.cells, Node.cells, decide_true, decide_false, wj, go_sem, Nat.reduceEqDiff, reduceIte, Nat.reduceAdd, Nat.reduceLeDiff, Nat.reduceLT, Nat.reduceSub]
      exact ⟨(j + 1, R), ⟨hj, a2, by simp only [ct]; omega, by simp only [ct]; exact a4, by
        simp only
        rw [← List.drop_drop, ← List.drop_drop, a5]⟩, by simp only; omega, by simp [ct], by simp⟩
    · have hc : i.contains l[j] = false := by simpa using hm
      rw [if_neg hm] at ct
      rw [hc]
      simp -implicitDefEqProofs only [leafA, innerA, nodeA, patchA, Leaf.cells, Inner.cells, Node.cells, decide_true, decide_false, wj, wc, ixc, st, go_sem, Nat.reduceEqDiff, reduceIte, Nat.reduceAdd, Nat.reduceLeDiff, Nat.reduceLT, Nat.reduceSub]
      exact ⟨(j + 1, R.set (cutL (l.take j) i).length l[j]), ⟨hj, by rw [List.length_set]; exact a2, by simp only [ct, List.length_append, List.length_singleton]; omega, by
        simp only [ct, List.length_append, List.length_singleton]
        rw [take_set_last (by omega), a4], by
        simp only
        rw [drop_set_more (by omega), ← List.drop_drop, ← List.drop_drop, a5]⟩, by simp only; omega, by simp [ct], by simp⟩
  · have e : j = l.length := by omega
    subst e
    rw [List.take_length] at *
    have s1 : evSlice [.dead, .arr 1 v (R.map (AV.int .i64))] 1 (.own 1 v 0 l.length) (some (.int .i64 ((cutL l i).length : Nat))) none none = some (.own 1 v (cutL l i).length l.length) := by
      simp [evSlice, evBound, a2]; omega
    have s2 : ∀ R' : List Int, R'.length = l.length → evSlice [.dead, .arr 1 v (R'.map (AV.int .i64))] 1 (.own 1 v 0 l.length) none (some (.int .i64 ((cutL l i).length : Nat))) none = some (.own 1 v 0 (cutL l i).length) := fun R' hR' => by
      simp [evSlice, evBound, hR']; omega
    have cl : evClear [.dead, .arr 1 v (R.map (AV.int .i64))] 1 (.int .i64 0) (.own 1 v (cutL l i).length l.length) = some [.dead, .arr 1 v ((R.take (cutL l i).length ++ List.replicate (R.length - (cutL l i).length) 0).map (AV.int .i64))] := by
      rw [← a2]; exact clearI (by omega)
    have hl2 : (R.take (cutL l i).length ++ List.replicate (R.length - (cutL l i).length) 0).length = l.length := by
      simp only [List.length_append, List.length_take, List.length_replicate]; omega
    simp -implicitDefEqProofs only [leafA, innerA, nodeA, patchA, Leaf.cells, Inner.cells, Node.cells, decide_true, decide_false, hlt, s1, cl, s2 _ hl2, go_sem, Nat.reduceEqDiff, reduceIte, Nat.reduceAdd, Nat.reduceLeDiff, Nat.reduceLT, Nat.reduceSub]
    exact ⟨_, rfl, hl2, by rw [List.take_append_of_le_length (by rw [List.length_take]; omega), List.take_take, Nat.min_self, a4]⟩

theorem numsCut_spec (l i : List Int) (hl : l.length ≤ 4294967295) (hi : Small i) : Fun seat 186 [ints l, ints i] (ints (cutL l i)) := by
  refine Fun.of0W told186 (by simp [il186]) (by simp ) (by simp ) 4 ?_
  simp only [il186, List.zipIdx_cons, List.zipIdx_nil, Nat.zero_add, List.map_cons, List.map_nil]
  refine WP.seqR [] fun K hK => ?_
  simp -implicitDefEqProofs only [leafA, innerA, nodeA, patchA, Leaf.cells, Inner.cells, Node.cells, decide_true, decide_false, go_sem, Nat.reduceEqDiff, reduceIte, Nat.reduceAdd, Nat.reduceLeDiff, Nat.reduceLT, Nat.reduceSub]
  refine hK _ (WP.sealB 3 0 rfl rfl ?_)
  clear hK K
  refine wpc_soundR [r201] ?_
  simp -implicitDefEqProofs only [leafA, innerA, nodeA, patchA, Leaf.cells, Inner.cells, Node.cells, r201_c, r201_ask, decide_true, decide_false, hl, go_sem, Nat.reduceEqDiff, reduceIte, Nat.reduceAdd, Nat.reduceLeDiff, Nat.reduceLT, Nat.reduceSub]
  refine Callee.plain (Callable.of told202) (delete_spec l i 0 hl hi) ?_
  rintro _ _ ⟨rfl, R, rfl, hR, hT⟩
  have := encI64.canon_own (H := [.dead, .arr 1 0 (R.map (AV.int .i64))]) (id := 1) (sz := 1) (ver := 0) (lo := 0) (hi := (cutL l i).length) (l := R) rfl (by rw [hR]; exact cutL_le l i) 3
  rw [this, List.drop_zero, hT]; rfl
noncomputable def r186 : Reg seat := .of told186 (ask2 (fun a0' a1' => isS a0' ∧ isS a1' ∧ (dO a0').length ≤ 4294967295 ∧ Small (dO a1')) fun a0' a1' => .fn (ints (cutL (dO a0') (dO a1')))) (ask2_ok fun a0' a1' h => SaidOk.fn (Fun.weak (.cons (isS.weak h.1) (.cons (isS.weak h.2.1) .nil)) (numsCut_spec _ _ h.2.2.1 h.2.2.2)))
theorem r186_c : r186.c = 186 := rfl
open Classical in
theorem r186_ask (a0' a1' : AV) : r186.ask [a0', a1'] = if isS a0' ∧ isS a1' ∧ (dO a0').length ≤ 4294967295 ∧ Small (dO a1') then some (Said.fn (ints (cutL (dO a0') (dO a1')))) else none := by unfold r186 Reg.of ask2; exact ite_cl
end Go.Proofs.YtihhinbjhiankaaGreatDoor.Al

set_option linter.unusedSimpArgs false
set_option linter.unusedVariables false
namespace Go.Proofs.YtihhinbjhiankaaGreatDoor.Al
open Go
attribute [local go_sem] W_mv W_pick W_alloc W_box W_build W_bslice W_load W_store W_bin W_isnil W_un W_convI W_convS W_mkiface W_mkfunc W_slice W_faddr W_iaddr W_idxA W_extract W_len W_min W_max W_append W_appendZ W_clear W_invoke thenQ_normal thenQ_exit thenQ_goto thenQ_ret blockQ_normal blockQ_ret blockQ_goto blockQ_exit wpc_skip wpc_region wpc_draw wpc_seq wpc_cond wpc_block wpc_exit wpc_goto wpc_label wpc_ret wpc_loop wpc_range wpc_scope condW_true condW_false condW_dec condW_any W_nil W_call resW_some evalOp Opd.ev updo_envL updo_none setL_cons setL_nil envL_cons Option.map_some Option.bind_some evBin evInt List.map_cons List.map_nil Option.pure_def Option.bind_eq_bind W_grd' grdW_tt grdW_ff grdW_tf grdW_ft grdW_tup grdW_dt grdW_df lgrdW_tup L_mv L_load L_bin L_un L_faddr L_iaddr L_nil L_call lresW_some upd_envL evUn beq_dec bne_dec leaves_ret1 leaves_ret0 leaves_end0 rowLen_ints load_iptr0 not_dec heap_get0 heap_get1 heap_set0 heap_set1 heap_len1 heap_app bslice1_int seen_ints seen_one0 bslice0_int Nat.sub_zero Bool.not_true Bool.not_false List.length_nil List.length_cons List.nil_append List.cons_append Nat.zero_add load_iptrA canon_ptrI canon_bool canon_tup canon_agg canon_ints' canon_ints0 rowLen_ints1 rowLen_octs seen_octs canon_octs' seen_intss seen_octss rowLen_nodes seen_nodes canon_nodes' rowLen_nodes3 seen_list cells_int oneIn_int cells_bool oneIn_bool cells_str oneIn_str cells_list oneIn_list cells_func oneIn_func cells_nilfunc oneIn_nilfunc cells_iptr oneIn_iptr cells_iface oneIn_iface cells_nilIface oneIn_nilIface cells_own cells_ptr cells_anybool oneIn_anybool cells_agg oneIn_own0 oneIn_own1 seenL1 seenM1 oneIn_ptr2 seenL2 oneIn_own3 seenL3 cells_ints oneIn_ints cells_octs oneIn_octs cells_intss oneIn_intss cells_octss oneIn_octss cells_nodes oneIn_nodes ldB0 ldA0 adB0 stB0 ldB1 ldA1 adB1 stB1 ldB2 ldA2 adB2 stB2 ldB3 ldA3 adB3 stB3 ldB4 ldA4 adB4 stB4 ldB5 ldA5 adB5 stB5 List.getElem?_cons_zero List.getElem?_cons_succ beq_self_eq_true splice List.take_zero List.take_succ_cons List.drop_zero List.drop_succ_cons List.append_nil List.set_cons_zero List.set_cons_succ List.all_cons List.all_nil Bool.and_self and_self and_true true_and Nat.lt_irrefl Nat.zero_lt_one Nat.le_refl fillA evNil notA Bool.false_eq_true evMin_int evMax_int Option.map_none freezeP_all_nil freezeP_all_cons frzE_box frzE_arr frzE_dead foldA List.foldlM_cons List.foldlM_nil callW_f lcallW_f ansW_fn ansW_own lansW_fn lansW_own ansW_none lansW_none tab_cons tab_nil dI_int dB_bool dO_octs dO_ints dO_list dO_nil dOs_nil dN_nodeA dLf_agg dIn_agg dN_agg dNs_nodes dNs_nil isI_int isB_bool isO_octs isO_nil isO_list isS_ints isS_nil isNs_nodes isNs_nil isN_nodeA isLf_agg isIn_agg isN_agg leaf_eta inner_eta node_eta leaf_zero inner_zero node_zero dP_agg isP_agg patch_eta decide_eq_true_eq decide_eq_false_iff_not eq_self forall_const true_implies false_implies Bool.not_eq_true' Bool.not_eq_false' Bool.true_eq_false implies_true ne_eq ldI ldIA adI AV.tup.injEq AV.agg.injEq List.cons.injEq AV.int.injEq AV.bool.injEq nodes_inj octs_inj ints_inj nil_nodes nil_octs nil_ints canon_nilL decide_eq_decide two_ne four_ne lendA_fn lendA_own lendA_none llendA_fn llendA_none false_and and_false Q_nil Q_l Q_g Q_h Q_grd qgrdW_b qgrdW_tup lightD_some heavyD_some readD_some fnD_some fnD_own fnD_none callL_f ownH_some litD_some litE_some Q_call Q_bslice H_call pendOk_nil pendOk_cons pastOk_nil pastOk_cons Q_mv Q_pick Q_bin Q_un Q_convI Q_mkfunc Q_extract Q_min Q_max Q_lenS Q_lenA Q_field Q_idxA Q_mkiface Q_tassert Q_alloc Q_box Q_store Q_mkslice Q_append Q_appendZ Q_copy Q_clear Q_build Q_load Q_nilck Q_isnil Q_convS Q_slice Q_faddr Q_iaddr Q_iaddrA Q_len H_alloc H_box H_bslice H_store H_mkslice H_append H_appendZ H_copy H_clear free_mv free_pick free_bin free_un free_convI free_mkfunc free_extract free_min free_max free_lenS free_lenA free_field free_idxA free_mkiface free_tassert free_build free_load free_nilck free_isnil free_convS free_slice free_faddr free_iaddr free_iaddrA free_len callW_y List.length_map List.length_set leaves_r evR_some evRess1 evRess2 evRess3 evRes_t evRes_c nz_kind nz_enc nz_cred nz_source nz_parent nz_ienc nz_hash nz_un true_or or_true bsl_node appI appO ixo_nodes canon_rowI canon_rowO not_false_eq_true not_true_eq_false ldE_a ldE_c adE_b stE_b onE_a onP_b bsl_zero
attribute [local go_sem low] condW_b grdW_b lgrdW_b ldP adP stP onO onPt
attribute [local simp] envL_cons envL_nil idb_int idb_bool idb_ints idb_nil idb_own idb_ptr idb_octs idb_nodes idb_leafA idb_innerA idb_nodeA idb_agg idb_tup idb_iptr idb_fn entB_dead entB_box
end Go.Proofs.YtihhinbjhiankaaGreatDoor.Al

set_option linter.unusedSimpArgs false
set_option linter.unusedVariables false
namespace Go.Proofs.YtihhinbjhiankaaGreatDoor.Al
open Go
attribute [local go_sem] W_mv W_pick W_alloc W_box W_build W_bslice W_load W_store W_bin W_isnil W_un W_convI W_convS W_mkiface W_mkfunc W_slice W_faddr W_iaddr W_idxA W_extract W_len W_min W_max W_append W_appendZ W_clear W_invoke thenQ_normal thenQ_exit thenQ_goto thenQ_ret blockQ_normal blockQ_ret blockQ_goto blockQ_exit wpc_skip wpc_region wpc_draw wpc_seq wpc_cond wpc_block wpc_exit wpc_goto wpc_label wpc_ret wpc_loop wpc_range wpc_scope condW_true condW_false condW_dec condW_any W_nil W_call resW_some evalOp Opd.ev updo_envL updo_none setL_cons setL_nil envL_cons Option.map_some Option.bind_some evBin evInt List.map_cons List.map_nil Option.pure_def Option.bind_eq_bind W_grd' grdW_tt grdW_ff grdW_tf grdW_ft grdW_tup grdW_dt grdW_df lgrdW_tup L_mv L_load L_bin L_un L_faddr L_iaddr L_nil L_call lresW_some upd_envL evUn beq_dec bne_dec leaves_ret1 leaves_ret0 leaves_end0 rowLen_ints load_iptr0 not_dec heap_get0 heap_get1 heap_set0 heap_set1 heap_len1 heap_app bslice1_int seen_ints seen_one0 bslice0_int Nat.sub_zero Bool.not_true Bool.not_false List.length_nil List.length_cons List.nil_append List.cons_append Nat.zero_add load_iptrA canon_ptrI canon_bool canon_tup canon_agg canon_ints' canon_ints0 rowLen_ints1 rowLen_octs seen_octs canon_octs' seen_intss seen_octss rowLen_nodes seen_nodes canon_nodes' rowLen_nodes3 seen_list cells_int oneIn_int cells_bool oneIn_bool cells_str oneIn_str cells_list oneIn_list cells_func oneIn_func cells_nilfunc oneIn_nilfunc cells_iptr oneIn_iptr cells_iface oneIn_iface cells_nilIface oneIn_nilIface cells_own cells_ptr cells_anybool oneIn_anybool cells_agg oneIn_own0 oneIn_own1 seenL1 seenM1 oneIn_ptr2 seenL2 oneIn_own3 seenL3 cells_ints oneIn_ints cells_octs oneIn_octs cells_intss oneIn_intss cells_octss oneIn_octss cells_nodes oneIn_nodes ldB0 ldA0 adB0 stB0 ldB1 ldA1 adB1 stB1 ldB2 ldA2 adB2 stB2 ldB3 ldA3 adB3 stB3 ldB4 ldA4 adB4 stB4 ldB5 ldA5 adB5 stB5 List.getElem?_cons_zero List.getElem?_cons_succ beq_self_eq_true splice List.take_zero List.take_succ_cons List.drop_zero List.drop_succ_cons List.append_nil List.set_cons_zero List.set_cons_succ List.all_cons List.all_nil Bool.and_self and_self and_true true_and Nat.lt_irrefl Nat.zero_lt_one Nat.le_refl fillA evNil notA Bool.false_eq_true evMin_int evMax_int Option.map_none freezeP_all_nil freezeP_all_cons frzE_box frzE_arr frzE_dead foldA List.foldlM_cons List.foldlM_nil callW_f lcallW_f ansW_fn ansW_own lansW_fn lansW_own ansW_none lansW_none tab_cons tab_nil dI_int dB_bool dO_octs dO_ints dO_list dO_nil dOs_nil dN_nodeA dLf_agg dIn_agg dN_agg dNs_nodes dNs_nil isI_int isB_bool isO_octs isO_nil isO_list isS_ints isS_nil isNs_nodes isNs_nil isN_nodeA isLf_agg isIn_agg isN_agg leaf_eta inner_eta node_eta leaf_zero inner_zero node_zero dP_agg isP_agg patch_eta decide_eq_true_eq decide_eq_false_iff_not eq_self forall_const true_implies false_implies Bool.not_eq_true' Bool.not_eq_false' Bool.true_eq_false implies_true ne_eq ldI ldIA adI AV.tup.injEq AV.agg.injEq List.cons.injEq AV.int.injEq AV.bool.injEq nodes_inj octs_inj ints_inj nil_nodes nil_octs nil_ints canon_nilL decide_eq_decide two_ne four_ne lendA_fn lendA_own lendA_none llendA_fn llendA_none false_and and_false Q_nil Q_l Q_g Q_h Q_grd qgrdW_b qgrdW_tup lightD_some heavyD_some readD_some fnD_some fnD_own fnD_none callL_f ownH_some litD_some litE_some Q_call Q_bslice H_call pendOk_nil pendOk_cons pastOk_nil pastOk_cons Q_mv Q_pick Q_bin Q_un Q_convI Q_mkfunc Q_extract Q_min Q_max Q_lenS Q_lenA Q_field Q_idxA Q_mkiface Q_tassert Q_alloc Q_box Q_store Q_mkslice Q_append Q_appendZ Q_copy Q_clear Q_build Q_load Q_nilck Q_isnil Q_convS Q_slice Q_faddr Q_iaddr Q_iaddrA Q_len H_alloc H_box H_bslice H_store H_mkslice H_append H_appendZ H_copy H_clear free_mv free_pick free_bin free_un free_convI free_mkfunc free_extract free_min free_max free_lenS free_lenA free_field free_idxA free_mkiface free_tassert free_build free_load free_nilck free_isnil free_convS free_slice free_faddr free_iaddr free_iaddrA free_len callW_y List.length_map List.length_set leaves_r evR_some evRess1 evRess2 evRess3 evRes_t evRes_c nz_kind nz_enc nz_cred nz_source nz_parent nz_ienc nz_hash nz_un true_or or_true bsl_node appI appO ixo_nodes canon_rowI canon_rowO not_false_eq_true not_true_eq_false ldE_a ldE_c adE_b stE_b onE_a onP_b bsl_zero
attribute [local go_sem low] condW_b grdW_b lgrdW_b ldP adP stP onO onPt
attribute [local simp] envL_cons envL_nil idb_int idb_bool idb_ints idb_nil idb_own idb_ptr idb_octs idb_nodes idb_leafA idb_innerA idb_nodeA idb_agg idb_tup idb_iptr idb_fn entB_dead entB_box
theorem fits_spec (x k : Int) : Fun seat 123 [.int .i64 x, .int .i64 k] (.bool (decide (Stands x k))) := by
  refine Fun.of0R [] told123 (by simp [il123]) (by simp [idb_patchA]) (by simp [idb_patchA]) 4 ?_
  simp only [il123, List.zipIdx_cons, List.zipIdx_nil, leafA, innerA, nodeA, patchA, Leaf.cells, Inner.cells, Node.cells, go_sem, Nat.reduceEqDiff, reduceIte, Nat.reduceAdd, Nat.reduceLeDiff, Nat.reduceLT, Nat.reduceSub]
  iterate 12 ((all_goals intros); (all_goals try refine And.intro ?_ ?_))
  all_goals first | (show WP _ _ _ _ _ _ _) | grind [Stands]
noncomputable def r123 : Reg seat := .of told123 (ask2 (fun a0' a1' => isI a0' ∧ isI a1') fun a0' a1' => .fn (.bool (decide (Stands (dI a0') (dI a1'))))) (ask2_ok fun a0' a1' h => SaidOk.fn (Fun.weak (.cons (isI.weak h.1) (.cons (isI.weak h.2) .nil)) (fits_spec _ _)))
theorem r123_c : r123.c = 123 := rfl
open Classical in
theorem r123_ask (a0' a1' : AV) : r123.ask [a0', a1'] = if isI a0' ∧ isI a1' then some (Said.fn (.bool (decide (Stands (dI a0') (dI a1'))))) else none := by unfold r123 Reg.of ask2; exact ite_cl
theorem blank_spec (n : Node) : Fun seat 127 [nodeA n] (.bool (decide (n.kind = 0))) := by
  refine Fun.of0R [] told127 (by simp [il127]) (by simp [idb_patchA]) (by simp [idb_patchA]) 4 ?_
  simp only [il127, List.zipIdx_cons, List.zipIdx_nil, leafA, innerA, nodeA, patchA, Leaf.cells, Inner.cells, Node.cells, go_sem, Nat.reduceEqDiff, reduceIte, Nat.reduceAdd, Nat.reduceLeDiff, Nat.reduceLT, Nat.reduceSub]
noncomputable def r127 : Reg seat := .of told127 (ask1 (fun a0' => isN a0') fun a0' => .fn (.bool (decide ((dN a0').kind = 0)))) (ask1_ok fun a0' h => SaidOk.fn (Fun.weak (.cons (isN.weak h) .nil) (blank_spec _)))
theorem r127_c : r127.c = 127 := rfl
open Classical in
theorem r127_ask (a0' : AV) : r127.ask [a0'] = if isN a0' then some (Said.fn (.bool (decide ((dN a0').kind = 0)))) else none := by unfold r127 Reg.of ask1; exact ite_cl
theorem whole_spec (w : Int) : Fun seat 125 [.int .i64 w] (.bool (decide (Whole w))) := by
  by_cases h : 0 < w ∧ w ≤ 127
  · refine Fun.of0R [] told125 (by simp [il125]) (by simp [idb_patchA]) (by simp [idb_patchA]) 4 ?_
    simp only [il125, List.zipIdx_cons, List.zipIdx_nil, leafA, innerA, nodeA, patchA, Leaf.cells, Inner.cells, Node.cells, h, wrap64s (w + 1) (by omega), whole_bits w h.1 h.2, go_sem, Nat.reduceEqDiff, reduceIte, Nat.reduceAdd, Nat.reduceLeDiff, Nat.reduceLT, Nat.reduceSub]
    iterate 12 ((all_goals intros); (all_goals try refine And.intro ?_ ?_))
    all_goals first | (show WP _ _ _ _ _ _ _) | grind
  · have h' : ¬ Whole w := fun hw => h hw.le
    refine Fun.of0R [] told125 (by simp [il125]) (by simp [idb_patchA]) (by simp [idb_patchA]) 4 ?_
    simp only [il125, List.zipIdx_cons, List.zipIdx_nil, leafA, innerA, nodeA, patchA, Leaf.cells, Inner.cells, Node.cells, h', go_sem, Nat.reduceEqDiff, reduceIte, Nat.reduceAdd, Nat.reduceLeDiff, Nat.reduceLT, Nat.reduceSub]
    iterate 12 ((all_goals intros); (all_goals try refine And.intro ?_ ?_))
    all_goals first | (show WP _ _ _ _ _ _ _) | grind
noncomputable def r125 : Reg seat := .of told125 (ask1 (fun a0' => isI a0') fun a0' => .fn (.bool (decide (Whole (dI a0'))))) (ask1_ok fun a0' h => SaidOk.fn (Fun.weak (.cons (isI.weak h) .nil) (whole_spec _)))
theorem r125_c : r125.c = 125 := rfl
open Classical in
theorem r125_ask (a0' : AV) : r125.ask [a0'] = if isI a0' then some (Said.fn (.bool (decide (Whole (dI a0'))))) else none := by unfold r125 Reg.of ask1; exact ite_cl
theorem root_spec (w : Int) : Fun seat 109 [.int .i64 w] (.int .i64 (if Whole w then w / 2 else -1)) := by
  by_cases h : Whole w
  · have := h.le
    refine Fun.of0R [r125] told109 (by simp [il109]) (by simp [idb_patchA]) (by simp [idb_patchA]) 4 ?_
    simp only [il109, List.zipIdx_cons, List.zipIdx_nil, leafA, innerA, nodeA, patchA, Leaf.cells, Inner.cells, Node.cells, r125_c, r125_ask, h, quo2 w (by omega), go_sem, Nat.reduceEqDiff, reduceIte, Nat.reduceAdd, Nat.reduceLeDiff, Nat.reduceLT, Nat.reduceSub]
  · refine Fun.of0R [r125] told109 (by simp [il109]) (by simp [idb_patchA]) (by simp [idb_patchA]) 4 ?_
    simp only [il109, List.zipIdx_cons, List.zipIdx_nil, leafA, innerA, nodeA, patchA, Leaf.cells, Inner.cells, Node.cells, r125_c, r125_ask, h, go_sem, Nat.reduceEqDiff, reduceIte, Nat.reduceAdd, Nat.reduceLeDiff, Nat.reduceLT, Nat.reduceSub]
noncomputable def r109 : Reg seat := .of told109 (ask1 (fun a0' => isI a0') fun a0' => .fn (.int .i64 (if Whole (dI a0') then (dI a0') / 2 else -1))) (ask1_ok fun a0' h => SaidOk.fn (Fun.weak (.cons (isI.weak h) .nil) (root_spec _)))
theorem r109_c : r109.c = 109 := rfl
open Classical in
theorem r109_ask (a0' : AV) : r109.ask [a0'] = if isI a0' then some (Said.fn (.int .i64 (if Whole (dI a0') then (dI a0') / 2 else -1))) else none := by unfold r109 Reg.of ask1; exact ite_cl
end Go.Proofs.YtihhinbjhiankaaGreatDoor.Al

set_option linter.unusedSimpArgs false
set_option linter.unusedVariables false
namespace Go.Proofs.YtihhinbjhiankaaGreatDoor.Al
open Go
attribute [local go_sem] W_mv W_pick W_alloc W_box W_build W_bslice W_load W_store W_bin W_isnil W_un W_convI W_convS W_mkiface W_mkfunc W_slice W_faddr W_iaddr W_idxA W_extract W_len W_min W_max W_append W_appendZ W_clear W_invoke thenQ_normal thenQ_exit thenQ_goto thenQ_ret blockQ_normal blockQ_ret blockQ_goto blockQ_exit wpc_skip wpc_region wpc_draw wpc_seq wpc_cond wpc_block wpc_exit wpc_goto wpc_label wpc_ret wpc_loop wpc_range wpc_scope condW_true condW_false condW_dec condW_any W_nil W_call resW_some evalOp Opd.ev updo_envL updo_none setL_cons setL_nil envL_cons Option.map_some Option.bind_some evBin evInt List.map_cons List.map_nil Option.pure_def Option.bind_eq_bind W_grd' grdW_tt grdW_ff grdW_tf grdW_ft grdW_tup grdW_dt grdW_df lgrdW_tup L_mv L_load L_bin L_un L_faddr L_iaddr L_nil L_call lresW_some upd_envL evUn beq_dec bne_dec leaves_ret1 leaves_ret0 leaves_end0 rowLen_ints load_iptr0 not_dec heap_get0 heap_get1 heap_set0 heap_set1 heap_len1 heap_app bslice1_int seen_ints seen_one0 bslice0_int Nat.sub_zero Bool.not_true Bool.not_false List.length_nil List.length_cons List.nil_append List.cons_append Nat.zero_add load_iptrA canon_ptrI canon_bool canon_tup canon_agg canon_ints' canon_ints0 rowLen_ints1 rowLen_octs seen_octs canon_octs' seen_intss seen_octss rowLen_nodes seen_nodes canon_nodes' rowLen_nodes3 seen_list cells_int oneIn_int cells_bool oneIn_bool cells_str oneIn_str cells_list oneIn_list cells_func oneIn_func cells_nilfunc oneIn_nilfunc cells_iptr oneIn_iptr cells_iface oneIn_iface cells_nilIface oneIn_nilIface cells_own cells_ptr cells_anybool oneIn_anybool cells_agg oneIn_own0 oneIn_own1 seenL1 seenM1 oneIn_ptr2 seenL2 oneIn_own3 seenL3 cells_ints oneIn_ints cells_octs oneIn_octs cells_intss oneIn_intss cells_octss oneIn_octss cells_nodes oneIn_nodes ldB0 ldA0 adB0 stB0 ldB1 ldA1 adB1 stB1 ldB2 ldA2 adB2 stB2 ldB3 ldA3 adB3 stB3 ldB4 ldA4 adB4 stB4 ldB5 ldA5 adB5 stB5 List.getElem?_cons_zero List.getElem?_cons_succ beq_self_eq_true splice List.take_zero List.take_succ_cons List.drop_zero List.drop_succ_cons List.append_nil List.set_cons_zero List.set_cons_succ List.all_cons List.all_nil Bool.and_self and_self and_true true_and Nat.lt_irrefl Nat.zero_lt_one Nat.le_refl fillA evNil notA Bool.false_eq_true evMin_int evMax_int Option.map_none freezeP_all_nil freezeP_all_cons frzE_box frzE_arr frzE_dead foldA List.foldlM_cons List.foldlM_nil callW_f lcallW_f ansW_fn ansW_own lansW_fn lansW_own ansW_none lansW_none tab_cons tab_nil dI_int dB_bool dO_octs dO_ints dO_list dO_nil dOs_nil dN_nodeA dLf_agg dIn_agg dN_agg dNs_nodes dNs_nil isI_int isB_bool isO_octs isO_nil isO_list isS_ints isS_nil isNs_nodes isNs_nil isN_nodeA isLf_agg isIn_agg isN_agg leaf_eta inner_eta node_eta leaf_zero inner_zero node_zero dP_agg isP_agg patch_eta decide_eq_true_eq decide_eq_false_iff_not eq_self forall_const true_implies false_implies Bool.not_eq_true' Bool.not_eq_false' Bool.true_eq_false implies_true ne_eq ldI ldIA adI AV.tup.injEq AV.agg.injEq List.cons.injEq AV.int.injEq AV.bool.injEq nodes_inj octs_inj ints_inj nil_nodes nil_octs nil_ints canon_nilL decide_eq_decide two_ne four_ne lendA_fn lendA_own lendA_none llendA_fn llendA_none false_and and_false Q_nil Q_l Q_g Q_h Q_grd qgrdW_b qgrdW_tup lightD_some heavyD_some readD_some fnD_some fnD_own fnD_none callL_f ownH_some litD_some litE_some Q_call Q_bslice H_call pendOk_nil pendOk_cons pastOk_nil pastOk_cons Q_mv Q_pick Q_bin Q_un Q_convI Q_mkfunc Q_extract Q_min Q_max Q_lenS Q_lenA Q_field Q_idxA Q_mkiface Q_tassert Q_alloc Q_box Q_store Q_mkslice Q_append Q_appendZ Q_copy Q_clear Q_build Q_load Q_nilck Q_isnil Q_convS Q_slice Q_faddr Q_iaddr Q_iaddrA Q_len H_alloc H_box H_bslice H_store H_mkslice H_append H_appendZ H_copy H_clear free_mv free_pick free_bin free_un free_convI free_mkfunc free_extract free_min free_max free_lenS free_lenA free_field free_idxA free_mkiface free_tassert free_build free_load free_nilck free_isnil free_convS free_slice free_faddr free_iaddr free_iaddrA free_len callW_y List.length_map List.length_set leaves_r evR_some evRess1 evRess2 evRess3 evRes_t evRes_c nz_kind nz_enc nz_cred nz_source nz_parent nz_ienc nz_hash nz_un true_or or_true bsl_node appI appO ixo_nodes canon_rowI canon_rowO not_false_eq_true not_true_eq_false ldE_a ldE_c adE_b stE_b onE_a onP_b bsl_zero
attribute [local go_sem low] condW_b grdW_b lgrdW_b ldP adP stP onO onPt
attribute [local simp] envL_cons envL_nil idb_int idb_bool idb_ints idb_nil idb_own idb_ptr idb_octs idb_nodes idb_leafA idb_innerA idb_nodeA idb_agg idb_tup idb_iptr idb_fn entB_dead entB_box
theorem tz_spec (x : Nat) (hx : x < 18446744073709551616) : Fun seat 281 [.int .u64 x] (.int .i64 (Lib.ctz 64 x)) := by
  intro H m I X w vs hs hv
  obtain ⟨v, rfl, hw⟩ := args1 hv
  cases hw
  have ef : seat.fn 281 = lays727Ren.f 27 := rfl
  rw [ef]
  refine (Any7.bits_TrailingZeros lays727At x hx w (fun _ => ?_)).mono ?_
  · exact (hs.gl (lays727Ren.g 1, Lib.deBruijn64tab) (by simp [seat]; rfl)).2
  · rintro e' w' ⟨rfl, rfl⟩
    exact ⟨_, H, _, m, I, rfl, ⟨rfl, rfl⟩, .int _ _, hs, .refl m, fun _ hb => hb, .refl I X _⟩
theorem lev_ctz : ∀ n, n < 127 → Lib.ctz 64 (18446744073709551615 - n) = lev n := by decide +kernel
theorem isN_spec (x w : Int) : Fun seat 257 [.int .i64 x, .int .i64 w] (.bool (decide (IsN x w))) := by
  by_cases h : Whole w
  · by_cases h0 : x ≥ 0
    · have e : IsN x w ↔ x < w := ⟨fun k => k.2.2, fun k => ⟨h, h0, k⟩⟩
      refine Fun.of0R [r125] told257 (by simp [il257]) (by simp [idb_patchA]) (by simp [idb_patchA]) 4 ?_
      simp -implicitDefEqProofs only [il257, List.zipIdx_cons, List.zipIdx_nil, leafA, innerA, nodeA, patchA, Leaf.cells, Inner.cells, Node.cells, r125_c, r125_ask, decide_true, decide_false, h, h0, e, go_sem, Nat.reduceEqDiff, reduceIte, Nat.reduceAdd, Nat.reduceLeDiff, Nat.reduceLT, Nat.reduceSub]
    · have e : ¬ IsN x w := fun k => h0 k.2.1
      refine Fun.of0R [r125] told257 (by simp [il257]) (by simp [idb_patchA]) (by simp [idb_patchA]) 4 ?_
      simp -implicitDefEqProofs only [il257, List.zipIdx_cons, List.zipIdx_nil, leafA, innerA, nodeA, patchA, Leaf.cells, Inner.cells, Node.cells, r125_c, r125_ask, decide_true, decide_false, h, h0, e, go_sem, Nat.reduceEqDiff, reduceIte, Nat.reduceAdd, Nat.reduceLeDiff, Nat.reduceLT, Nat.reduceSub]
  · have e : ¬ IsN x w := fun k => h k.1
    refine Fun.of0R [r125] told257 (by simp [il257]) (by simp [idb_patchA]) (by simp [idb_patchA]) 4 ?_
    simp -implicitDefEqProofs only [il257, List.zipIdx_cons, List.zipIdx_nil, leafA, innerA, nodeA, patchA, Leaf.cells, Inner.cells, Node.cells, r125_c, r125_ask, decide_true, decide_false, h, e, go_sem, Nat.reduceEqDiff, reduceIte, Nat.reduceAdd, Nat.reduceLeDiff, Nat.reduceLT, Nat.reduceSub]
noncomputable def r257 : Reg seat := .of told257 (ask2 (fun a0' a1' => isI a0' ∧ isI a1') fun a0' a1' => .fn (.bool (decide (IsN (dI a0') (dI a1'))))) (ask2_ok fun a0' a1' h => SaidOk.fn (Fun.weak (.cons (isI.weak h.1) (.cons (isI.weak h.2) .nil)) (isN_spec _ _)))
theorem r257_c : r257.c = 257 := rfl
open Classical in
theorem r257_ask (a0' a1' : AV) : r257.ask [a0', a1'] = if isI a0' ∧ isI a1' then some (Said.fn (.bool (decide (IsN (dI a0') (dI a1'))))) else none := by unfold r257 Reg.of ask2; exact ite_cl
theorem level_spec (x : Int) : Fun seat 279 [.int .i64 x] (.int .i64 (level x)) := by
  by_cases h0 : x < 0
  · have e : level x = -1 := if_neg (by omega)
    rw [e]
    refine Fun.of0R [] told279 (by simp [il279]) (by simp [idb_patchA]) (by simp [idb_patchA]) 4 ?_
    simp -implicitDefEqProofs only [il279, List.zipIdx_cons, List.zipIdx_nil, leafA, innerA, nodeA, patchA, Leaf.cells, Inner.cells, Node.cells, decide_true, decide_false, h0, go_sem, Nat.reduceEqDiff, reduceIte, Nat.reduceAdd, Nat.reduceLeDiff, Nat.reduceLT, Nat.reduceSub]
  by_cases h1 : x ≥ 127
  · have e : level x = -1 := if_neg (by omega)
    rw [e]
    refine Fun.of0R [] told279 (by simp [il279]) (by simp [idb_patchA]) (by simp [idb_patchA]) 4 ?_
    simp -implicitDefEqProofs only [il279, List.zipIdx_cons, List.zipIdx_nil, leafA, innerA, nodeA, patchA, Leaf.cells, Inner.cells, Node.cells, decide_true, decide_false, h0, h1, go_sem, Nat.reduceEqDiff, reduceIte, Nat.reduceAdd, Nat.reduceLeDiff, Nat.reduceLT, Nat.reduceSub]
  have e : level x = lev x.toNat := if_pos (by omega)
  rw [e]
  have hn : x.toNat < 127 := by omega
  have lc := lev_ctz _ hn
  have sg : (IntKind.u64.signed = true) = False := by simp [IntKind.signed]
  have bx : bits BinOp.xor IntKind.u64 IntKind.u64.max (IntKind.u64.wrap x) = ((18446744073709551615 - x.toNat : Nat) : Int) := by
    have key : ∀ n : Nat, n < 127 → bits BinOp.xor IntKind.u64 IntKind.u64.max (IntKind.u64.wrap (n : Int)) = ((18446744073709551615 - n : Nat) : Int) := by decide +kernel
    have := key _ hn
    rwa [show ((x.toNat : Nat) : Int) = x by omega] at this
  refine Fun.of0R [] told279 (by simp [il279]) (by simp [idb_patchA]) (by simp [idb_patchA]) 4 ?_
  simp -implicitDefEqProofs only [il279, List.zipIdx_cons, List.zipIdx_nil, leafA, innerA, nodeA, patchA, Leaf.cells, Inner.cells, Node.cells, decide_true, decide_false, h0, h1, sg, bx, go_sem, Nat.reduceEqDiff, reduceIte, Nat.reduceAdd, Nat.reduceLeDiff, Nat.reduceLT, Nat.reduceSub]
  refine Callee.f told281 (tz_spec _ (by omega)) ?_
  simp -implicitDefEqProofs only [leafA, innerA, nodeA, patchA, Leaf.cells, Inner.cells, Node.cells, decide_true, decide_false, lc, go_sem, Nat.reduceEqDiff, reduceIte, Nat.reduceAdd, Nat.reduceLeDiff, Nat.reduceLT, Nat.reduceSub]
noncomputable def r279 : Reg seat := .of told279 (ask1 (fun a0' => isI a0') fun a0' => .fn (.int .i64 (level (dI a0')))) (ask1_ok fun a0' h => SaidOk.fn (Fun.weak (.cons (isI.weak h) .nil) (level_spec _)))
theorem r279_c : r279.c = 279 := rfl
open Classical in
theorem r279_ask (a0' : AV) : r279.ask [a0'] = if isI a0' then some (Said.fn (.int .i64 (level (dI a0')))) else none := by unfold r279 Reg.of ask1; exact ite_cl
/-- Two to the power of k. -/
theorem shl1 (k : Int) (h : 0 ≤ k ∧ k ≤ 7) : evShift .shl .i64 1 k = some (.int .i64 (2 ^ k.toNat)) := by
  rcases (by omega : k = 0 ∨ k = 1 ∨ k = 2 ∨ k = 3 ∨ k = 4 ∨ k = 5 ∨ k = 6 ∨ k = 7) with rfl | rfl | rfl | rfl | rfl | rfl | rfl | rfl <;> rfl
theorem level_in {x w : Int} (h : IsN x w) : level x = lev x.toNat := if_pos h.lt
theorem par_bits {x w : Int} (h : IsN x w) : bits .andNot .i64 (bits .or .i64 x (2 ^ lev x.toNat)) (2 ^ (lev x.toNat + 1)) = (parN x.toNat : Int) := by
  have := IsN.all (p := fun y _ => bits .andNot .i64 (bits .or .i64 (y : Int) (2 ^ lev y)) (2 ^ (lev y + 1)) = (parN y : Int)) (by decide +kernel) h
  rwa [h.cast.1] at this
theorem par_spec' (x w : Int) (h : IsN x w) : Fun seat 280 [.int .i64 w, .int .i64 x] (.int .i64 (parI x w)) := by
  have hl := lev_le h
  have e := level_in h
  have hw := h.1
  unfold parI
  rw [if_pos h]
  by_cases hr : x = w / 2
  · rw [if_pos hr]
    refine Fun.of0R [r109] told280 (by simp [il280]) (by simp [idb_patchA]) (by simp [idb_patchA]) 4 ?_
    simp -implicitDefEqProofs only [il280, List.zipIdx_cons, List.zipIdx_nil, leafA, innerA, nodeA, patchA, Leaf.cells, Inner.cells, Node.cells, r109_c, r109_ask, decide_true, decide_false, hw, eq_true hr, go_sem, Nat.reduceEqDiff, reduceIte, Nat.reduceAdd, Nat.reduceLeDiff, Nat.reduceLT, Nat.reduceSub]
  · rw [if_neg hr]
    have w1 : IntKind.i64.wrap (((lev x.toNat : Nat) : Int) + 1) = ((lev x.toNat : Nat) : Int) + 1 := wrap64 _ (by omega) (by omega)
    have s1 := shl1 ((lev x.toNat : Nat) : Int) (by omega)
    have s2 := shl1 (((lev x.toNat : Nat) : Int) + 1) (by omega)
    rw [Int.toNat_natCast] at s1
    rw [show (((lev x.toNat : Nat) : Int) + 1).toNat = lev x.toNat + 1 by omega] at s2
    have pb := par_bits h
    refine Fun.of0R [r109, r279] told280 (by simp [il280]) (by simp [idb_patchA]) (by simp [idb_patchA]) 4 ?_
    simp -implicitDefEqProofs only [il280, List.zipIdx_cons, List.zipIdx_nil, leafA, innerA, nodeA, patchA, Leaf.cells, Inner.cells, Node.cells, r109_c, r109_ask, r279_c, r279_ask, decide_true, decide_false, hw, hr, e, go_sem, Nat.reduceEqDiff, reduceIte, Nat.reduceAdd, Nat.reduceLeDiff, Nat.reduceLT, Nat.reduceSub]
    refine WP.drawQ [] [.l, .l, .l, .l, .l, .l, .l, .l, .l] mixed (by decide) ?_
    simp -implicitDefEqProofs only [leafA, innerA, nodeA, patchA, Leaf.cells, Inner.cells, Node.cells, decide_true, decide_false, w1, s1, s2, pb, go_sem, Nat.reduceEqDiff, reduceIte, Nat.reduceAdd, Nat.reduceLeDiff, Nat.reduceLT, Nat.reduceSub]
noncomputable def r280 : Reg seat := .of told280 (ask2 (fun a0' a1' => isI a0' ∧ isI a1' ∧ IsN (dI a1') (dI a0')) fun a0' a1' => .fn (.int .i64 (parI (dI a1') (dI a0')))) (ask2_ok fun a0' a1' h => SaidOk.fn (Fun.weak (.cons (isI.weak h.1) (.cons (isI.weak h.2.1) .nil)) (par_spec' _ _ h.2.2)))
theorem r280_c : r280.c = 280 := rfl
open Classical in
theorem r280_ask (a0' a1' : AV) : r280.ask [a0', a1'] = if isI a0' ∧ isI a1' ∧ IsN (dI a1') (dI a0') then some (Said.fn (.int .i64 (parI (dI a1') (dI a0')))) else none := by unfold r280 Reg.of ask2; exact ite_cl
theorem parI_not {x w : Int} (h : ¬ IsN x w) : parI x w = -1 := if_neg h
theorem ofP_spec (x w : Int) : Fun seat 270 [.func (.f 280) [] [], .int .i64 x, .int .i64 w] (.int .i64 (parI x w)) := by
  by_cases h : IsN x w
  · refine Fun.of0R [r257, r280] told270 (by simp [il270]) (by simp [idb_patchA]) (by simp [idb_patchA]) 4 ?_
    simp -implicitDefEqProofs only [il270, List.zipIdx_cons, List.zipIdx_nil, leafA, innerA, nodeA, patchA, Leaf.cells, Inner.cells, Node.cells, r257_c, r257_ask, r280_c, r280_ask, decide_true, decide_false, h, go_sem, Nat.reduceEqDiff, reduceIte, Nat.reduceAdd, Nat.reduceLeDiff, Nat.reduceLT, Nat.reduceSub]
  · rw [parI_not h]
    refine Fun.of0R [r257] told270 (by simp [il270]) (by simp [idb_patchA]) (by simp [idb_patchA]) 4 ?_
    simp -implicitDefEqProofs only [il270, List.zipIdx_cons, List.zipIdx_nil, leafA, innerA, nodeA, patchA, Leaf.cells, Inner.cells, Node.cells, r257_c, r257_ask, decide_true, decide_false, h, go_sem, Nat.reduceEqDiff, reduceIte, Nat.reduceAdd, Nat.reduceLeDiff, Nat.reduceLT, Nat.reduceSub]
noncomputable def r270p : Reg seat := .of told270 (ask3 (fun a0' a1' a2' => a0' = .func (.f 280) [] [] ∧ isI a1' ∧ isI a2') fun a0' a1' a2' => .fn (.int .i64 (parI (dI a1') (dI a2')))) (ask3_ok fun a0' a1' a2' h => SaidOk.fn (Fun.weak (.cons (Weak.of_eq h.1) (.cons (isI.weak h.2.1) (.cons (isI.weak h.2.2) .nil))) (ofP_spec _ _)))
theorem r270p_c : r270p.c = 270 := rfl
open Classical in
theorem r270p_ask (a0' a1' a2' : AV) : r270p.ask [a0', a1', a2'] = if a0' = .func (.f 280) [] [] ∧ isI a1' ∧ isI a2' then some (Said.fn (.int .i64 (parI (dI a1') (dI a2')))) else none := by unfold r270p Reg.of ask3; exact ite_cl
theorem ixParent_spec (x w : Int) : Fun seat 273 [.int .i64 x, .int .i64 w] (.int .i64 (parI x w)) := by
  refine Fun.of0R [r270p] told273 (by simp [il273]) (by simp [idb_patchA]) (by simp [idb_patchA]) 4 ?_
  simp -implicitDefEqProofs only [il273, List.zipIdx_cons, List.zipIdx_nil, leafA, innerA, nodeA, patchA, Leaf.cells, Inner.cells, Node.cells, r270p_c, r270p_ask, decide_true, decide_false, go_sem, Nat.reduceEqDiff, reduceIte, Nat.reduceAdd, Nat.reduceLeDiff, Nat.reduceLT, Nat.reduceSub]
noncomputable def r273 : Reg seat := .of told273 (ask2 (fun a0' a1' => isI a0' ∧ isI a1') fun a0' a1' => .fn (.int .i64 (parI (dI a0') (dI a1')))) (ask2_ok fun a0' a1' h => SaidOk.fn (Fun.weak (.cons (isI.weak h.1) (.cons (isI.weak h.2) .nil)) (ixParent_spec _ _)))
theorem r273_c : r273.c = 273 := rfl
open Classical in
theorem r273_ask (a0' a1' : AV) : r273.ask [a0', a1'] = if isI a0' ∧ isI a1' then some (Said.fn (.int .i64 (parI (dI a0') (dI a1')))) else none := by unfold r273 Reg.of ask2; exact ite_cl
end Go.Proofs.YtihhinbjhiankaaGreatDoor.Al
