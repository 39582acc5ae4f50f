/-
  PLAIN LAWS: where nodes stand in a row: levels, children, parents, ways up.
-/
import Derived.Test.YtihhinbjhiankaaGreatDoorAlP7
set_option linter.unusedSimpArgs false
set_option linter.unusedVariables false
namespace Go.Proofs.YtihhinbjhiankaaGreatDoor.Al
open Go

/-- How far up a node stands. -/
def levF : Nat → Nat → Nat
  | 0, _ => 0
  | f + 1, x => if x % 2 = 1 then levF f (x / 2) + 1 else 0
def lev (x : Nat) : Nat := levF 7 x
def level (x : Int) : Int := if 0 ≤ x ∧ x < 127 then lev x.toNat else -1
def parN (x : Nat) : Nat := if x / 2 ^ (lev x + 1) % 2 = 0 then x + 2 ^ lev x else x - 2 ^ lev x
def IsN (x w : Int) : Prop := Whole w ∧ 0 ≤ x ∧ x < w
instance (x w : Int) : Decidable (IsN x w) := inferInstanceAs (Decidable (_ ∧ _))
def rootI (w : Int) : Int := if Whole w then w / 2 else -1
def leftI (x w : Int) : Int := if IsN x w then (if lev x.toNat = 0 then -1 else x - 2 ^ (lev x.toNat - 1)) else -1
def rightI (x w : Int) : Int := if IsN x w then (if lev x.toNat = 0 then -1 else x + 2 ^ (lev x.toNat - 1)) else -1
def parI (x w : Int) : Int := if IsN x w then (if x = w / 2 then -1 else parN x.toNat) else -1
def sibI (x w : Int) : Int := if parI x w < 0 then -1 else 2 * parI x w - x
def upsF : Nat → Int → Int → List Int
  | 0, _, _ => []
  | f + 1, x, w => if IsN x w then x :: upsF f (parI x w) w else []
/-- The way up, the node itself first. -/
def ups (x w : Int) : List Int := upsF 7 x w
def directI (x w : Int) : List Int := (ups x w).tail
def coI (x w : Int) : List Int := ((ups x w).map fun y => sibI y w).filter fun s => decide (0 ≤ s)

theorem whole_mem {w : Int} (h : Whole w) : ∃ n ∈ [1, 3, 7, 15, 31, 63, 127], w = ((n : Nat) : Int) := by
  rcases h with h | h | h | h | h | h | h
  · exact ⟨1, by simp, h⟩
  · exact ⟨3, by simp, h⟩
  · exact ⟨7, by simp, h⟩
  · exact ⟨15, by simp, h⟩
  · exact ⟨31, by simp, h⟩
  · exact ⟨63, by simp, h⟩
  · exact ⟨127, by simp, h⟩
/-- What holds at each place of each width, checked one by one. -/
theorem IsN.all {p : Nat → Nat → Prop} (hp : ∀ n ∈ [1, 3, 7, 15, 31, 63, 127], ∀ y, y < n → p y n) {x w : Int} (h : IsN x w) : p x.toNat w.toNat := by
  obtain ⟨n, hn, rfl⟩ := whole_mem h.1
  have h2 := h.2.2
  have h1 := h.2.1
  exact hp _ hn _ (by omega)
theorem IsN.cast {x w : Int} (h : IsN x w) : ((x.toNat : Nat) : Int) = x ∧ ((w.toNat : Nat) : Int) = w := by
  have := h.2
  constructor <;> omega
theorem IsN.lt {x w : Int} (h : IsN x w) : 0 ≤ x ∧ x < 127 := by
  have := h.1.le
  have := h.2
  omega
set_option maxRecDepth 100000 in
theorem ups_step {x w : Int} (h : IsN x w) : ups x w = x :: ups (parI x w) w := by
  have := IsN.all (p := fun y n => ups (y : Int) (n : Int) = (y : Int) :: ups (parI (y : Int) (n : Int)) (n : Int)) (by decide +kernel) h
  rwa [h.cast.1, h.cast.2] at this
theorem ups_not {x w : Int} (h : ¬ IsN x w) : ups x w = [] := by unfold ups upsF; rw [if_neg h]
theorem parI_neg {x w : Int} (h : ¬ IsN (parI x w) w) : parI x w < 0 := by
  by_cases hx : IsN x w
  · have := IsN.all (p := fun y n => ¬ IsN (parI (y : Int) (n : Int)) (n : Int) → parI (y : Int) (n : Int) < 0) (by decide +kernel) hx
    rw [hx.cast.1, hx.cast.2] at this
    exact this h
  · unfold parI; rw [if_neg hx]; omega
theorem parI_is {x w : Int} (h : 0 ≤ parI x w) : IsN (parI x w) w := by
  by_cases hp : IsN (parI x w) w
  · exact hp
  · have := parI_neg hp; omega
theorem direct_eq (x w : Int) : directI x w = ups (parI x w) w := by
  unfold directI
  by_cases h : IsN x w
  · rw [ups_step h]; rfl
  · have e : parI x w = -1 := by unfold parI; rw [if_neg h]
    rw [ups_not h, e, ups_not (fun h => by have := h.2.1; omega)]; rfl
theorem upsF_is : ∀ (f : Nat) (x w : Int), ∀ y ∈ upsF f x w, IsN y w
  | 0, _, _, y, h => by cases h
  | f + 1, x, w, y, h => by
    unfold upsF at h
    split at h
    · rename_i hx
      rcases List.mem_cons.1 h with rfl | h
      · exact hx
      · exact upsF_is f _ w y h
    · cases h
theorem ups_is {x w y : Int} (h : y ∈ ups x w) : IsN y w := upsF_is _ _ _ _ h
theorem upsF_len : ∀ (f : Nat) (x w : Int), (upsF f x w).length ≤ f
  | 0, _, _ => Nat.le_refl _
  | f + 1, x, w => by
    unfold upsF
    split
    · have := upsF_len f (parI x w) w; simp only [List.length_cons]; omega
    · simp
theorem ups_len (x w : Int) : (ups x w).length ≤ 7 := upsF_len _ _ _
theorem lev_le {x w : Int} (h : IsN x w) : lev x.toNat ≤ 6 := IsN.all (p := fun y _ => lev y ≤ 6) (by decide +kernel) h

/-- Nodes are made blank, one behind the other. -/
def zeroAt (t : List Node) (l : List Int) : List Node := l.foldl (fun t p => t.set p.toNat .zero) t
theorem zeroAt_len (t : List Node) (l : List Int) : (zeroAt t l).length = t.length := by
  unfold zeroAt
  induction l generalizing t with
  | nil => rfl
  | cons p l ih => rw [List.foldl_cons, ih]; simp
theorem zeroAt_get (l : List Int) : ∀ (t : List Node) (x : Nat) (_ : x < t.length), (∀ p ∈ l, 0 ≤ p) → nodeAt (zeroAt t l) x = if (x : Int) ∈ l then .zero else nodeAt t x := by
  induction l with
  | nil => intro t x hx _; simp [zeroAt]
  | cons p l ih =>
    intro t x hx hp
    have hp0 := hp p (by simp)
    have := ih (t.set p.toNat .zero) x (by simpa using hx) (fun q hq => hp q (by simp [hq]))
    have e : zeroAt t (p :: l) = zeroAt (t.set p.toNat .zero) l := rfl
    rw [e, this]
    by_cases hl : (x : Int) ∈ l
    · simp [hl]
    · by_cases hxp : (x : Int) = p
      · subst hxp
        simp [hl, nodeAt, hx]
      · have : ¬ p.toNat = x := by omega
        simp [hl, hxp, nodeAt, List.getElem?_set_ne this]
def clearT (t : List Node) (i : Int) : List Node × Int := if i < 0 ∨ i ≥ leaves_ t then ([], 3) else (zeroAt (known t) (directI (2 * i) (known t).length ++ [2 * i]), 0)
end Go.Proofs.YtihhinbjhiankaaGreatDoor.Al
