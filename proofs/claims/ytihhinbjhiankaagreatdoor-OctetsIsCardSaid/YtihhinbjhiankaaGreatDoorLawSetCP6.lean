/-
  JOINED: P6, P7, P9, P10, P13, P14, P20, P22, P23, M1A, M8J, M8, S2B, S2, I1, D10, I2, I3, I4, S3, S4, N5, S5, IlsL, O1, P16
-/
import Derived.Test.YtihhinbjhiankaaGreatDoorLawSetCP3
import Derived.Test.YtihhinbjhiankaaGreatDoorLawSetCP4
import Derived.Test.YtihhinbjhiankaaGreatDoorLawSetCP5
import Derived.Shelf.Spec.TrailingZeros
import Derived.Test.YtihhinbjhiankaaGreatDoorLawSetCP2
set_option linter.unusedSimpArgs false
set_option linter.unusedVariables false
namespace Go.Proofs.YtihhinbjhiankaaGreatDoor.Al

def Stands (x k : Int) : Prop := if x.tmod 2 = 0 then k ≠ 2 else k ≠ 1
instance (x k : Int) : Decidable (Stands x k) := by unfold Stands; infer_instance
def Whole (w : Int) : Prop := w = 1 ∨ w = 3 ∨ w = 7 ∨ w = 15 ∨ w = 31 ∨ w = 63 ∨ w = 127
instance (w : Int) : Decidable (Whole w) := inferInstanceAs (Decidable (_ ∨ _))
def Good (x : Nat) (n : Node) : Prop := Stands x n.kind ∧ nodeCheck n = 0
instance (x : Nat) (n : Node) : Decidable (Good x n) := inferInstanceAs (Decidable (_ ∧ _))
def Sane (t : List Node) : Prop := (∀ x (h : x < t.length), Good x t[x]) ∧ (t.length = 0 ∨ Whole t.length)
instance (t : List Node) : Decidable (Sane t) := inferInstanceAs (Decidable (_ ∧ _))
def known (t : List Node) : List Node := if Sane t then t else []
theorem whole_bits (w : Int) (h0 : 0 < w) (h1 : w ≤ 127) : (Go.bits .and .i64 w (w + 1) = 0) = Whole w := by
  have key : ∀ n : Nat, n < 128 → 0 < n → (Go.bits .and .i64 (n : Int) (n + 1) = 0 ↔ Whole (n : Int)) := by decide +kernel
  have := key w.toNat (by omega) (by omega)
  rw [Int.toNat_of_nonneg (by omega)] at this
  exact propext this
theorem Whole.le {w : Int} (h : Whole w) : 0 < w ∧ w ≤ 127 := by unfold Whole at h; omega
theorem Whole.odd {w : Int} (h : Whole w) : w % 2 = 1 := by unfold Whole at h; omega
theorem Sane.len {t : List Node} (h : Sane t) : t.length ≤ 127 := by
  rcases h.2 with h | h
  · omega
  · have := h.le; omega
theorem Sane.nil : Sane [] := ⟨fun x h => by simp at h, .inl rfl⟩
theorem known_len (t : List Node) : (known t).length ≤ 127 := by
  unfold known
  split
  · rename_i h; exact h.len
  · simp
theorem known_sane (t : List Node) : Sane (known t) := by
  unfold known
  split
  · assumption
  · exact .nil
theorem known_known (t : List Node) : known (known t) = known t := by
  rw [known, if_pos (known_sane t)]
theorem known_of {t : List Node} (h : Sane t) : known t = t := if_pos h
theorem known_ok {t : List Node} (h : Tree.Ok t) : Tree.Ok (known t) := by
  unfold known
  split
  · exact h
  · exact .nil
end Go.Proofs.YtihhinbjhiankaaGreatDoor.Al

set_option linter.unusedSimpArgs false
set_option linter.unusedVariables false
namespace Go.Proofs.YtihhinbjhiankaaGreatDoor.Al

def firstN (p : Nat → Bool) (n : Nat) : Option Nat := (List.range n).find? p
def lastN (p : Nat → Bool) : Nat → Option Nat
  | 0 => none
  | n + 1 => if p n then some n else lastN p n
theorem firstN_eq {p : Nat → Bool} {n k : Nat} (h : firstN p n = some k) : k < n ∧ p k = true ∧ ∀ j, j < k → p j = false := by
  rw [firstN, List.find?_range_eq_some] at h
  exact ⟨by simpa using h.2.1, h.1, fun j hj => by simpa using h.2.2 j hj⟩
theorem lastN_some {p : Nat → Bool} {k : Nat} (h : p k = true) : ∀ {n : Nat}, k < n → (∀ j, k < j → j < n → p j = false) → lastN p n = some k := by
  intro n
  induction n with
  | zero => omega
  | succ n ih =>
    intro hk hno
    rw [lastN]
    by_cases e : k = n
    · subst e; rw [if_pos h]
    · rw [hno n (by omega) (by omega)]
      exact ih (by omega) fun j h1 h2 => hno j h1 (by omega)
theorem lastN_none {p : Nat → Bool} : ∀ {n : Nat}, (∀ j, j < n → p j = false) → lastN p n = none := by
  intro n
  induction n with
  | zero => intro _; rfl
  | succ n ih =>
    intro hno
    rw [lastN, hno n (by omega)]
    exact ih fun j hj => hno j (by omega)
theorem lastN_eq {p : Nat → Bool} : ∀ {n k : Nat}, lastN p n = some k → k < n ∧ p k = true ∧ ∀ j, k < j → j < n → p j = false := by
  intro n
  induction n with
  | zero => intro k h; cases h
  | succ n ih =>
    intro k h
    rw [lastN] at h
    split at h
    · rename_i hp; cases h; exact ⟨by omega, hp, fun j h1 h2 => by omega⟩
    · rename_i hp
      obtain ⟨h1, h2, h3⟩ := ih h
      refine ⟨by omega, h2, fun j h4 h5 => ?_⟩
      by_cases e : j = n
      · subst e; simpa using hp
      · exact h3 j h4 (by omega)
theorem lastN_no {p : Nat → Bool} : ∀ {n : Nat}, lastN p n = none → ∀ j, j < n → p j = false := by
  intro n
  induction n with
  | zero => intro _ j hj; omega
  | succ n ih =>
    intro h j hj
    rw [lastN] at h
    split at h
    · cases h
    · rename_i hp
      by_cases e : j = n
      · subst e; simpa using hp
      · exact ih h j (by omega)
def optI : Option Nat → Int
  | some k => k
  | none => -1

def nodeAt (t : List Node) (x : Nat) : Node := t.getD x .zero
theorem nodeAt_lt {t : List Node} {x : Nat} (h : x < t.length) : nodeAt t x = t[x] := by simp [nodeAt, h]
def blankEven (t : List Node) (x : Nat) : Bool := decide (x % 2 = 0 ∧ (nodeAt t x).kind = 0)
def freeT (t : List Node) : Int := match firstN (blankEven (known t)) (known t).length with
  | some k => (k / 2 : Nat)
  | none => -1
def lastT (t : List Node) : Int := optI (lastN (fun x => decide ((nodeAt (known t) x).kind ≠ 0)) (known t).length)
def setT (t : List Node) (x : Int) (n : Node) : List Node × Int :=
  if x < 0 ∨ x ≥ (known t).length then ([], 3) else if nodeCheck n ≠ 0 then ([], nodeCheck n) else if ¬ Stands x n.kind then ([], 7) else ((known t).set x.toNat n, 0)
def Leafless (t : List Node) (from_ : Nat) : Prop := ∀ x (h : x < t.length), from_ ≤ x → t[x].kind ≠ 1
instance (t : List Node) (k : Nat) : Decidable (Leafless t k) := inferInstanceAs (Decidable (∀ x (h : x < t.length), _))
end Go.Proofs.YtihhinbjhiankaaGreatDoor.Al

set_option linter.unusedSimpArgs false
set_option linter.unusedVariables false
namespace Go.Proofs.YtihhinbjhiankaaGreatDoor.Al

theorem freeT_pos {t : List Node} (h : Sane t) (hf : ¬ freeT t < 0) : ∃ k : Nat, freeT t = k ∧ 2 * k < t.length ∧ blankEven t (2 * k) = true ∧ ∀ j, j < 2 * k → blankEven t j = false := by
  unfold freeT at hf ⊢
  rw [known_of h] at hf ⊢
  cases e : firstN (blankEven t) t.length with
  | none => rw [e] at hf; simp only at hf; omega
  | some k =>
    obtain ⟨h1, h2, h3⟩ := firstN_eq e
    have hk : k % 2 = 0 := by
      have := h2; simp only [blankEven, decide_eq_true_eq] at this; exact this.1
    have e2 : 2 * (k / 2) = k := by omega
    exact ⟨k / 2, rfl, by omega, by rw [e2]; exact h2, by rw [e2]; exact h3⟩
theorem lastT_neg {t : List Node} (h : Sane t) (hf : lastT t < 0) : lastT t = -1 ∧ ∀ j, j < t.length → (nodeAt t j).kind = 0 := by
  unfold lastT at hf ⊢
  rw [known_of h] at hf ⊢
  cases e : lastN (fun x => decide ((nodeAt t x).kind ≠ 0)) t.length with
  | some k => rw [e] at hf; simp only [optI] at hf; omega
  | none => exact ⟨rfl, fun j hj => by simpa using lastN_no e j hj⟩
theorem lastT_pos {t : List Node} (h : Sane t) (hf : ¬ lastT t < 0) : ∃ k : Nat, lastT t = k ∧ k < t.length ∧ (nodeAt t k).kind ≠ 0 ∧ ∀ j, k < j → j < t.length → (nodeAt t j).kind = 0 := by
  unfold lastT at hf ⊢
  rw [known_of h] at hf ⊢
  cases e : lastN (fun x => decide ((nodeAt t x).kind ≠ 0)) t.length with
  | none => rw [e] at hf; simp only [optI] at hf; omega
  | some k =>
    obtain ⟨h1, h2, h3⟩ := lastN_eq e
    exact ⟨k, rfl, h1, by simpa using h2, fun j a b => by simpa using h3 j a b⟩
def grown (t : List Node) : List Node := t ++ List.replicate (t.length + 1) .zero
end Go.Proofs.YtihhinbjhiankaaGreatDoor.Al

set_option linter.unusedSimpArgs false
set_option linter.unusedVariables false
namespace Go.Proofs.YtihhinbjhiankaaGreatDoor.Al

end Go.Proofs.YtihhinbjhiankaaGreatDoor.Al

set_option linter.unusedSimpArgs false
set_option linter.unusedVariables false
namespace Go.Proofs.YtihhinbjhiankaaGreatDoor.Al
open Go

def levF : Nat → Nat → Nat
  | 0, _ => 0
  | f + 1, x => if x % 2 = 1 then levF f (x / 2) + 1 else 0
def lev (x : Nat) : Nat := levF 7 x
def level (x : Int) : Int := if 0 ≤ x ∧ x < 127 then lev x.toNat else -1
def parN (x : Nat) : Nat := if x / 2 ^ (lev x + 1) % 2 = 0 then x + 2 ^ lev x else x - 2 ^ lev x
def IsN (x w : Int) : Prop := Whole w ∧ 0 ≤ x ∧ x < w
instance (x w : Int) : Decidable (IsN x w) := inferInstanceAs (Decidable (_ ∧ _))
def parI (x w : Int) : Int := if IsN x w then (if x = w / 2 then -1 else parN x.toNat) else -1
def upsF : Nat → Int → Int → List Int
  | 0, _, _ => []
  | f + 1, x, w => if IsN x w then x :: upsF f (parI x w) w else []
def ups (x w : Int) : List Int := upsF 7 x w
def directI (x w : Int) : List Int := (ups x w).tail
theorem whole_mem {w : Int} (h : Whole w) : ∃ n ∈ [1, 3, 7, 15, 31, 63, 127], w = ((n : Nat) : Int) := by
  rcases h with h | h | h | h | h | h | h
  · exact ⟨1, by simp, h⟩
  · exact ⟨3, by simp, h⟩
  · exact ⟨7, by simp, h⟩
  · exact ⟨15, by simp, h⟩
  · exact ⟨31, by simp, h⟩
  · exact ⟨63, by simp, h⟩
  · exact ⟨127, by simp, h⟩
theorem IsN.all {p : Nat → Nat → Prop} (hp : ∀ n ∈ [1, 3, 7, 15, 31, 63, 127], ∀ y, y < n → p y n) {x w : Int} (h : IsN x w) : p x.toNat w.toNat := by
  obtain ⟨n, hn, rfl⟩ := whole_mem h.1
  have h2 := h.2.2
  have h1 := h.2.1
  exact hp _ hn _ (by omega)
theorem IsN.cast {x w : Int} (h : IsN x w) : ((x.toNat : Nat) : Int) = x ∧ ((w.toNat : Nat) : Int) = w := by
  have := h.2
  constructor <;> omega
theorem IsN.lt {x w : Int} (h : IsN x w) : 0 ≤ x ∧ x < 127 := by
  have := h.1.le
  have := h.2
  omega
set_option maxRecDepth 100000 in
theorem ups_step {x w : Int} (h : IsN x w) : ups x w = x :: ups (parI x w) w := by
  have := IsN.all (p := fun y n => ups (y : Int) (n : Int) = (y : Int) :: ups (parI (y : Int) (n : Int)) (n : Int)) (by decide +kernel) h
  rwa [h.cast.1, h.cast.2] at this
theorem ups_not {x w : Int} (h : ¬ IsN x w) : ups x w = [] := by unfold ups upsF; rw [if_neg h]
theorem parI_neg {x w : Int} (h : ¬ IsN (parI x w) w) : parI x w < 0 := by
  by_cases hx : IsN x w
  · have := IsN.all (p := fun y n => ¬ IsN (parI (y : Int) (n : Int)) (n : Int) → parI (y : Int) (n : Int) < 0) (by decide +kernel) hx
    rw [hx.cast.1, hx.cast.2] at this
    exact this h
  · unfold parI; rw [if_neg hx]; omega
theorem direct_eq (x w : Int) : directI x w = ups (parI x w) w := by
  unfold directI
  by_cases h : IsN x w
  · rw [ups_step h]; rfl
  · have e : parI x w = -1 := by unfold parI; rw [if_neg h]
    rw [ups_not h, e, ups_not (fun h => by have := h.2.1; omega)]; rfl
theorem upsF_is : ∀ (f : Nat) (x w : Int), ∀ y ∈ upsF f x w, IsN y w
  | 0, _, _, y, h => by cases h
  | f + 1, x, w, y, h => by
    unfold upsF at h
    split at h
    · rename_i hx
      rcases List.mem_cons.1 h with rfl | h
      · exact hx
      · exact upsF_is f _ w y h
    · cases h
theorem ups_is {x w y : Int} (h : y ∈ ups x w) : IsN y w := upsF_is _ _ _ _ h
theorem upsF_len : ∀ (f : Nat) (x w : Int), (upsF f x w).length ≤ f
  | 0, _, _ => Nat.le_refl _
  | f + 1, x, w => by
    unfold upsF
    split
    · have := upsF_len f (parI x w) w; simp only [List.length_cons]; omega
    · simp
theorem ups_len (x w : Int) : (ups x w).length ≤ 7 := upsF_len _ _ _
theorem lev_le {x w : Int} (h : IsN x w) : lev x.toNat ≤ 6 := IsN.all (p := fun y _ => lev y ≤ 6) (by decide +kernel) h

end Go.Proofs.YtihhinbjhiankaaGreatDoor.Al

set_option linter.unusedSimpArgs false
set_option linter.unusedVariables false
namespace Go.Proofs.YtihhinbjhiankaaGreatDoor.Al
open Go

end Go.Proofs.YtihhinbjhiankaaGreatDoor.Al

set_option linter.unusedSimpArgs false
set_option linter.unusedVariables false
namespace Go.Proofs.YtihhinbjhiankaaGreatDoor.Al

theorem direct_ups {x w y : Int} (h : y ∈ directI x w) : y ∈ ups x w := List.mem_of_mem_tail h
end Go.Proofs.YtihhinbjhiankaaGreatDoor.Al

set_option linter.unusedSimpArgs false
set_option linter.unusedVariables false
namespace Go.Proofs.YtihhinbjhiankaaGreatDoor.Al

def namedB (t : List Node) (x i : Int) : Bool := decide (x ∈ ups (2 * i) t.length) && decide ((nodeAt t (2 * i).toNat).kind ≠ 0) &&
  ((directI (2 * i) t.length).takeWhile fun y => decide (y ≠ x)).all fun y => !(decide ((nodeAt t y.toNat).kind = 2) && !(nodeAt t y.toNat).inner.unmerged.contains i)
def NamedK (t : List Node) : Prop := ∀ x, x < t.length → ∀ i ∈ (nodeAt t x).inner.unmerged, namedB t x i = true
instance (t : List Node) : Decidable (NamedK t) := inferInstanceAs (Decidable (∀ x, x < t.length → _))
def NamedT (t : List Node) : Prop := NamedK (known t)
instance (t : List Node) : Decidable (NamedT t) := inferInstanceAs (Decidable (NamedK _))
def putL (t : List Node) : List Int := t.flatMap (nput [])
def putT (t : List Node) : List Int := pbytes [] (putL ((known t).take (lastT t + 1).toNat))
def BadK (k : Nat) (n : Node) : Prop := (k % 2 = 0 ∧ n.kind = 2) ∨ (k % 2 = 1 ∧ n.kind = 1)
instance (k : Nat) (n : Node) : Decidable (BadK k n) := inferInstanceAs (Decidable (_ ∨ _))
def errK (k : Nat) (v : List Int) : Int := if (nget v).2.2 = 0 ∧ BadK k (nget v).1 then 7 else (nget v).2.2
def ysF : Nat → Nat → List Int → List (Node × Int)
  | 0, _, _ => []
  | f + 1, k, v => if v = [] then [] else if k = 127 then [(.zero, 10)] else ((nget v).1, errK k v) :: ysF f (k + 1) (nget v).2.1
def ysI (v : List Int) : List (Node × Int) := ysF 128 0 v
def firstE (ys : List (Node × Int)) : Int := match ys.find? fun p => decide (p.2 ≠ 0) with
  | some p => p.2
  | none => 0
def padW (n : Nat) : Nat := if n ≤ 1 then 1 else if n ≤ 3 then 3 else if n ≤ 7 then 7 else if n ≤ 15 then 15 else if n ≤ 31 then 31 else if n ≤ 63 then 63 else 127
def padT (t : List Node) : List Node := t ++ List.replicate (padW t.length - t.length) .zero
def getK (v : List Int) : List Node × Int :=
  if v = [] then ([], 5) else if firstE (ysI v) ≠ 0 then ([], firstE (ysI v))
  else if (nodeAt ((ysI v).map Prod.fst) (((ysI v).map Prod.fst).length - 1)).kind = 0 then ([], 6)
  else if ¬ NamedT (padT ((ysI v).map Prod.fst)) then ([], 8) else (padT ((ysI v).map Prod.fst), 0)
def getT (b : List Int) : List Node × Int :=
  if (gbytes b).2.2 ≠ 0 then ([], (gbytes b).2.2) else if (gbytes b).2.1 ≠ [] then ([], 2) else getK (gbytes b).1

theorem putL_nil : putL [] = [] := rfl
theorem putL_snoc (t : List Node) (n : Node) : putL (t ++ [n]) = nput (putL t) n := by
  unfold putL
  rw [List.flatMap_append, nput_app]
  simp
theorem putL_take (t : List Node) {k : Nat} (h : k < t.length) : putL (t.take (k + 1)) = nput (putL (t.take k)) t[k] := by
  rw [List.take_succ_eq_append_getElem h, putL_snoc]
theorem f1_le (v : List Int) : (f1 v).length ≤ v.length + 4 := by
  have : (vput v.length).length ≤ 4 := by
    unfold vput
    split
    · simp
    · split
      · simp
      · split <;> simp
  unfold f1; rw [List.length_append]; omega
theorem nput_len (n : Node) : (nput [] n).length ≤ 1100 := by
  rw [nput_known]
  rcases known_cases n with h | ⟨l, hl, h⟩ | ⟨m, hm, h⟩
  · rw [h, nput_zero]; decide
  · obtain ⟨_, a1, a2, a3, _⟩ := leafCheck_ok hl
    have b1 := f1_le l.enc
    have b2 := f1_le l.cred
    have b3 := f1_le l.parent
    rw [h, nput_leaf hl, lput_eq hl]
    split <;> simp only [List.length_append, List.length_cons, List.length_nil] <;> omega
  · obtain ⟨a1, a2, a3, _⟩ := innerCheck_zero hm
    have b1 := f1_le m.enc
    have b2 := f1_le m.hash
    have b3 := f1_le (m.unmerged.flatMap be4)
    rw [be4_len] at b3
    rw [h, nput_inner hm, iput_eq hm]
    simp only [List.length_append, List.length_cons, List.length_nil]; omega
theorem putL_len (t : List Node) : (putL t).length ≤ 1100 * t.length := by
  unfold putL
  induction t with
  | nil => simp
  | cons n t ih => have := nput_len n; rw [List.flatMap_cons, List.length_append, List.length_cons]; omega
theorem pad_ge (n : Nat) (h : n ≤ 127) : n ≤ padW n := by unfold padW; split <;> (try split) <;> (try split) <;> (try split) <;> (try split) <;> (try split) <;> omega
theorem pad_whole (n : Nat) : Whole ((padW n : Nat) : Int) := by unfold padW Whole; split <;> (try split) <;> (try split) <;> (try split) <;> (try split) <;> (try split) <;> omega
theorem pad_first {n j : Nat} (h : n ≤ 127) (hn : 0 < n) (hj : n + j < padW n) : ¬ Whole ((n + j : Nat) : Int) := by
  unfold padW at hj; unfold Whole
  split at hj <;> (try split at hj) <;> (try split at hj) <;> (try split at hj) <;> (try split at hj) <;> (try split at hj) <;> omega
theorem padT_len {t : List Node} (h : t.length ≤ 127) : (padT t).length = padW t.length := by
  have := pad_ge _ h
  unfold padT; simp; omega
theorem ysF_done : ∀ (f k : Nat) (v : List Int), 127 ≤ f + k → k ≤ 127 → v ≠ [] → k < 127 → ysF (f + 1) k v = ((nget v).1, errK k v) :: ysF f (k + 1) (nget v).2.1 := by
  intro f k v _ _ hv hk
  conv => lhs; unfold ysF
  rw [if_neg hv, if_neg (by omega)]
theorem ysF_nil (f k : Nat) : ysF f k [] = [] := by cases f <;> simp [ysF]
theorem ysF_full (f : Nat) {v : List Int} (hv : v ≠ []) : ysF (f + 1) 127 v = [(.zero, 10)] := by
  conv => lhs; unfold ysF
  rw [if_neg hv, if_pos rfl]
theorem ysF_len : ∀ (f k : Nat) (v : List Int), (ysF f k v).length ≤ f
  | 0, _, _ => Nat.le_refl _
  | f + 1, k, v => by
    unfold ysF
    split
    · simp
    · split
      · simp
      · have := ysF_len f (k + 1) (nget v).2.1
        simp; omega
theorem inner_none {n : Node} (h : nodeCheck n = 0) (hk : n.kind ≠ 2) : n.inner = .zero := by
  unfold nodeCheck at h
  split at h
  · cases h
  · split at h
    · cases h
    · rename_i hc
      exact Classical.byContradiction fun hn => hc (.inr ⟨hk, hn⟩)
theorem unm_odd {t : List Node} (hs : Sane t) {x : Nat} (hx : x < t.length) {i : Int} (hi : i ∈ (nodeAt t x).inner.unmerged) : x % 2 = 1 ∧ (nodeAt t x).kind = 2 := by
  rw [nodeAt_lt hx] at hi ⊢
  have hg := hs.1 x hx
  have hk : t[x].kind = 2 := Classical.byContradiction fun hn => by rw [inner_none hg.2 hn] at hi; cases hi
  refine ⟨?_, hk⟩
  have h1 := hg.1
  unfold Stands at h1
  rw [hk] at h1
  have : ((x : Nat) : Int).tmod 2 = ((x % 2 : Nat) : Int) := by rw [Int.tmod_eq_emod_of_nonneg (by omega)]; omega
  rw [this] at h1
  split at h1
  · exact absurd rfl h1
  · omega

end Go.Proofs.YtihhinbjhiankaaGreatDoor.Al

set_option linter.unusedSimpArgs false
set_option linter.unusedVariables false
namespace Go.Proofs.YtihhinbjhiankaaGreatDoor.Al

theorem firstE_zero {ys : List (Node × Int)} (h : firstE ys = 0) : ∀ p ∈ ys, p.2 = 0 := by
  unfold firstE at h
  split at h
  · rename_i p hp
    have := List.find?_some hp
    simp only [decide_eq_true_eq] at this
    exact absurd h this
  · rename_i hn
    intro p hp
    have := List.find?_eq_none.1 hn p hp
    simpa using this
theorem ysF_all : ∀ (f k : Nat) (v : List Int), f + k = 128 → k ≤ 127 → Bytes v → (∀ p ∈ ysF f k v, p.2 = 0) →
    v = putL ((ysF f k v).map Prod.fst) ∧ (ysF f k v).length + k ≤ 127 ∧ ∀ j (hj : j < ((ysF f k v).map Prod.fst).length), nodeCheck ((ysF f k v).map Prod.fst)[j] = 0 ∧ ¬ BadK (k + j) ((ysF f k v).map Prod.fst)[j] := by
  intro f
  induction f with
  | zero => intro k v h hk; omega
  | succ f ih =>
    intro k v hf hk hb hall
    by_cases hv : v = []
    · subst hv
      rw [ysF_nil]
      exact ⟨rfl, by simpa using hk, fun j hj => by simp at hj⟩
    by_cases h7 : k = 127
    · subst h7
      rw [ysF_full f hv] at hall
      have := hall (.zero, 10) (by simp)
      cases this
    have e := ysF_done f k v (by omega) hk hv (by omega)
    rw [e] at hall ⊢
    have h0 : errK k v = 0 := hall _ (List.mem_cons_self ..)
    rcases hn : nget v with ⟨n, r, er⟩
    unfold errK at h0
    rw [hn] at h0
    simp only at h0 hall ⊢
    have hnb : er = 0 ∧ ¬ BadK k n := by
      split at h0
      · cases h0
      · rename_i hc
        exact ⟨h0, fun hb => hc ⟨h0, hb⟩⟩
    obtain ⟨rfl, hbad⟩ := hnb
    obtain ⟨hc, hp⟩ := nget_only hb hn
    have hbr : Bytes r := by rw [← hp] at hb; exact (Bytes.app.1 hb).2
    obtain ⟨i1, i2, i3⟩ := ih (k + 1) r (by omega) (by omega) hbr fun p hp => hall p (List.mem_cons_of_mem _ (by rw [hn]; exact hp))
    refine ⟨?_, by simp only [List.length_cons]; omega, fun j hj => ?_⟩
    · rw [List.map_cons]
      unfold putL at i1 ⊢
      rw [List.flatMap_cons, ← i1, hp]
    · cases j with
      | zero => exact ⟨hc, hbad⟩
      | succ j =>
        have := i3 j (by simpa using hj)
        simp only [List.map_cons, List.getElem_cons_succ]
        rw [show k + (j + 1) = k + 1 + j by omega]
        exact this
end Go.Proofs.YtihhinbjhiankaaGreatDoor.Al

set_option linter.unusedSimpArgs false
set_option linter.unusedVariables false
namespace Go.Proofs.YtihhinbjhiankaaGreatDoor.Al
open Go
attribute [local go_sem] W_mv W_pick W_alloc W_box W_build W_bslice W_load W_store W_bin W_isnil W_un W_convI W_convS W_mkiface W_mkfunc W_slice W_faddr W_iaddr W_idxA W_extract W_len W_min W_max W_append thenQ_normal thenQ_exit thenQ_ret blockQ_normal blockQ_ret blockQ_exit wpc_skip wpc_region wpc_draw wpc_seq wpc_cond wpc_block wpc_exit wpc_ret wpc_loop wpc_range condW_true condW_false condW_dec condW_any W_nil W_call resW_some evalOp Opd.ev updo_envL updo_none setL_cons setL_nil envL_cons Option.map_some Option.bind_some evBin evInt List.map_cons List.map_nil Option.pure_def Option.bind_eq_bind W_grd' grdW_tt grdW_ff grdW_tf grdW_ft grdW_tup grdW_dt grdW_df L_mv L_load L_bin L_un L_faddr L_iaddr L_nil L_call lresW_some upd_envL evUn beq_dec bne_dec leaves_ret1 leaves_ret0 leaves_end0 rowLen_ints load_iptr0 not_dec heap_get0 heap_get1 heap_set0 heap_set1 heap_len1 heap_app bslice1_int seen_one0 Nat.sub_zero Bool.not_true Bool.not_false List.length_nil List.length_cons List.nil_append List.cons_append Nat.zero_add canon_ptrI canon_bool canon_tup canon_agg canon_ints' canon_ints0 rowLen_octs seen_octs canon_octs' rowLen_nodes canon_nodes' rowLen_nodes0 rowLen_nodes3 seen_list cells_int oneIn_int cells_bool oneIn_bool cells_list oneIn_list cells_func oneIn_func cells_own cells_ptr cells_agg oneIn_own0 oneIn_own1 seenL1 seenM1 oneIn_ptr2 seenL2 oneIn_own3 seenL3 cells_ints oneIn_ints cells_octs oneIn_octs cells_nodes oneIn_nodes ldB0 ldA0 adB0 stB0 ldB1 ldA1 adB1 stB1 ldB2 ldA2 adB2 stB2 ldB3 stB3 List.getElem?_cons_zero List.getElem?_cons_succ beq_self_eq_true splice List.take_zero List.take_succ_cons List.drop_zero List.drop_succ_cons List.append_nil List.set_cons_zero List.set_cons_succ List.all_cons List.all_nil Bool.and_self and_self and_true true_and Nat.lt_irrefl Nat.zero_lt_one Nat.le_refl fillA evNil notA Bool.false_eq_true evMin_int evMax_int Option.map_none freezeP_all_nil freezeP_all_cons frzE_box frzE_arr foldA List.foldlM_cons List.foldlM_nil callW_f lcallW_f ansW_fn ansW_own lansW_fn ansW_none tab_cons tab_nil dI_int dB_bool dO_octs dO_ints dO_list dO_nil dN_nodeA dLf_agg dIn_agg dN_agg dNs_nodes dNs_nil isI_int isB_bool isO_octs isO_nil isO_list isS_ints isS_nil isNs_nodes isNs_nil isN_nodeA isLf_agg isIn_agg isN_agg leaf_eta inner_eta node_eta leaf_zero inner_zero decide_eq_true_eq decide_eq_false_iff_not eq_self forall_const true_implies false_implies Bool.not_eq_true' Bool.not_eq_false' Bool.true_eq_false implies_true ne_eq ldI ldIA adI AV.tup.injEq AV.agg.injEq List.cons.injEq AV.int.injEq AV.bool.injEq nodes_inj octs_inj ints_inj nil_nodes nil_octs nil_ints canon_nilL decide_eq_decide two_ne four_ne b256_ne lendA_own lendA_none isO_own false_and and_false Q_nil Q_l Q_g Q_h Q_grd qgrdW_b lightD_some heavyD_some readD_some fnD_some callL_f Q_call pendOk_nil pendOk_cons pastOk_nil Q_mv Q_pick Q_bin Q_extract Q_min Q_load Q_slice Q_len H_store free_mv free_pick free_bin free_extract free_min free_load free_slice free_len callW_y List.length_map List.length_set leaves_r evR_some evRess1 evRess2 evRess3 evRes_t evRes_c nz_kind nz_enc nz_cred nz_source nz_parent nz_ienc nz_hash nz_un true_or or_true bsl_node appI appO canon_rowI canon_rowO not_false_eq_true not_true_eq_false ldE_a ldE_c adE_b stE_b onP_b
attribute [local go_sem low] condW_b ldP adP stP onO
attribute [local simp] envL_cons envL_nil idb_int idb_bool idb_ints idb_nil idb_own idb_ptr idb_octs idb_nodes idb_leafA idb_innerA idb_nodeA idb_agg idb_tup idb_iptr idb_fn entB_dead entB_box
end Go.Proofs.YtihhinbjhiankaaGreatDoor.Al

set_option linter.unusedSimpArgs false
set_option linter.unusedVariables false
namespace Go.Proofs.YtihhinbjhiankaaGreatDoor.Al
open Go
attribute [local go_sem] W_mv W_pick W_alloc W_box W_build W_bslice W_load W_store W_bin W_isnil W_un W_convI W_convS W_mkiface W_mkfunc W_slice W_faddr W_iaddr W_idxA W_extract W_len W_min W_max W_append thenQ_normal thenQ_exit thenQ_ret blockQ_normal blockQ_ret blockQ_exit wpc_skip wpc_region wpc_draw wpc_seq wpc_cond wpc_block wpc_exit wpc_ret wpc_loop wpc_range condW_true condW_false condW_dec condW_any W_nil W_call resW_some evalOp Opd.ev updo_envL updo_none setL_cons setL_nil envL_cons Option.map_some Option.bind_some evBin evInt List.map_cons List.map_nil Option.pure_def Option.bind_eq_bind W_grd' grdW_tt grdW_ff grdW_tf grdW_ft grdW_tup grdW_dt grdW_df L_mv L_load L_bin L_un L_faddr L_iaddr L_nil L_call lresW_some upd_envL evUn beq_dec bne_dec leaves_ret1 leaves_ret0 leaves_end0 rowLen_ints load_iptr0 not_dec heap_get0 heap_get1 heap_set0 heap_set1 heap_len1 heap_app bslice1_int seen_one0 Nat.sub_zero Bool.not_true Bool.not_false List.length_nil List.length_cons List.nil_append List.cons_append Nat.zero_add canon_ptrI canon_bool canon_tup canon_agg canon_ints' canon_ints0 rowLen_octs seen_octs canon_octs' rowLen_nodes canon_nodes' rowLen_nodes0 rowLen_nodes3 seen_list cells_int oneIn_int cells_bool oneIn_bool cells_list oneIn_list cells_func oneIn_func cells_own cells_ptr cells_agg oneIn_own0 oneIn_own1 seenL1 seenM1 oneIn_ptr2 seenL2 oneIn_own3 seenL3 cells_ints oneIn_ints cells_octs oneIn_octs cells_nodes oneIn_nodes ldB0 ldA0 adB0 stB0 ldB1 ldA1 adB1 stB1 ldB2 ldA2 adB2 stB2 ldB3 stB3 List.getElem?_cons_zero List.getElem?_cons_succ beq_self_eq_true splice List.take_zero List.take_succ_cons List.drop_zero List.drop_succ_cons List.append_nil List.set_cons_zero List.set_cons_succ List.all_cons List.all_nil Bool.and_self and_self and_true true_and Nat.lt_irrefl Nat.zero_lt_one Nat.le_refl fillA evNil notA Bool.false_eq_true evMin_int evMax_int Option.map_none freezeP_all_nil freezeP_all_cons frzE_box frzE_arr foldA List.foldlM_cons List.foldlM_nil callW_f lcallW_f ansW_fn ansW_own lansW_fn ansW_none tab_cons tab_nil dI_int dB_bool dO_octs dO_ints dO_list dO_nil dN_nodeA dLf_agg dIn_agg dN_agg dNs_nodes dNs_nil isI_int isB_bool isO_octs isO_nil isO_list isS_ints isS_nil isNs_nodes isNs_nil isN_nodeA isLf_agg isIn_agg isN_agg leaf_eta inner_eta node_eta leaf_zero inner_zero decide_eq_true_eq decide_eq_false_iff_not eq_self forall_const true_implies false_implies Bool.not_eq_true' Bool.not_eq_false' Bool.true_eq_false implies_true ne_eq ldI ldIA adI AV.tup.injEq AV.agg.injEq List.cons.injEq AV.int.injEq AV.bool.injEq nodes_inj octs_inj ints_inj nil_nodes nil_octs nil_ints canon_nilL decide_eq_decide two_ne four_ne b256_ne lendA_own lendA_none isO_own false_and and_false Q_nil Q_l Q_g Q_h Q_grd qgrdW_b lightD_some heavyD_some readD_some fnD_some callL_f Q_call pendOk_nil pendOk_cons pastOk_nil Q_mv Q_pick Q_bin Q_extract Q_min Q_load Q_slice Q_len H_store free_mv free_pick free_bin free_extract free_min free_load free_slice free_len callW_y List.length_map List.length_set leaves_r evR_some evRess1 evRess2 evRess3 evRes_t evRes_c nz_kind nz_enc nz_cred nz_source nz_parent nz_ienc nz_hash nz_un true_or or_true bsl_node appI appO canon_rowI canon_rowO not_false_eq_true not_true_eq_false ldE_a ldE_c adE_b stE_b onP_b
attribute [local go_sem low] condW_b ldP adP stP onO
attribute [local simp] envL_cons envL_nil idb_int idb_bool idb_ints idb_nil idb_own idb_ptr idb_octs idb_nodes idb_leafA idb_innerA idb_nodeA idb_agg idb_tup idb_iptr idb_fn entB_dead entB_box
end Go.Proofs.YtihhinbjhiankaaGreatDoor.Al

set_option linter.unusedSimpArgs false
set_option linter.unusedVariables false
namespace Go.Proofs.YtihhinbjhiankaaGreatDoor.Al
open Go
attribute [local go_sem] W_mv W_pick W_alloc W_box W_build W_bslice W_load W_store W_bin W_isnil W_un W_convI W_convS W_mkiface W_mkfunc W_slice W_faddr W_iaddr W_idxA W_extract W_len W_min W_max W_append thenQ_normal thenQ_exit thenQ_ret blockQ_normal blockQ_ret blockQ_exit wpc_skip wpc_region wpc_draw wpc_seq wpc_cond wpc_block wpc_exit wpc_ret wpc_loop wpc_range condW_true condW_false condW_dec condW_any W_nil W_call resW_some evalOp Opd.ev updo_envL updo_none setL_cons setL_nil envL_cons Option.map_some Option.bind_some evBin evInt List.map_cons List.map_nil Option.pure_def Option.bind_eq_bind W_grd' grdW_tt grdW_ff grdW_tf grdW_ft grdW_tup grdW_dt grdW_df L_mv L_load L_bin L_un L_faddr L_iaddr L_nil L_call lresW_some upd_envL evUn beq_dec bne_dec leaves_ret1 leaves_ret0 leaves_end0 rowLen_ints load_iptr0 not_dec heap_get0 heap_get1 heap_set0 heap_set1 heap_len1 heap_app bslice1_int seen_one0 Nat.sub_zero Bool.not_true Bool.not_false List.length_nil List.length_cons List.nil_append List.cons_append Nat.zero_add canon_ptrI canon_bool canon_tup canon_agg canon_ints' canon_ints0 rowLen_octs seen_octs canon_octs' rowLen_nodes canon_nodes' rowLen_nodes0 rowLen_nodes3 seen_list cells_int oneIn_int cells_bool oneIn_bool cells_list oneIn_list cells_func oneIn_func cells_own cells_ptr cells_agg oneIn_own0 oneIn_own1 seenL1 seenM1 oneIn_ptr2 seenL2 oneIn_own3 seenL3 cells_ints oneIn_ints cells_octs oneIn_octs cells_nodes oneIn_nodes ldB0 ldA0 adB0 stB0 ldB1 ldA1 adB1 stB1 ldB2 ldA2 adB2 stB2 ldB3 stB3 List.getElem?_cons_zero List.getElem?_cons_succ beq_self_eq_true splice List.take_zero List.take_succ_cons List.drop_zero List.drop_succ_cons List.append_nil List.set_cons_zero List.set_cons_succ List.all_cons List.all_nil Bool.and_self and_self and_true true_and Nat.lt_irrefl Nat.zero_lt_one Nat.le_refl fillA evNil notA Bool.false_eq_true evMin_int evMax_int Option.map_none freezeP_all_nil freezeP_all_cons frzE_box frzE_arr foldA List.foldlM_cons List.foldlM_nil callW_f lcallW_f ansW_fn ansW_own lansW_fn ansW_none tab_cons tab_nil dI_int dB_bool dO_octs dO_ints dO_list dO_nil dN_nodeA dLf_agg dIn_agg dN_agg dNs_nodes dNs_nil isI_int isB_bool isO_octs isO_nil isO_list isS_ints isS_nil isNs_nodes isNs_nil isN_nodeA isLf_agg isIn_agg isN_agg leaf_eta inner_eta node_eta leaf_zero inner_zero decide_eq_true_eq decide_eq_false_iff_not eq_self forall_const true_implies false_implies Bool.not_eq_true' Bool.not_eq_false' Bool.true_eq_false implies_true ne_eq ldI ldIA adI AV.tup.injEq AV.agg.injEq List.cons.injEq AV.int.injEq AV.bool.injEq nodes_inj octs_inj ints_inj nil_nodes nil_octs nil_ints canon_nilL decide_eq_decide two_ne four_ne b256_ne lendA_own lendA_none isO_own false_and and_false Q_nil Q_l Q_g Q_h Q_grd qgrdW_b lightD_some heavyD_some readD_some fnD_some callL_f Q_call pendOk_nil pendOk_cons pastOk_nil Q_mv Q_pick Q_bin Q_extract Q_min Q_load Q_slice Q_len H_store free_mv free_pick free_bin free_extract free_min free_load free_slice free_len callW_y List.length_map List.length_set leaves_r evR_some evRess1 evRess2 evRess3 evRes_t evRes_c nz_kind nz_enc nz_cred nz_source nz_parent nz_ienc nz_hash nz_un true_or or_true bsl_node appI appO canon_rowI canon_rowO not_false_eq_true not_true_eq_false ldE_a ldE_c adE_b stE_b onP_b
attribute [local go_sem low] condW_b ldP adP stP onO
attribute [local simp] envL_cons envL_nil idb_int idb_bool idb_ints idb_nil idb_own idb_ptr idb_octs idb_nodes idb_leafA idb_innerA idb_nodeA idb_agg idb_tup idb_iptr idb_fn entB_dead entB_box
theorem index_spec (l : List Int) (x : Int) (hl : Small l) : Fun seat 222 [ints l, .int .i64 x] (.int .i64 (idxF (fun y => decide (x = y)) l)) := by
  simp only [Small] at hl
  refine Fun.of0R [] told222 (by simp [il222]) (by simp [idb_patchA]) (by simp [idb_patchA]) 4 ?_
  simp -implicitDefEqProofs only [il222, List.zipIdx_cons, List.zipIdx_nil, leafA, innerA, nodeA, patchA, Leaf.cells, Inner.cells, Node.cells, decide_true, decide_false, go_sem, Nat.reduceEqDiff, reduceIte, Nat.reduceAdd, Nat.reduceLeDiff, Nat.reduceLT, Nat.reduceSub]
  refine WP.loop0 (fun k => k ≤ l.length ∧ ∀ j (h : j < l.length), j < k → ¬ x = l[j]) (fun k => [(0, ints l), (1, .int .i64 x), (7, .int .i64 l.length), (8, .int .i64 (k : Nat))]) (fun k => l.length - k) 0 ⟨Nat.zero_le _, fun j _ h => absurd h (Nat.not_lt_zero j)⟩ (fun k _ => by simp ) (by simp ) ?_
  rintro k ⟨hk, hno⟩
  refine wpc_soundR [] ?_
  by_cases hlt : (k : Int) < (l.length : Nat)
  · have hk' : k < l.length := by omega
    by_cases he : x = l[k]
    · simp -implicitDefEqProofs only [leafA, innerA, nodeA, patchA, Leaf.cells, Inner.cells, Node.cells, decide_true, decide_false, hlt, fun H => index_ints H l k hk', he, go_sem, Nat.reduceEqDiff, reduceIte, Nat.reduceAdd, Nat.reduceLeDiff, Nat.reduceLT, Nat.reduceSub]
      exact (findIdx_at hk' (by simp) fun j hj => decide_eq_false (by have := hno j (by omega) hj; rwa [he] at this)).symm
    · simp -implicitDefEqProofs only [leafA, innerA, nodeA, patchA, Leaf.cells, Inner.cells, Node.cells, decide_true, decide_false, hlt, fun H => index_ints H l k hk', he, go_sem, Nat.reduceEqDiff, reduceIte, Nat.reduceAdd, Nat.reduceLeDiff, Nat.reduceLT, Nat.reduceSub]
      exact ⟨k + 1, ⟨hk', scanS (p := fun j h => ¬ x = l[j]) hno fun _ => he⟩, by omega, by simp [wrapS (show k < 9223372036854775807 by omega)]⟩
  · simp -implicitDefEqProofs only [leafA, innerA, nodeA, patchA, Leaf.cells, Inner.cells, Node.cells, decide_true, decide_false, hlt, go_sem, Nat.reduceEqDiff, reduceIte, Nat.reduceAdd, Nat.reduceLeDiff, Nat.reduceLT, Nat.reduceSub]
    exact (idxF_none (l := l) (p := fun y => decide (x = y)) fun j hj => decide_eq_false (hno j hj (by omega))).symm
noncomputable def r222 : Reg seat := .of told222 (ask2 (fun a0' a1' => isS a0' ∧ isI a1' ∧ Small (dO a0')) fun a0' a1' => .fn (.int .i64 (idxF (fun y => decide ((dI a1') = y)) (dO a0')))) (ask2_ok fun a0' a1' h => SaidOk.fn (Fun.weak (.cons (isS.weak h.1) (.cons (isI.weak h.2.1) .nil)) (index_spec _ _ h.2.2)))
theorem r222_c : r222.c = 222 := rfl
open Classical in
theorem r222_ask (a0' a1' : AV) : r222.ask [a0', a1'] = if isS a0' ∧ isI a1' ∧ Small (dO a0') then some (Said.fn (.int .i64 (idxF (fun y => decide ((dI a1') = y)) (dO a0')))) else none := by unfold r222 Reg.of ask2; exact ite_cl
theorem idxF_has (l : List Int) (x : Int) : decide (idxF (fun y => decide (x = y)) l ≥ 0) = l.contains x := by
  rw [idxF_ge]
  rw [Bool.eq_iff_iff]
  simp only [List.any_eq_true, decide_eq_true_eq, List.contains_iff_mem]
  exact ⟨fun ⟨y, h1, h2⟩ => h2 ▸ h1, fun h => ⟨x, h, rfl⟩⟩
theorem contains_spec (l : List Int) (x : Int) (hl : Small l) : Fun seat 204 [ints l, .int .i64 x] (.bool (l.contains x)) := by
  rw [← idxF_has]
  refine Fun.of0R [r222] told204 (by simp [il204]) (by simp [idb_patchA]) (by simp [idb_patchA]) 4 ?_
  simp -implicitDefEqProofs only [il204, List.zipIdx_cons, List.zipIdx_nil, leafA, innerA, nodeA, patchA, Leaf.cells, Inner.cells, Node.cells, r222_c, r222_ask, decide_true, decide_false, hl, go_sem, Nat.reduceEqDiff, reduceIte, Nat.reduceAdd, Nat.reduceLeDiff, Nat.reduceLT, Nat.reduceSub]
noncomputable def r204 : Reg seat := .of told204 (ask2 (fun a0' a1' => isS a0' ∧ isI a1' ∧ Small (dO a0')) fun a0' a1' => .fn (.bool ((dO a0').contains (dI a1')))) (ask2_ok fun a0' a1' h => SaidOk.fn (Fun.weak (.cons (isS.weak h.1) (.cons (isI.weak h.2.1) .nil)) (contains_spec _ _ h.2.2)))
theorem r204_c : r204.c = 204 := rfl
open Classical in
theorem r204_ask (a0' a1' : AV) : r204.ask [a0', a1'] = if isS a0' ∧ isI a1' ∧ Small (dO a0') then some (Said.fn (.bool ((dO a0').contains (dI a1')))) else none := by unfold r204 Reg.of ask2; exact ite_cl
theorem refLeafCheck_spec (l : Leaf) : Fun seat 164 [leafA l] (.int .i64 (leafCheck l)) := by
  refine Fun.of0R [] told164 (by simp [il164]) (by simp [idb_patchA]) (by simp [idb_patchA]) 4 ?_
  simp only [il164, List.zipIdx_cons, List.zipIdx_nil, leafA, innerA, nodeA, patchA, Leaf.cells, Inner.cells, Node.cells, go_sem, Nat.reduceEqDiff, reduceIte, Nat.reduceAdd, Nat.reduceLeDiff, Nat.reduceLT, Nat.reduceSub]
  iterate 12 ((all_goals intros); (all_goals try refine And.intro ?_ ?_))
  all_goals first | (show WP _ _ _ _ _ _ _) | grind [leafCheck]
noncomputable def r164 : Reg seat := .of told164 (ask1 (fun a0' => isLf a0') fun a0' => .fn (.int .i64 (leafCheck (dLf a0')))) (ask1_ok fun a0' h => SaidOk.fn (Fun.weak (.cons (isLf.weak h) .nil) (refLeafCheck_spec _)))
theorem r164_c : r164.c = 164 := rfl
open Classical in
theorem r164_ask (a0' : AV) : r164.ask [a0'] = if isLf a0' then some (Said.fn (.int .i64 (leafCheck (dLf a0')))) else none := by unfold r164 Reg.of ask1; exact ite_cl

theorem refNodeCheck_spec (n : Node) (hn : n.Ok) : Fun seat 153 [nodeA n] (.int .i64 (nodeCheck n)) := by
  refine Fun.of0R [r149, r150, r164, r165] told153 (by simp [il153]) (by simp [idb_patchA]) (by simp [idb_patchA]) 4 ?_
  simp only [il153, List.zipIdx_cons, List.zipIdx_nil, leafA, innerA, nodeA, patchA, Leaf.cells, Inner.cells, Node.cells, r149_c, r149_ask, r150_c, r150_ask, r164_c, r164_ask, r165_c, r165_ask, hn.leaf, hn.inner, Leaf.Ok.zero, Inner.Ok.zero, go_sem, Nat.reduceEqDiff, reduceIte, Nat.reduceAdd, Nat.reduceLeDiff, Nat.reduceLT, Nat.reduceSub]
  iterate 12 ((all_goals intros); (all_goals try refine And.intro ?_ ?_))
  all_goals first | (show WP _ _ _ _ _ _ _) | grind [nodeCheck]
noncomputable def r153 : Reg seat := .of told153 (ask1 (fun a0' => isN a0' ∧ (dN a0').Ok) fun a0' => .fn (.int .i64 (nodeCheck (dN a0')))) (ask1_ok fun a0' h => SaidOk.fn (Fun.weak (.cons (isN.weak h.1) .nil) (refNodeCheck_spec _ h.2)))
theorem r153_c : r153.c = 153 := rfl
open Classical in
theorem r153_ask (a0' : AV) : r153.ask [a0'] = if isN a0' ∧ (dN a0').Ok then some (Said.fn (.int .i64 (nodeCheck (dN a0')))) else none := by unfold r153 Reg.of ask1; exact ite_cl
theorem fits_spec (x k : Int) : Fun seat 123 [.int .i64 x, .int .i64 k] (.bool (decide (Stands x k))) := by
  refine Fun.of0R [] told123 (by simp [il123]) (by simp [idb_patchA]) (by simp [idb_patchA]) 4 ?_
  simp only [il123, List.zipIdx_cons, List.zipIdx_nil, leafA, innerA, nodeA, patchA, Leaf.cells, Inner.cells, Node.cells, go_sem, Nat.reduceEqDiff, reduceIte, Nat.reduceAdd, Nat.reduceLeDiff, Nat.reduceLT, Nat.reduceSub]
  iterate 12 ((all_goals intros); (all_goals try refine And.intro ?_ ?_))
  all_goals first | (show WP _ _ _ _ _ _ _) | grind [Stands]
noncomputable def r123 : Reg seat := .of told123 (ask2 (fun a0' a1' => isI a0' ∧ isI a1') fun a0' a1' => .fn (.bool (decide (Stands (dI a0') (dI a1'))))) (ask2_ok fun a0' a1' h => SaidOk.fn (Fun.weak (.cons (isI.weak h.1) (.cons (isI.weak h.2) .nil)) (fits_spec _ _)))
theorem r123_c : r123.c = 123 := rfl
open Classical in
theorem r123_ask (a0' a1' : AV) : r123.ask [a0', a1'] = if isI a0' ∧ isI a1' then some (Said.fn (.bool (decide (Stands (dI a0') (dI a1'))))) else none := by unfold r123 Reg.of ask2; exact ite_cl
theorem refFits_spec (x k : Int) : Fun seat 154 [.int .i64 x, .int .i64 k] (.bool (decide (Stands x k))) := by
  refine Fun.of0R [] told154 (by simp [il154]) (by simp [idb_patchA]) (by simp [idb_patchA]) 4 ?_
  simp only [il154, List.zipIdx_cons, List.zipIdx_nil, leafA, innerA, nodeA, patchA, Leaf.cells, Inner.cells, Node.cells, go_sem, Nat.reduceEqDiff, reduceIte, Nat.reduceAdd, Nat.reduceLeDiff, Nat.reduceLT, Nat.reduceSub]
  iterate 12 ((all_goals intros); (all_goals try refine And.intro ?_ ?_))
  all_goals first | (show WP _ _ _ _ _ _ _) | grind [Stands]
noncomputable def r154 : Reg seat := .of told154 (ask2 (fun a0' a1' => isI a0' ∧ isI a1') fun a0' a1' => .fn (.bool (decide (Stands (dI a0') (dI a1'))))) (ask2_ok fun a0' a1' h => SaidOk.fn (Fun.weak (.cons (isI.weak h.1) (.cons (isI.weak h.2) .nil)) (refFits_spec _ _)))
theorem r154_c : r154.c = 154 := rfl
open Classical in
theorem r154_ask (a0' a1' : AV) : r154.ask [a0', a1'] = if isI a0' ∧ isI a1' then some (Said.fn (.bool (decide (Stands (dI a0') (dI a1'))))) else none := by unfold r154 Reg.of ask2; exact ite_cl
theorem blank_spec (n : Node) : Fun seat 127 [nodeA n] (.bool (decide (n.kind = 0))) := by
  refine Fun.of0R [] told127 (by simp [il127]) (by simp [idb_patchA]) (by simp [idb_patchA]) 4 ?_
  simp only [il127, List.zipIdx_cons, List.zipIdx_nil, leafA, innerA, nodeA, patchA, Leaf.cells, Inner.cells, Node.cells, go_sem, Nat.reduceEqDiff, reduceIte, Nat.reduceAdd, Nat.reduceLeDiff, Nat.reduceLT, Nat.reduceSub]
noncomputable def r127 : Reg seat := .of told127 (ask1 (fun a0' => isN a0') fun a0' => .fn (.bool (decide ((dN a0').kind = 0)))) (ask1_ok fun a0' h => SaidOk.fn (Fun.weak (.cons (isN.weak h) .nil) (blank_spec _)))
theorem r127_c : r127.c = 127 := rfl
open Classical in
theorem r127_ask (a0' : AV) : r127.ask [a0'] = if isN a0' then some (Said.fn (.bool (decide ((dN a0').kind = 0)))) else none := by unfold r127 Reg.of ask1; exact ite_cl
theorem whole_spec (w : Int) : Fun seat 125 [.int .i64 w] (.bool (decide (Whole w))) := by
  by_cases h : 0 < w ∧ w ≤ 127
  · refine Fun.of0R [] told125 (by simp [il125]) (by simp [idb_patchA]) (by simp [idb_patchA]) 4 ?_
    simp only [il125, List.zipIdx_cons, List.zipIdx_nil, leafA, innerA, nodeA, patchA, Leaf.cells, Inner.cells, Node.cells, h, wrap64s (w + 1) (by omega), whole_bits w h.1 h.2, go_sem, Nat.reduceEqDiff, reduceIte, Nat.reduceAdd, Nat.reduceLeDiff, Nat.reduceLT, Nat.reduceSub]
    iterate 12 ((all_goals intros); (all_goals try refine And.intro ?_ ?_))
    all_goals first | (show WP _ _ _ _ _ _ _) | grind
  · have h' : ¬ Whole w := fun hw => h hw.le
    refine Fun.of0R [] told125 (by simp [il125]) (by simp [idb_patchA]) (by simp [idb_patchA]) 4 ?_
    simp only [il125, List.zipIdx_cons, List.zipIdx_nil, leafA, innerA, nodeA, patchA, Leaf.cells, Inner.cells, Node.cells, h', go_sem, Nat.reduceEqDiff, reduceIte, Nat.reduceAdd, Nat.reduceLeDiff, Nat.reduceLT, Nat.reduceSub]
    iterate 12 ((all_goals intros); (all_goals try refine And.intro ?_ ?_))
    all_goals first | (show WP _ _ _ _ _ _ _) | grind
noncomputable def r125 : Reg seat := .of told125 (ask1 (fun a0' => isI a0') fun a0' => .fn (.bool (decide (Whole (dI a0'))))) (ask1_ok fun a0' h => SaidOk.fn (Fun.weak (.cons (isI.weak h) .nil) (whole_spec _)))
theorem r125_c : r125.c = 125 := rfl
open Classical in
theorem r125_ask (a0' : AV) : r125.ask [a0'] = if isI a0' then some (Said.fn (.bool (decide (Whole (dI a0'))))) else none := by unfold r125 Reg.of ask1; exact ite_cl
theorem root_spec (w : Int) : Fun seat 109 [.int .i64 w] (.int .i64 (if Whole w then w / 2 else -1)) := by
  by_cases h : Whole w
  · have := h.le
    refine Fun.of0R [r125] told109 (by simp [il109]) (by simp [idb_patchA]) (by simp [idb_patchA]) 4 ?_
    simp only [il109, List.zipIdx_cons, List.zipIdx_nil, leafA, innerA, nodeA, patchA, Leaf.cells, Inner.cells, Node.cells, r125_c, r125_ask, h, quo2 w (by omega), go_sem, Nat.reduceEqDiff, reduceIte, Nat.reduceAdd, Nat.reduceLeDiff, Nat.reduceLT, Nat.reduceSub]
  · refine Fun.of0R [r125] told109 (by simp [il109]) (by simp [idb_patchA]) (by simp [idb_patchA]) 4 ?_
    simp only [il109, List.zipIdx_cons, List.zipIdx_nil, leafA, innerA, nodeA, patchA, Leaf.cells, Inner.cells, Node.cells, r125_c, r125_ask, h, go_sem, Nat.reduceEqDiff, reduceIte, Nat.reduceAdd, Nat.reduceLeDiff, Nat.reduceLT, Nat.reduceSub]
noncomputable def r109 : Reg seat := .of told109 (ask1 (fun a0' => isI a0') fun a0' => .fn (.int .i64 (if Whole (dI a0') then (dI a0') / 2 else -1))) (ask1_ok fun a0' h => SaidOk.fn (Fun.weak (.cons (isI.weak h) .nil) (root_spec _)))
theorem r109_c : r109.c = 109 := rfl
open Classical in
theorem r109_ask (a0' : AV) : r109.ask [a0'] = if isI a0' then some (Said.fn (.int .i64 (if Whole (dI a0') then (dI a0') / 2 else -1))) else none := by unfold r109 Reg.of ask1; exact ite_cl
theorem tz_spec (x : Nat) (hx : x < 18446744073709551616) : Fun seat 281 [.int .u64 x] (.int .i64 (Lib.ctz 64 x)) := by
  intro H m I X w vs hs hv
  obtain ⟨v, rfl, hw⟩ := args1 hv
  cases hw
  have ef : seat.fn 281 = lays727Ren.f 27 := rfl
  rw [ef]
  refine (Any7.bits_TrailingZeros lays727At x hx w (fun _ => ?_)).mono ?_
  · exact (hs.gl (lays727Ren.g 1, Lib.deBruijn64tab) (by simp [seat]; rfl)).2
  · rintro e' w' ⟨rfl, rfl⟩
    exact ⟨_, H, _, m, I, rfl, ⟨rfl, rfl⟩, .int _ _, hs, .refl m, fun _ hb => hb, .refl I X _⟩
theorem lev_ctz : ∀ n, n < 127 → Lib.ctz 64 (18446744073709551615 - n) = lev n := by decide +kernel
theorem isN_spec (x w : Int) : Fun seat 257 [.int .i64 x, .int .i64 w] (.bool (decide (IsN x w))) := by
  by_cases h : Whole w
  · by_cases h0 : x ≥ 0
    · have e : IsN x w ↔ x < w := ⟨fun k => k.2.2, fun k => ⟨h, h0, k⟩⟩
      refine Fun.of0R [r125] told257 (by simp [il257]) (by simp [idb_patchA]) (by simp [idb_patchA]) 4 ?_
      simp -implicitDefEqProofs only [il257, List.zipIdx_cons, List.zipIdx_nil, leafA, innerA, nodeA, patchA, Leaf.cells, Inner.cells, Node.cells, r125_c, r125_ask, decide_true, decide_false, h, h0, e, go_sem, Nat.reduceEqDiff, reduceIte, Nat.reduceAdd, Nat.reduceLeDiff, Nat.reduceLT, Nat.reduceSub]
    · have e : ¬ IsN x w := fun k => h0 k.2.1
      refine Fun.of0R [r125] told257 (by simp [il257]) (by simp [idb_patchA]) (by simp [idb_patchA]) 4 ?_
      simp -implicitDefEqProofs only [il257, List.zipIdx_cons, List.zipIdx_nil, leafA, innerA, nodeA, patchA, Leaf.cells, Inner.cells, Node.cells, r125_c, r125_ask, decide_true, decide_false, h, h0, e, go_sem, Nat.reduceEqDiff, reduceIte, Nat.reduceAdd, Nat.reduceLeDiff, Nat.reduceLT, Nat.reduceSub]
  · have e : ¬ IsN x w := fun k => h k.1
    refine Fun.of0R [r125] told257 (by simp [il257]) (by simp [idb_patchA]) (by simp [idb_patchA]) 4 ?_
    simp -implicitDefEqProofs only [il257, List.zipIdx_cons, List.zipIdx_nil, leafA, innerA, nodeA, patchA, Leaf.cells, Inner.cells, Node.cells, r125_c, r125_ask, decide_true, decide_false, h, e, go_sem, Nat.reduceEqDiff, reduceIte, Nat.reduceAdd, Nat.reduceLeDiff, Nat.reduceLT, Nat.reduceSub]
noncomputable def r257 : Reg seat := .of told257 (ask2 (fun a0' a1' => isI a0' ∧ isI a1') fun a0' a1' => .fn (.bool (decide (IsN (dI a0') (dI a1'))))) (ask2_ok fun a0' a1' h => SaidOk.fn (Fun.weak (.cons (isI.weak h.1) (.cons (isI.weak h.2) .nil)) (isN_spec _ _)))
theorem r257_c : r257.c = 257 := rfl
open Classical in
theorem r257_ask (a0' a1' : AV) : r257.ask [a0', a1'] = if isI a0' ∧ isI a1' then some (Said.fn (.bool (decide (IsN (dI a0') (dI a1'))))) else none := by unfold r257 Reg.of ask2; exact ite_cl
theorem level_spec (x : Int) : Fun seat 279 [.int .i64 x] (.int .i64 (level x)) := by
  by_cases h0 : x < 0
  · have e : level x = -1 := if_neg (by omega)
    rw [e]
    refine Fun.of0R [] told279 (by simp [il279]) (by simp [idb_patchA]) (by simp [idb_patchA]) 4 ?_
    simp -implicitDefEqProofs only [il279, List.zipIdx_cons, List.zipIdx_nil, leafA, innerA, nodeA, patchA, Leaf.cells, Inner.cells, Node.cells, decide_true, decide_false, h0, go_sem, Nat.reduceEqDiff, reduceIte, Nat.reduceAdd, Nat.reduceLeDiff, Nat.reduceLT, Nat.reduceSub]
  by_cases h1 : x ≥ 127
  · have e : level x = -1 := if_neg (by omega)
    rw [e]
    refine Fun.of0R [] told279 (by simp [il279]) (by simp [idb_patchA]) (by simp [idb_patchA]) 4 ?_
    simp -implicitDefEqProofs only [il279, List.zipIdx_cons, List.zipIdx_nil, leafA, innerA, nodeA, patchA, Leaf.cells, Inner.cells, Node.cells, decide_true, decide_false, h0, h1, go_sem, Nat.reduceEqDiff, reduceIte, Nat.reduceAdd, Nat.reduceLeDiff, Nat.reduceLT, Nat.reduceSub]
  have e : level x = lev x.toNat := if_pos (by omega)
  rw [e]
  have hn : x.toNat < 127 := by omega
  have lc := lev_ctz _ hn
  have sg : (IntKind.u64.signed = true) = False := by simp [IntKind.signed]
  have bx : bits BinOp.xor IntKind.u64 IntKind.u64.max (IntKind.u64.wrap x) = ((18446744073709551615 - x.toNat : Nat) : Int) := by
    have key : ∀ n : Nat, n < 127 → bits BinOp.xor IntKind.u64 IntKind.u64.max (IntKind.u64.wrap (n : Int)) = ((18446744073709551615 - n : Nat) : Int) := by decide +kernel
    have := key _ hn
    rwa [show ((x.toNat : Nat) : Int) = x by omega] at this
  refine Fun.of0R [] told279 (by simp [il279]) (by simp [idb_patchA]) (by simp [idb_patchA]) 4 ?_
  simp -implicitDefEqProofs only [il279, List.zipIdx_cons, List.zipIdx_nil, leafA, innerA, nodeA, patchA, Leaf.cells, Inner.cells, Node.cells, decide_true, decide_false, h0, h1, sg, bx, go_sem, Nat.reduceEqDiff, reduceIte, Nat.reduceAdd, Nat.reduceLeDiff, Nat.reduceLT, Nat.reduceSub]
  refine Callee.f told281 (tz_spec _ (by omega)) ?_
  simp -implicitDefEqProofs only [leafA, innerA, nodeA, patchA, Leaf.cells, Inner.cells, Node.cells, decide_true, decide_false, lc, go_sem, Nat.reduceEqDiff, reduceIte, Nat.reduceAdd, Nat.reduceLeDiff, Nat.reduceLT, Nat.reduceSub]
noncomputable def r279 : Reg seat := .of told279 (ask1 (fun a0' => isI a0') fun a0' => .fn (.int .i64 (level (dI a0')))) (ask1_ok fun a0' h => SaidOk.fn (Fun.weak (.cons (isI.weak h) .nil) (level_spec _)))
theorem r279_c : r279.c = 279 := rfl
open Classical in
theorem r279_ask (a0' : AV) : r279.ask [a0'] = if isI a0' then some (Said.fn (.int .i64 (level (dI a0')))) else none := by unfold r279 Reg.of ask1; exact ite_cl
theorem shl1 (k : Int) (h : 0 ≤ k ∧ k ≤ 7) : evShift .shl .i64 1 k = some (.int .i64 (2 ^ k.toNat)) := by
  rcases (by omega : k = 0 ∨ k = 1 ∨ k = 2 ∨ k = 3 ∨ k = 4 ∨ k = 5 ∨ k = 6 ∨ k = 7) with rfl | rfl | rfl | rfl | rfl | rfl | rfl | rfl <;> rfl
theorem level_in {x w : Int} (h : IsN x w) : level x = lev x.toNat := if_pos h.lt
theorem par_bits {x w : Int} (h : IsN x w) : bits .andNot .i64 (bits .or .i64 x (2 ^ lev x.toNat)) (2 ^ (lev x.toNat + 1)) = (parN x.toNat : Int) := by
  have := IsN.all (p := fun y _ => bits .andNot .i64 (bits .or .i64 (y : Int) (2 ^ lev y)) (2 ^ (lev y + 1)) = (parN y : Int)) (by decide +kernel) h
  rwa [h.cast.1] at this
theorem par_spec' (x w : Int) (h : IsN x w) : Fun seat 280 [.int .i64 w, .int .i64 x] (.int .i64 (parI x w)) := by
  have hl := lev_le h
  have e := level_in h
  have hw := h.1
  unfold parI
  rw [if_pos h]
  by_cases hr : x = w / 2
  · rw [if_pos hr]
    refine Fun.of0R [r109] told280 (by simp [il280]) (by simp [idb_patchA]) (by simp [idb_patchA]) 4 ?_
    simp -implicitDefEqProofs only [il280, List.zipIdx_cons, List.zipIdx_nil, leafA, innerA, nodeA, patchA, Leaf.cells, Inner.cells, Node.cells, r109_c, r109_ask, decide_true, decide_false, hw, eq_true hr, go_sem, Nat.reduceEqDiff, reduceIte, Nat.reduceAdd, Nat.reduceLeDiff, Nat.reduceLT, Nat.reduceSub]
  · rw [if_neg hr]
    have w1 : IntKind.i64.wrap (((lev x.toNat : Nat) : Int) + 1) = ((lev x.toNat : Nat) : Int) + 1 := wrap64 _ (by omega) (by omega)
    have s1 := shl1 ((lev x.toNat : Nat) : Int) (by omega)
    have s2 := shl1 (((lev x.toNat : Nat) : Int) + 1) (by omega)
    rw [Int.toNat_natCast] at s1
    rw [show (((lev x.toNat : Nat) : Int) + 1).toNat = lev x.toNat + 1 by omega] at s2
    have pb := par_bits h
    refine Fun.of0R [r109, r279] told280 (by simp [il280]) (by simp [idb_patchA]) (by simp [idb_patchA]) 4 ?_
    simp -implicitDefEqProofs only [il280, List.zipIdx_cons, List.zipIdx_nil, leafA, innerA, nodeA, patchA, Leaf.cells, Inner.cells, Node.cells, r109_c, r109_ask, r279_c, r279_ask, decide_true, decide_false, hw, hr, e, go_sem, Nat.reduceEqDiff, reduceIte, Nat.reduceAdd, Nat.reduceLeDiff, Nat.reduceLT, Nat.reduceSub]
    refine WP.drawQ [] [.l, .l, .l, .l, .l, .l, .l, .l, .l] mixed (by decide) ?_
    simp -implicitDefEqProofs only [leafA, innerA, nodeA, patchA, Leaf.cells, Inner.cells, Node.cells, decide_true, decide_false, w1, s1, s2, pb, go_sem, Nat.reduceEqDiff, reduceIte, Nat.reduceAdd, Nat.reduceLeDiff, Nat.reduceLT, Nat.reduceSub]
noncomputable def r280 : Reg seat := .of told280 (ask2 (fun a0' a1' => isI a0' ∧ isI a1' ∧ IsN (dI a1') (dI a0')) fun a0' a1' => .fn (.int .i64 (parI (dI a1') (dI a0')))) (ask2_ok fun a0' a1' h => SaidOk.fn (Fun.weak (.cons (isI.weak h.1) (.cons (isI.weak h.2.1) .nil)) (par_spec' _ _ h.2.2)))
theorem r280_c : r280.c = 280 := rfl
open Classical in
theorem r280_ask (a0' a1' : AV) : r280.ask [a0', a1'] = if isI a0' ∧ isI a1' ∧ IsN (dI a1') (dI a0') then some (Said.fn (.int .i64 (parI (dI a1') (dI a0')))) else none := by unfold r280 Reg.of ask2; exact ite_cl
theorem parI_not {x w : Int} (h : ¬ IsN x w) : parI x w = -1 := if_neg h
theorem ofP_spec (x w : Int) : Fun seat 270 [.func (.f 280) [] [], .int .i64 x, .int .i64 w] (.int .i64 (parI x w)) := by
  by_cases h : IsN x w
  · refine Fun.of0R [r257, r280] told270 (by simp [il270]) (by simp [idb_patchA]) (by simp [idb_patchA]) 4 ?_
    simp -implicitDefEqProofs only [il270, List.zipIdx_cons, List.zipIdx_nil, leafA, innerA, nodeA, patchA, Leaf.cells, Inner.cells, Node.cells, r257_c, r257_ask, r280_c, r280_ask, decide_true, decide_false, h, go_sem, Nat.reduceEqDiff, reduceIte, Nat.reduceAdd, Nat.reduceLeDiff, Nat.reduceLT, Nat.reduceSub]
  · rw [parI_not h]
    refine Fun.of0R [r257] told270 (by simp [il270]) (by simp [idb_patchA]) (by simp [idb_patchA]) 4 ?_
    simp -implicitDefEqProofs only [il270, List.zipIdx_cons, List.zipIdx_nil, leafA, innerA, nodeA, patchA, Leaf.cells, Inner.cells, Node.cells, r257_c, r257_ask, decide_true, decide_false, h, go_sem, Nat.reduceEqDiff, reduceIte, Nat.reduceAdd, Nat.reduceLeDiff, Nat.reduceLT, Nat.reduceSub]
noncomputable def r270p : Reg seat := .of told270 (ask3 (fun a0' a1' a2' => a0' = .func (.f 280) [] [] ∧ isI a1' ∧ isI a2') fun a0' a1' a2' => .fn (.int .i64 (parI (dI a1') (dI a2')))) (ask3_ok fun a0' a1' a2' h => SaidOk.fn (Fun.weak (.cons (Weak.of_eq h.1) (.cons (isI.weak h.2.1) (.cons (isI.weak h.2.2) .nil))) (ofP_spec _ _)))
theorem r270p_c : r270p.c = 270 := rfl
open Classical in
theorem r270p_ask (a0' a1' a2' : AV) : r270p.ask [a0', a1', a2'] = if a0' = .func (.f 280) [] [] ∧ isI a1' ∧ isI a2' then some (Said.fn (.int .i64 (parI (dI a1') (dI a2')))) else none := by unfold r270p Reg.of ask3; exact ite_cl
theorem ixParent_spec (x w : Int) : Fun seat 273 [.int .i64 x, .int .i64 w] (.int .i64 (parI x w)) := by
  refine Fun.of0R [r270p] told273 (by simp [il273]) (by simp [idb_patchA]) (by simp [idb_patchA]) 4 ?_
  simp -implicitDefEqProofs only [il273, List.zipIdx_cons, List.zipIdx_nil, leafA, innerA, nodeA, patchA, Leaf.cells, Inner.cells, Node.cells, r270p_c, r270p_ask, decide_true, decide_false, go_sem, Nat.reduceEqDiff, reduceIte, Nat.reduceAdd, Nat.reduceLeDiff, Nat.reduceLT, Nat.reduceSub]
noncomputable def r273 : Reg seat := .of told273 (ask2 (fun a0' a1' => isI a0' ∧ isI a1') fun a0' a1' => .fn (.int .i64 (parI (dI a0') (dI a1')))) (ask2_ok fun a0' a1' h => SaidOk.fn (Fun.weak (.cons (isI.weak h.1) (.cons (isI.weak h.2) .nil)) (ixParent_spec _ _)))
theorem r273_c : r273.c = 273 := rfl
open Classical in
theorem r273_ask (a0' a1' : AV) : r273.ask [a0', a1'] = if isI a0' ∧ isI a1' then some (Said.fn (.int .i64 (parI (dI a0') (dI a1')))) else none := by unfold r273 Reg.of ask2; exact ite_cl
end Go.Proofs.YtihhinbjhiankaaGreatDoor.Al

set_option linter.unusedSimpArgs false
set_option linter.unusedVariables false
namespace Go.Proofs.YtihhinbjhiankaaGreatDoor.Al
open Go
variable {S : Seat}

def GivesO (S : Seat) (c : Nat) (cap : List AV) (p : Nat) (st : Entry) (xs : List (List AV)) : Prop :=
  ∀ (id : Nat) (H0 : List Entry) (J : Nat → List Entry → Prop) (Jx : List Entry → Prop), H0[p]? = some st → J 0 H0 → (∀ k H e, J k H → J k (H.set p e)) →
    (∀ k (hk : k < xs.length) H1, J k H1 → AYield S id xs[k] H1 (fun r H2 => (r = .bool true ∧ H2[p]? = H1[p]? ∧ J (k + 1) H2) ∨ (r = .bool false ∧ Jx H2))) →
    ACall S c ([.func (.y id) [] []] ++ cap) H0 (fun _ H' => J xs.length H' ∨ Jx H')

theorem WP.rangeO {N b : Nat} {Q : Exit → St → Prop} {H : List Entry} {env : Env} {g : Opd} {ps : List Nat} {assign body : IC} {c : Nat} {cap : List AV} (p : Nat) (st : Entry) (xs : List (List AV)) (hg : g.ev env = .func (.f c) [] cap) (hcb : Callable S c) (hG : GivesO S c cap p st xs)
    (hps : ∀ x ∈ xs, x.length = ps.length) (G : Nat → Entry → List Entry) (P : Nat → Prop) (hp : p < H.length) (hlen : ∀ k e, (G k e).length = H.length) (hGp : ∀ k e, (G k e)[p]? = some e) (hGs : ∀ k e e', (G k e).set p e' = G k e') (hP : P 0) (h0 : G 0 st = H)
    (hround : ∀ k (hk : k < xs.length) (e : Entry), P k → ∀ (l : Nat) (T : List Entry) (b : Nat), b = H.length + T.length → WP S (some l) N b assign (fun x s => x = .normal ∧ ∃ X, s.H = G k e ++ (T ++ X) ∧
      ∀ T', T'.length = T.length → WP S (some l) N b body (RoundQ (fun k => G k e) P H.length Q env k T') ⟨s.env, G k e ++ (T' ++ X)⟩) ⟨setPs env ps xs[k], G k e ++ T⟩)
    (hend : P xs.length → ∀ e T, Q .normal ⟨env, G xs.length e ++ T⟩) : WP S none N b (.rangeFunc g ps assign body) Q ⟨env, H⟩ := by
  refine WP.range (first := []) hg hcb fun L hy => ?_
  have getT : ∀ (A T : List Entry), A.length = H.length → (A ++ T)[H.length]? = T[0]? := fun A T h => by
    rw [List.getElem?_append_right (by omega), h, Nat.sub_self]
  have setT : ∀ (A T : List Entry) (x : Entry), A.length = H.length → (A ++ T).set H.length x = A ++ T.set 0 x := fun A T x h => by
    rw [List.set_append_right _ _ (by omega), h, Nat.sub_self]
  have getp : ∀ k e T, (G k e ++ T)[p]? = some e := fun k e T => by rw [List.getElem?_append_left (by rw [hlen]; exact hp), hGp]
  refine (hG H.length _ (fun k H1 => P k ∧ ∃ e T, H1 = G k e ++ T ∧ T[0]? = some (L .ready)) (fun H1 => ∃ j H2 T, H1 = H2 ++ T ∧ H2.length = H.length ∧ T[0]? = some (L (.done j)) ∧ ∀ T3, Q j.leave ⟨env, H2 ++ T3⟩) ?_ ⟨hP, st, [L .ready], by rw [h0], rfl⟩ ?_ ?_).mono ?_
  · rw [← h0]; exact getp 0 st _
  · rintro k _ e' ⟨a, e, T, rfl, hT⟩
    exact ⟨a, e', T, by rw [List.set_append_left _ _ (by rw [hlen]; exact hp), hGs], hT⟩
  · rintro k hk H1 ⟨hpk, e, T, rfl, hT⟩
    have hT0 : 0 < T.length := lt_of_get hT
    refine hy _ _ _ ⟨by rw [getT _ _ (hlen k e)]; exact hT, hps _ (List.getElem_mem hk), fun l => ?_⟩
    refine WP.mono (hround k hk e hpk l T _ (by simp [hlen])) ?_
    rintro x s ⟨rfl, X, hH, hbody⟩
    have hTX : (T ++ X)[0]? = T[0]? := List.getElem?_append_left hT0
    have hTS : ∀ x, (T ++ X).set 0 x = T.set 0 x ++ X := fun x => by rw [List.set_append_left _ _ hT0]
    refine ⟨rfl, by rw [hH, getT _ _ (hlen k e), hTX]; exact hT, ?_⟩
    rw [hH, setT _ _ _ (hlen k e), hTS]
    have hb := hbody (T.set 0 (L .busy)) (by simp)
    refine WP.mono hb ?_
    rintro e' st' ⟨H2, T2, h1, h2, h3, h4⟩
    have hbz : T2[0]? = some (L .busy) := by
      rw [h3 0 (by simpa using hT0), List.getElem?_set_self hT0]
    refine ⟨by rw [h1, getT _ _ h2]; exact hbz, ?_⟩
    have hl2 := lt_of_get hbz
    cases e' with
    | normal =>
      obtain ⟨h5, rfl⟩ := h4
      exact .inl ⟨rfl, by rw [h1, setT _ _ _ h2, getp, getp], h5, e, T2.set 0 (L .ready), by rw [h1, setT _ _ _ h2], List.getElem?_set_self hl2⟩
    | _ =>
      obtain ⟨j, h5, h6⟩ := h4
      exact ⟨j, h5, .inr ⟨rfl, j, H2, T2.set 0 (L (.done j)), by rw [h1, setT _ _ _ h2], h2, List.getElem?_set_self hl2, h6⟩⟩
  · rintro r H' (⟨hpe, e, T, rfl, hT⟩ | ⟨j, H2, T, rfl, h2, hT, hq⟩)
    · refine .inl ⟨by rw [getT _ _ (hlen _ _)]; exact hT, ?_⟩
      rw [setT _ _ _ (hlen _ _)]
      exact hend hpe _ _
    · refine .inr ⟨j, by rw [getT _ _ h2]; exact hT, ?_⟩
      rw [setT _ _ _ h2]
      exact hq _

end Go.Proofs.YtihhinbjhiankaaGreatDoor.Al

set_option linter.unusedSimpArgs false
set_option linter.unusedVariables false
namespace Go.Proofs.YtihhinbjhiankaaGreatDoor.Al
open Go
attribute [local go_sem] W_mv W_pick W_alloc W_box W_build W_bslice W_load W_store W_bin W_isnil W_un W_convI W_convS W_mkiface W_mkfunc W_slice W_faddr W_iaddr W_idxA W_extract W_len W_min W_max W_append thenQ_normal thenQ_exit thenQ_ret blockQ_normal blockQ_ret blockQ_exit wpc_skip wpc_region wpc_draw wpc_seq wpc_cond wpc_block wpc_exit wpc_ret wpc_loop wpc_range condW_true condW_false condW_dec condW_any W_nil W_call resW_some evalOp Opd.ev updo_envL updo_none setL_cons setL_nil envL_cons Option.map_some Option.bind_some evBin evInt List.map_cons List.map_nil Option.pure_def Option.bind_eq_bind W_grd' grdW_tt grdW_ff grdW_tf grdW_ft grdW_tup grdW_dt grdW_df L_mv L_load L_bin L_un L_faddr L_iaddr L_nil L_call lresW_some upd_envL evUn beq_dec bne_dec leaves_ret1 leaves_ret0 leaves_end0 rowLen_ints load_iptr0 not_dec heap_get0 heap_get1 heap_set0 heap_set1 heap_len1 heap_app bslice1_int seen_one0 Nat.sub_zero Bool.not_true Bool.not_false List.length_nil List.length_cons List.nil_append List.cons_append Nat.zero_add canon_ptrI canon_bool canon_tup canon_agg canon_ints' canon_ints0 rowLen_octs seen_octs canon_octs' rowLen_nodes canon_nodes' rowLen_nodes0 rowLen_nodes3 seen_list cells_int oneIn_int cells_bool oneIn_bool cells_list oneIn_list cells_func oneIn_func cells_own cells_ptr cells_agg oneIn_own0 oneIn_own1 seenL1 seenM1 oneIn_ptr2 seenL2 oneIn_own3 seenL3 cells_ints oneIn_ints cells_octs oneIn_octs cells_nodes oneIn_nodes ldB0 ldA0 adB0 stB0 ldB1 ldA1 adB1 stB1 ldB2 ldA2 adB2 stB2 ldB3 stB3 List.getElem?_cons_zero List.getElem?_cons_succ beq_self_eq_true splice List.take_zero List.take_succ_cons List.drop_zero List.drop_succ_cons List.append_nil List.set_cons_zero List.set_cons_succ List.all_cons List.all_nil Bool.and_self and_self and_true true_and Nat.lt_irrefl Nat.zero_lt_one Nat.le_refl fillA evNil notA Bool.false_eq_true evMin_int evMax_int Option.map_none freezeP_all_nil freezeP_all_cons frzE_box frzE_arr foldA List.foldlM_cons List.foldlM_nil callW_f lcallW_f ansW_fn ansW_own lansW_fn ansW_none tab_cons tab_nil dI_int dB_bool dO_octs dO_ints dO_list dO_nil dN_nodeA dLf_agg dIn_agg dN_agg dNs_nodes dNs_nil isI_int isB_bool isO_octs isO_nil isO_list isS_ints isS_nil isNs_nodes isNs_nil isN_nodeA isLf_agg isIn_agg isN_agg leaf_eta inner_eta node_eta leaf_zero inner_zero decide_eq_true_eq decide_eq_false_iff_not eq_self forall_const true_implies false_implies Bool.not_eq_true' Bool.not_eq_false' Bool.true_eq_false implies_true ne_eq ldI ldIA adI AV.tup.injEq AV.agg.injEq List.cons.injEq AV.int.injEq AV.bool.injEq nodes_inj octs_inj ints_inj nil_nodes nil_octs nil_ints canon_nilL decide_eq_decide two_ne four_ne b256_ne lendA_own lendA_none isO_own false_and and_false Q_nil Q_l Q_g Q_h Q_grd qgrdW_b lightD_some heavyD_some readD_some fnD_some callL_f Q_call pendOk_nil pendOk_cons pastOk_nil Q_mv Q_pick Q_bin Q_extract Q_min Q_load Q_slice Q_len H_store free_mv free_pick free_bin free_extract free_min free_load free_slice free_len callW_y List.length_map List.length_set leaves_r evR_some evRess1 evRess2 evRess3 evRes_t evRes_c nz_kind nz_enc nz_cred nz_source nz_parent nz_ienc nz_hash nz_un true_or or_true bsl_node appI appO canon_rowI canon_rowO not_false_eq_true not_true_eq_false ldE_a ldE_c adE_b stE_b onP_b
attribute [local go_sem low] condW_b ldP adP stP onO
attribute [local simp] envL_cons envL_nil idb_int idb_bool idb_ints idb_nil idb_own idb_ptr idb_octs idb_nodes idb_leafA idb_innerA idb_nodeA idb_agg idb_tup idb_iptr idb_fn entB_dead entB_box
theorem up_spec (x w : Int) (H : List Entry) : ACall seat 266 [.int .i64 x, .int .i64 w] H (fun r H' => r = .func (.f 277) [] [.ptr H.length 0, .iptr [.int .i64 w] 0] ∧ H' = H ++ [.box [.int .i64 x], .dead]) := by
  refine ACall.of_wp told266 (by simp [il266]) ?_
  rw [start_env]
  simp only [il266, List.zipIdx_cons, List.zipIdx_nil, Nat.zero_add]
  refine WP.seqR [] fun K hK => ?_
  simp -implicitDefEqProofs only [leafA, innerA, nodeA, patchA, Leaf.cells, Inner.cells, Node.cells, decide_true, decide_false, go_sem, Nat.reduceEqDiff, reduceIte, Nat.reduceAdd, Nat.reduceLeDiff, Nat.reduceLT, Nat.reduceSub]
  refine hK _ (WP.sealB 3 (H.length + 1) (cs := [.int .i64 w]) rfl (by simp) ?_)
  clear hK K
  refine wpc_soundR [] ?_
  simp -implicitDefEqProofs only [leafA, innerA, nodeA, patchA, Leaf.cells, Inner.cells, Node.cells, decide_true, decide_false, go_sem, Nat.reduceEqDiff, reduceIte, Nat.reduceAdd, Nat.reduceLeDiff, Nat.reduceLT, Nat.reduceSub]
theorem up1_gives (x w : Int) (p : Nat) : GivesO seat 277 [.ptr p 0, .iptr [.int .i64 w] 0] p (.box [.int .i64 x]) ((ups x w).map fun y => [.int .i64 y]) := by
  intro id H0 J Jx hst h0 hset hround
  refine ACall.of_wp told277 (by simp [il277]) ?_
  rw [start_env]
  simp only [il277, List.zipIdx_cons, List.zipIdx_nil, Nat.zero_add, List.cons_append, List.nil_append]
  refine wpc_soundR [r257] ?_
  by_cases hx : IsN x w
  rotate_left
  · simp -implicitDefEqProofs only [leafA, innerA, nodeA, patchA, Leaf.cells, Inner.cells, Node.cells, r257_c, r257_ask, decide_true, decide_false, load_box hst, hx, go_sem, Nat.reduceEqDiff, reduceIte, Nat.reduceAdd, Nat.reduceLeDiff, Nat.reduceLT, Nat.reduceSub]
    exact .inl (by rw [ups_not hx]; exact h0)
  simp -implicitDefEqProofs only [leafA, innerA, nodeA, patchA, Leaf.cells, Inner.cells, Node.cells, r257_c, r257_ask, decide_true, decide_false, load_box hst, hx, go_sem, Nat.reduceEqDiff, reduceIte, Nat.reduceAdd, Nat.reduceLeDiff, Nat.reduceLT, Nat.reduceSub]
  refine WP.loopJ (fun _ : Nat => [(0, .func (.y id) [] []), (1, .ptr p 0), (2, .iptr [.int .i64 w] 0)]) (fun k H => k ≤ (ups x w).length ∧ J k H ∧ ∃ v, H[p]? = some (.box [.int .i64 v]) ∧ ups v w = (ups x w).drop k ∧ (IsN v w ∨ v < 0)) (fun k => (ups x w).length - k) 0 (by simp ) ⟨Nat.zero_le _, h0, x, hst, rfl, .inl hx⟩ ?_
  rintro k H ⟨hk, hj, v, hp, hv, hd⟩
  refine wpc_soundR [r257, r273] ?_
  by_cases hvi : IsN v w
  rotate_left
  · have hv0 : v < 0 := hd.resolve_left hvi
    have hv1 : ¬ v ≥ 0 := by omega
    have hke : k = (ups x w).length := by
      rw [ups_not hvi] at hv
      have := congrArg List.length hv
      simp only [List.length_nil, List.length_drop] at this
      omega
    subst hke
    simp -implicitDefEqProofs only [leafA, innerA, nodeA, patchA, Leaf.cells, Inner.cells, Node.cells, r257_c, r257_ask, r273_c, r273_ask, decide_true, decide_false, load_box hp, hv1, go_sem, Nat.reduceEqDiff, reduceIte, Nat.reduceAdd, Nat.reduceLeDiff, Nat.reduceLT, Nat.reduceSub]
    exact .inl hj
  · have hv1 : v ≥ 0 := hvi.2.1
    have hs := ups_step hvi
    rw [hs] at hv
    have hk' : k < (ups x w).length := by
      have := congrArg List.length hv
      simp only [List.length_cons, List.length_drop] at this
      omega
    rw [List.drop_eq_getElem_cons hk'] at hv
    obtain ⟨e1, e2⟩ := List.cons.inj hv
    have hr := hround k (by simpa using hk') H hj
    rw [List.getElem_map, ← e1] at hr
    simp -implicitDefEqProofs only [leafA, innerA, nodeA, patchA, Leaf.cells, Inner.cells, Node.cells, r257_c, r257_ask, r273_c, r273_ask, decide_true, decide_false, load_box hp, hv1, go_sem, Nat.reduceEqDiff, reduceIte, Nat.reduceAdd, Nat.reduceLeDiff, Nat.reduceLT, Nat.reduceSub]
    refine Callee.yld hr ?_
    rintro r H' (⟨rfl, hp', hj'⟩ | ⟨rfl, hx'⟩)
    · rw [hp] at hp'
      simp -implicitDefEqProofs only [leafA, innerA, nodeA, patchA, Leaf.cells, Inner.cells, Node.cells, r257_c, r257_ask, r273_c, r273_ask, decide_true, decide_false, hp', go_sem, Nat.reduceEqDiff, reduceIte, Nat.reduceAdd, Nat.reduceLeDiff, Nat.reduceLT, Nat.reduceSub]
      refine ⟨k + 1, ⟨hk', hset _ _ _ hj', parI v w, List.getElem?_set_self (lt_of_get hp'), e2, ?_⟩, by omega, by simp ⟩
      by_cases hpn : IsN (parI v w) w
      · exact .inl hpn
      · exact .inr (parI_neg hpn)
    · simp -implicitDefEqProofs only [leafA, innerA, nodeA, patchA, Leaf.cells, Inner.cells, Node.cells, r257_c, r257_ask, r273_c, r273_ask, decide_true, decide_false, hx', or_true, go_sem, Nat.reduceEqDiff, reduceIte, Nat.reduceAdd, Nat.reduceLeDiff, Nat.reduceLT, Nat.reduceSub]
end Go.Proofs.YtihhinbjhiankaaGreatDoor.Al

set_option linter.unusedSimpArgs false
set_option linter.unusedVariables false
namespace Go.Proofs.YtihhinbjhiankaaGreatDoor.Al
open Go
attribute [local go_sem] W_mv W_pick W_alloc W_box W_build W_bslice W_load W_store W_bin W_isnil W_un W_convI W_convS W_mkiface W_mkfunc W_slice W_faddr W_iaddr W_idxA W_extract W_len W_min W_max W_append thenQ_normal thenQ_exit thenQ_ret blockQ_normal blockQ_ret blockQ_exit wpc_skip wpc_region wpc_draw wpc_seq wpc_cond wpc_block wpc_exit wpc_ret wpc_loop wpc_range condW_true condW_false condW_dec condW_any W_nil W_call resW_some evalOp Opd.ev updo_envL updo_none setL_cons setL_nil envL_cons Option.map_some Option.bind_some evBin evInt List.map_cons List.map_nil Option.pure_def Option.bind_eq_bind W_grd' grdW_tt grdW_ff grdW_tf grdW_ft grdW_tup grdW_dt grdW_df L_mv L_load L_bin L_un L_faddr L_iaddr L_nil L_call lresW_some upd_envL evUn beq_dec bne_dec leaves_ret1 leaves_ret0 leaves_end0 rowLen_ints load_iptr0 not_dec heap_get0 heap_get1 heap_set0 heap_set1 heap_len1 heap_app bslice1_int seen_one0 Nat.sub_zero Bool.not_true Bool.not_false List.length_nil List.length_cons List.nil_append List.cons_append Nat.zero_add canon_ptrI canon_bool canon_tup canon_agg canon_ints' canon_ints0 rowLen_octs seen_octs canon_octs' rowLen_nodes canon_nodes' rowLen_nodes0 rowLen_nodes3
def SeqO (e : Entry) (l : List Int) (k : Nat) (G : List Entry) : Prop :=
  G[3]? = some e ∧ ((k = 0 ∧ G[2]? = some (.box [.list true []])) ∨ ∃ rid v, 4 ≤ rid ∧ G[2]? = some (.box [.own rid v 0 k]) ∧ G[rid]? = some (.arr 1 v ((l.take k).map (AV.int .i64))))

theorem appendSeqO_spec (l : List Int) (hl : l.length ≤ 4294967295) (c : Nat) (f : IFn) (hc : trFn seat c = some f) (cap : List AV) (st e0 : Entry) (hg : GivesO seat c cap 0 st (l.map fun y => [.int .i64 y])) :
    ACall seat 47 [.list true [], .func (.f c) [] cap] [st, e0] (fun r H' => (l = [] ∧ r = .list true []) ∨ ∃ rid v, r = .own rid v 0 l.length ∧ H'[rid]? = some (.arr 1 v (l.map (AV.int .i64)))) := by
  refine ACall.of_wp told47 (by simp [il47]) (wpc_sound ?_)
  rw [start_env]
  simp only [il47, List.zipIdx_cons, List.zipIdx_nil, Nat.zero_add, go_sem, Nat.reduceEqDiff, reduceIte, Nat.reduceAdd, AV.cells, List.all_cons, List.all_nil, AV.oneIn, Bool.and_self, List.length_nil, List.nil_append]
  refine WP.range (c := c) (first := []) (captured := cap) (by simp only [go_sem, Nat.reduceEqDiff, reduceIte, Nat.reduceAdd]) (Callable.of hc) (fun L hy => ?_)
  simp only [List.nil_append, List.cons_append, List.length_cons, List.length_nil, Nat.zero_add] at hy ⊢
  refine (hg 3 _ (SeqO (L .ready) l) (fun _ => False) rfl ⟨rfl, .inl ⟨rfl, rfl⟩⟩ ?_ ?_).mono ?_
  · rintro k H e ⟨j2, j3⟩
    have hne : ∀ j, j ≠ 0 → (H.set 0 e)[j]? = H[j]? := fun j hj => List.getElem?_set_ne (Ne.symm hj)
    refine ⟨by rw [hne _ (by omega)]; exact j2, ?_⟩
    rcases j3 with ⟨a, j3⟩ | ⟨rid, v, j3, j4, j5⟩
    · exact .inl ⟨a, by rw [hne _ (by omega)]; exact j3⟩
    · exact .inr ⟨rid, v, j3, by rw [hne _ (by omega)]; exact j4, by rw [hne _ (by omega)]; exact j5⟩
  · rintro k hk H1 ⟨j2, j3⟩
    have hk : k < l.length := by simpa using hk
    rw [List.getElem_map]
    refine hy _ _ _ ⟨j2, rfl, fun lp => wpc_sound ?_⟩
    simp only [go_sem, Nat.reduceEqDiff, reduceIte, Nat.reduceAdd, setPs]
    refine ⟨trivial, j2, wpc_sound ?_⟩
    have hn1 : 3 < H1.length := lt_of_get j2
    have hne : ∀ j, j ≠ 3 → (H1.set 3 (L .busy))[j]? = H1[j]? := fun j hj => List.getElem?_set_ne (Ne.symm hj)
    have hbz : (H1.set 3 (L .busy))[3]? = some (L .busy) := List.getElem?_set_self hn1
    have hlen : (H1.set 3 (L .busy)).length = H1.length := by simp
    have hz : (H1.set 3 (L .busy))[0]? = H1[0]? := hne 0 (by omega)
    rcases j3 with ⟨rfl, j3⟩ | ⟨rid, v, j3, j4, j5⟩
    · have g1 : (H1.set 3 (L .busy))[2]? = some (.box [.list true []]) := by rw [hne _ (by omega)]; exact j3
      generalize (H1.set 3 (L .busy)) = G at hne hbz hlen g1 hz
      simp only [load_box g1, go_sem, Nat.reduceEqDiff, reduceIte, Nat.reduceAdd]
      have hgl1 : 3 < G.length := lt_of_get hbz
      have e1 : (G ++ [Entry.arr 1 0 [AV.int .i64 l[0]]] ++ [Entry.arr 1 0 [AV.int .i64 l[0]]])[2]? = some (.box [.list true []]) := by
        rw [List.append_assoc, List.getElem?_append_left (by omega)]; exact g1
      have e2 : (G ++ [Entry.arr 1 0 [AV.int .i64 l[0]]] ++ [Entry.arr 1 0 [AV.int .i64 l[0]]])[(G ++ [Entry.arr 1 0 [AV.int .i64 l[0]]]).length]? = some (.arr 1 0 [AV.int .i64 l[0]]) := by simp
      rw [app_nil_int]
      simp only [resW_some, W_store, evalOp, Opd.ev, updo_envL, setL_cons, setL_nil, envL_cons, Nat.reduceEqDiff, reduceIte, store_box e1 rfl (own_one e2), Option.map_some, updo_none, W_nil, blockQ_normal]
      generalize hm : (G ++ [Entry.arr 1 0 [AV.int .i64 l[0]]] ++ [Entry.arr 1 0 [AV.int .i64 l[0]]]) = M at e1 e2 ⊢
      generalize hrid : (G ++ [Entry.arr 1 0 [AV.int .i64 l[0]]]).length = rid at e2 ⊢
      have hlow : ∀ j, j < G.length → M[j]? = G[j]? := fun j hj => by rw [← hm, List.append_assoc, List.getElem?_append_left hj]
      have hr2 : 4 ≤ rid := by rw [← hrid]; simp; omega
      have hML : rid < M.length := lt_of_get e2
      refine ⟨by rw [List.getElem?_set_ne (by omega), hlow _ hgl1]; exact hbz, .inl ⟨trivial, ?_, ?_, .inr ⟨rid, 0, hr2, ?_, ?_⟩⟩⟩
      · rw [List.getElem?_set_ne (by omega), List.getElem?_set_ne (by omega), hlow _ (by omega), hz]
      · rw [List.getElem?_set_self (by simp; omega)]
      · rw [List.getElem?_set_ne (by omega), List.getElem?_set_self (by omega)]
      · rw [List.getElem?_set_ne (by omega), List.getElem?_set_ne (by omega), e2]
        simp [List.take_succ_eq_append_getElem hk]
    · have hrn : rid ≠ 3 := by omega
      have g1 : (H1.set 3 (L .busy))[2]? = some (.box [.own rid v 0 k]) := by rw [hne _ (by omega)]; exact j4
      have g2 : (H1.set 3 (L .busy))[rid]? = some (.arr 1 v ((l.take k).map (AV.int .i64))) := by rw [hne _ hrn]; exact j5
      generalize (H1.set 3 (L .busy)) = G at hne hbz hlen g1 g2 hz
      have hgl1 : 3 < G.length := lt_of_get hbz
      have hgr : rid < G.length := lt_of_get g2
      have g3 : (G ++ [Entry.arr 1 0 [AV.int .i64 l[k]]])[rid]? = some (.arr 1 v ((l.take k).map (AV.int .i64))) := by rw [List.getElem?_append_left hgr]; exact g2
      have happ := app_own (n := k) (ys := [AV.int .i64 l[k]]) (bytes := 8) g3 (by simp; omega) (by unfold maxRow; simp; omega) (by decide) (by decide) (by simp) (by simp [szOk, AV.cells, AV.oneIn])
      have htk : ((l.take k).map (AV.int .i64)).take k ++ [AV.int .i64 l[k]] = (l.take (k + 1)).map (AV.int .i64) := by
        rw [List.take_of_length_le (by simp; omega), List.take_succ_eq_append_getElem hk, List.map_append, List.map_take]; rfl
      rw [htk] at happ
      have hsn : seen (G ++ [Entry.arr 1 0 [AV.int .i64 l[k]]]) (.own G.length 0 0 1) = some [AV.int .i64 l[k]] := by simp [seen]
      simp only [load_box g1, hsn, go_sem, Nat.reduceEqDiff, reduceIte, Nat.reduceAdd, happ]
      generalize hm : ((G ++ [Entry.arr 1 0 [AV.int .i64 l[k]]]).set rid (.arr 1 (v + 1) ((l.take (k + 1)).map (AV.int .i64)))) = M
      have hlow : ∀ j, j < G.length → j ≠ rid → M[j]? = G[j]? := fun j hj hjr => by rw [← hm, List.getElem?_set_ne (Ne.symm hjr), List.getElem?_append_left hj]
      have e2 : M[rid]? = some (.arr 1 (v + 1) ((l.take (k + 1)).map (AV.int .i64))) := by rw [← hm, List.getElem?_set_self (by simp; omega)]
      have e1 : M[2]? = some (.box [.own rid v 0 k]) := by rw [hlow _ (by omega) (by omega)]; exact g1
      have hML : rid < M.length := lt_of_get e2
      have hML1 : G.length < M.length := by rw [← hm]; simp
      simp only [resW_some, W_store, evalOp, Opd.ev, updo_envL, setL_cons, setL_nil, envL_cons, Nat.reduceEqDiff, reduceIte, store_box e1 rfl (own_one e2), Option.map_some, updo_none, W_nil, blockQ_normal]
      refine ⟨by rw [List.getElem?_set_ne (by omega), hlow _ hgl1 (by omega)]; exact hbz, .inl ⟨trivial, ?_, ?_, .inr ⟨rid, v + 1, j3, ?_, ?_⟩⟩⟩
      · rw [List.getElem?_set_ne (by omega), List.getElem?_set_ne (by omega), hlow _ (by omega) (by omega), hz]
      · rw [List.getElem?_set_self (by simp; omega)]
      · rw [List.getElem?_set_ne (by omega), List.getElem?_set_self (by omega)]
      · rw [List.getElem?_set_ne (by omega), List.getElem?_set_ne (by omega), e2]
  · rintro r H' (⟨j2, j3⟩ | hf)
    · left
      refine ⟨j2, ?_⟩
      have hne : ∀ j, j ≠ 3 → (H'.set 3 .dead)[j]? = H'[j]? := fun j hj => List.getElem?_set_ne (Ne.symm hj)
      rw [List.length_map] at j3
      rcases j3 with ⟨h0, j3⟩ | ⟨rid, v, j3, j4, j5⟩
      · have hl0 : l = [] := List.eq_nil_of_length_eq_zero h0
        subst hl0
        have g1 : (H'.set 3 .dead)[2]? = some (.box [.list true []]) := by rw [hne _ (by omega)]; exact j3
        simp only [go_sem, Nat.reduceEqDiff, reduceIte, Nat.reduceAdd, load_box g1]
        exact .inl ⟨trivial, trivial⟩
      · have g1 : (H'.set 3 .dead)[2]? = some (.box [.own rid v 0 l.length]) := by rw [hne _ (by omega)]; exact j4
        have g2 : (H'.set 3 .dead)[rid]? = some (.arr 1 v ((l.take l.length).map (AV.int .i64))) := by rw [hne _ (by omega)]; exact j5
        rw [List.take_length] at g2
        simp only [go_sem, Nat.reduceEqDiff, reduceIte, Nat.reduceAdd, load_box g1]
        exact .inr ⟨rid, v, rfl, g2⟩
    · exact hf.elim

theorem collectO_spec (l : List Int) (hl : l.length ≤ 4294967295) (c : Nat) (f : IFn) (hc : trFn seat c = some f) (cap : List AV) (st e0 : Entry) (hg : GivesO seat c cap 0 st (l.map fun y => [.int .i64 y])) :
    ACall seat 40 [.func (.f c) [] cap] [st, e0] (fun r H' => (l = [] ∧ r = .list true []) ∨ ∃ rid v, r = .own rid v 0 l.length ∧ H'[rid]? = some (.arr 1 v (l.map (AV.int .i64)))) := by
  refine ACall.of_wp told40 (by simp [il40]) (wpc_sound ?_)
  rw [start_env]
  simp only [il40, List.zipIdx_cons, List.zipIdx_nil, Nat.zero_add, go_sem, Nat.reduceEqDiff, reduceIte, Nat.reduceAdd]
  refine Callee.plain (Callable.of told47) (appendSeqO_spec l hl c f hc cap st e0 hg) ?_
  rintro r H' hr
  simp only [go_sem, Nat.reduceEqDiff, reduceIte, Nat.reduceAdd]
  exact hr

end Go.Proofs.YtihhinbjhiankaaGreatDoor.Al

set_option linter.unusedSimpArgs false
set_option linter.unusedVariables false
namespace Go.Proofs.YtihhinbjhiankaaGreatDoor.Al
open Go
attribute [local go_sem] W_mv W_pick W_alloc W_box W_build W_bslice W_load W_store W_bin W_isnil W_un W_convI W_convS W_mkiface W_mkfunc W_slice W_faddr W_iaddr W_idxA W_extract W_len W_min W_max W_append thenQ_normal thenQ_exit thenQ_ret blockQ_normal blockQ_ret blockQ_exit wpc_skip wpc_region wpc_draw wpc_seq wpc_cond wpc_block wpc_exit wpc_ret wpc_loop wpc_range condW_true condW_false condW_dec condW_any W_nil W_call resW_some evalOp Opd.ev updo_envL updo_none setL_cons setL_nil envL_cons Option.map_some Option.bind_some evBin evInt List.map_cons List.map_nil Option.pure_def Option.bind_eq_bind W_grd' grdW_tt grdW_ff grdW_tf grdW_ft grdW_tup grdW_dt grdW_df L_mv L_load L_bin L_un L_faddr L_iaddr L_nil L_call lresW_some upd_envL evUn beq_dec bne_dec leaves_ret1 leaves_ret0 leaves_end0 rowLen_ints load_iptr0 not_dec heap_get0 heap_get1 heap_set0 heap_set1 heap_len1 heap_app bslice1_int seen_one0 Nat.sub_zero Bool.not_true Bool.not_false List.length_nil List.length_cons List.nil_append List.cons_append Nat.zero_add canon_ptrI canon_bool canon_tup canon_agg canon_ints' canon_ints0 rowLen_octs seen_octs canon_octs' rowLen_nodes canon_nodes' rowLen_nodes0 rowLen_nodes3 seen_list cells_int oneIn_int cells_bool oneIn_bool cells_list oneIn_list cells_func oneIn_func cells_own cells_ptr cells_agg oneIn_own0 oneIn_own1 seenL1 seenM1 oneIn_ptr2 seenL2 oneIn_own3 seenL3 cells_ints oneIn_ints cells_octs oneIn_octs cells_nodes oneIn_nodes ldB0 ldA0 adB0 stB0 ldB1 ldA1 adB1 stB1 ldB2 ldA2 adB2 stB2 ldB3 stB3 List.getElem?_cons_zero List.getElem?_cons_succ beq_self_eq_true splice List.take_zero List.take_succ_cons List.drop_zero List.drop_succ_cons List.append_nil List.set_cons_zero List.set_cons_succ List.all_cons List.all_nil Bool.and_self and_self and_true true_and Nat.lt_irrefl Nat.zero_lt_one Nat.le_refl fillA evNil notA Bool.false_eq_true evMin_int evMax_int Option.map_none freezeP_all_nil freezeP_all_cons frzE_box frzE_arr foldA List.foldlM_cons List.foldlM_nil callW_f lcallW_f ansW_fn ansW_own lansW_fn ansW_none tab_cons tab_nil dI_int dB_bool dO_octs dO_ints dO_list dO_nil dN_nodeA dLf_agg dIn_agg dN_agg dNs_nodes dNs_nil isI_int isB_bool isO_octs isO_nil isO_list isS_ints isS_nil isNs_nodes isNs_nil isN_nodeA isLf_agg isIn_agg isN_agg leaf_eta inner_eta node_eta leaf_zero inner_zero decide_eq_true_eq decide_eq_false_iff_not eq_self forall_const true_implies false_implies Bool.not_eq_true' Bool.not_eq_false' Bool.true_eq_false implies_true ne_eq ldI ldIA adI AV.tup.injEq AV.agg.injEq List.cons.injEq AV.int.injEq AV.bool.injEq nodes_inj octs_inj ints_inj nil_nodes nil_octs nil_ints canon_nilL decide_eq_decide two_ne four_ne b256_ne lendA_own lendA_none isO_own false_and and_false Q_nil Q_l Q_g Q_h Q_grd qgrdW_b lightD_some heavyD_some readD_some fnD_some callL_f Q_call pendOk_nil pendOk_cons pastOk_nil Q_mv Q_pick Q_bin Q_extract Q_min Q_load Q_slice Q_len H_store free_mv free_pick free_bin free_extract free_min free_load free_slice free_len callW_y List.length_map List.length_set leaves_r evR_some evRess1 evRess2 evRess3 evRes_t evRes_c nz_kind nz_enc nz_cred nz_source nz_parent nz_ienc nz_hash nz_un true_or or_true bsl_node appI appO canon_rowI canon_rowO not_false_eq_true not_true_eq_false ldE_a ldE_c adE_b stE_b onP_b
attribute [local go_sem low] condW_b ldP adP stP onO
attribute [local simp] envL_cons envL_nil idb_int idb_bool idb_ints idb_nil idb_own idb_ptr idb_octs idb_nodes idb_leafA idb_innerA idb_nodeA idb_agg idb_tup idb_iptr idb_fn entB_dead entB_box
theorem slice_own {H : List Entry} {rid v : Nat} {l : List Int} (hr : H[rid]? = some (.arr 1 v (l.map (AV.int .i64)))) (m : Nat) (hm : m ≤ l.length) : evSlice H 1 (.own rid v 0 l.length) (some (.int .i64 m)) none none = some (.own rid v m l.length) := by
  simp [evSlice, hr, evBound, hm]
theorem canon_own {H : List Entry} {rid v : Nat} {l : List Int} (hr : H[rid]? = some (.arr 1 v (l.map (AV.int .i64)))) (m : Nat) : canon H 4 (.own rid v m l.length) = ints (l.drop m) := by
  have h2 : (freezeP all H)[rid]? = some (.frz 1 v (l.map (AV.int .i64))) := by rw [freezeP_get, hr]; rfl
  simp only [canon, derefN, h2, List.length_map, Nat.le_refl, and_self, if_true, ints]
  rw [List.take_of_length_le (by simp), ← List.map_drop, List.map_map]
  rfl
theorem z00 : ((0 : Nat) : Int) = 0 := rfl
theorem lt01 : ((0 : Int) < 1) = True := eq_true (by decide)
theorem direct_spec (x w : Int) : Fun seat 263 [.int .i64 x, .int .i64 w] (ints (directI x w)) := by
  have hl := ups_len x w
  refine Fun.of0W told263 (by simp [il263]) (by simp ) (by simp ) 4 ?_
  simp only [il263, List.zipIdx_cons, List.zipIdx_nil, Nat.zero_add]
  refine wpc_soundR [] ?_
  simp -implicitDefEqProofs only [leafA, innerA, nodeA, patchA, Leaf.cells, Inner.cells, Node.cells, decide_true, decide_false, go_sem, Nat.reduceEqDiff, reduceIte, Nat.reduceAdd, Nat.reduceLeDiff, Nat.reduceLT, Nat.reduceSub]
  refine Callee.plain (Callable.of told266) (up_spec x w []) ?_
  rintro _ _ ⟨rfl, rfl⟩
  simp -implicitDefEqProofs only [leafA, innerA, nodeA, patchA, Leaf.cells, Inner.cells, Node.cells, decide_true, decide_false, List.nil_append, List.length_nil, go_sem, Nat.reduceEqDiff, reduceIte, Nat.reduceAdd, Nat.reduceLeDiff, Nat.reduceLT, Nat.reduceSub]
  refine Callee.plain (Callable.of told40) (collectO_spec (ups x w) (by omega) 277 il277 told277 _ _ _ (up1_gives x w 0)) ?_
  rintro r H' (⟨he, rfl⟩ | ⟨rid, v, rfl, hr⟩)
  · have l0 : rowLen H' (.list true []) = some 0 := rfl
    have d0 : directI x w = [] := by unfold directI; rw [he]; rfl
    have s0 : evSlice H' 1 (.list true []) (some (.int .i64 0)) none none = some (.list true []) := rfl
    rw [d0]
    simp -implicitDefEqProofs only [leafA, innerA, nodeA, patchA, Leaf.cells, Inner.cells, Node.cells, decide_true, decide_false, l0, Option.bind_some, evMin_int, z00, lt01, s0, go_sem, Nat.reduceEqDiff, reduceIte, Nat.reduceAdd, Nat.reduceLeDiff, Nat.reduceLT, Nat.reduceSub]
  · have l0 : rowLen H' (.own rid v 0 (ups x w).length) = some (ups x w).length := by simp [rowLen, own_one hr]
    by_cases hn : (ups x w).length = 0
    · have hd : directI x w = (ups x w).drop 0 := by unfold directI; rw [List.eq_nil_of_length_eq_zero hn]; rfl
      have s0 : evSlice H' 1 (.own rid v 0 (ups x w).length) (some (.int .i64 0)) none none = some (.own rid v 0 (ups x w).length) := slice_own hr 0 (Nat.zero_le _)
      have n0 : ((ups x w).length : Int) = 0 := by omega
      rw [hd]
      simp -implicitDefEqProofs only [leafA, innerA, nodeA, patchA, Leaf.cells, Inner.cells, Node.cells, decide_true, decide_false, l0, Option.bind_some, evMin_int, n0, lt01, s0, go_sem, Nat.reduceEqDiff, reduceIte, Nat.reduceAdd, Nat.reduceLeDiff, Nat.reduceLT, Nat.reduceSub]
      exact canon_own hr 0
    · have hd : directI x w = (ups x w).drop 1 := by unfold directI; rw [List.drop_one]
      have s0 : evSlice H' 1 (.own rid v 0 (ups x w).length) (some (.int .i64 1)) none none = some (.own rid v 1 (ups x w).length) := slice_own hr 1 (by omega)
      have m0 : ¬ ((ups x w).length : Int) < 1 := by omega
      rw [hd]
      simp -implicitDefEqProofs only [leafA, innerA, nodeA, patchA, Leaf.cells, Inner.cells, Node.cells, decide_true, decide_false, l0, Option.bind_some, evMin_int, m0, s0, go_sem, Nat.reduceEqDiff, reduceIte, Nat.reduceAdd, Nat.reduceLeDiff, Nat.reduceLT, Nat.reduceSub]
      exact canon_own hr 1
noncomputable def r263 : Reg seat := .of told263 (ask2 (fun a0' a1' => isI a0' ∧ isI a1') fun a0' a1' => .fn (ints (directI (dI a0') (dI a1')))) (ask2_ok fun a0' a1' h => SaidOk.fn (Fun.weak (.cons (isI.weak h.1) (.cons (isI.weak h.2) .nil)) (direct_spec _ _)))
theorem r263_c : r263.c = 263 := rfl
open Classical in
theorem r263_ask (a0' a1' : AV) : r263.ask [a0', a1'] = if isI a0' ∧ isI a1' then some (Said.fn (ints (directI (dI a0') (dI a1')))) else none := by unfold r263 Reg.of ask2; exact ite_cl

theorem ups_len' (x w : Int) : ∀ y ∈ (ups x w).map fun y => [AV.int .i64 y], y.length = [11].length := by
  intro y hy
  obtain ⟨z, _, rfl⟩ := List.mem_map.1 hy
  rfl
set_option maxHeartbeats 1000000 in
theorem under_spec (x y w : Int) : Fun seat 255 [.int .i64 x, .int .i64 y, .int .i64 w] (.bool (decide (y ∈ ups x w))) := by
  refine Fun.of0W told255 (by simp [il255]) (by simp ) (by simp ) 4 ?_
  simp only [il255, List.zipIdx_cons, List.zipIdx_nil, Nat.zero_add]
  refine wpc_soundR [] ?_
  simp -implicitDefEqProofs only [leafA, innerA, nodeA, patchA, Leaf.cells, Inner.cells, Node.cells, decide_true, decide_false, go_sem, Nat.reduceEqDiff, reduceIte, Nat.reduceAdd, Nat.reduceLeDiff, Nat.reduceLT, Nat.reduceSub]
  refine Callee.plain (Callable.of told266) (up_spec x w [.box [.int .i64 y], .box [.bool false]]) ?_
  rintro _ _ ⟨rfl, rfl⟩
  simp -implicitDefEqProofs only [leafA, innerA, nodeA, patchA, Leaf.cells, Inner.cells, Node.cells, decide_true, decide_false, List.cons_append, List.nil_append, List.length_cons, List.length_nil, go_sem, Nat.reduceEqDiff, reduceIte, Nat.reduceAdd, Nat.reduceLeDiff, Nat.reduceLT, Nat.reduceSub]
  refine WP.rangeO 2 (.box [.int .i64 x]) ((ups x w).map fun y => [.int .i64 y]) (c := 277) (cap := [.ptr 2 0, .iptr [.int .i64 w] 0]) (by simp only [go_sem, Nat.reduceEqDiff, reduceIte, Nat.reduceAdd, Nat.reduceLeDiff, Nat.reduceLT, Nat.reduceSub]) (Callable.of told277) (up1_gives x w 2) (ups_len' x w)
    (fun _ e => [.box [.int .i64 y], .box [.bool false], e, .dead]) (fun k => ∀ j (h : j < (ups x w).length), j < k → ¬ (ups x w)[j] = y) (by simp) (fun _ _ => rfl) (fun _ _ => rfl) (fun _ _ _ => rfl) (fun _ _ h => absurd h (Nat.not_lt_zero _)) rfl ?_ ?_
  · intro k hk e hP l T b hb
    have hk' : k < (ups x w).length := by simpa using hk
    rw [List.getElem_map]
    simp only [setPs]
    refine wpc_soundR [] ?_
    simp -implicitDefEqProofs only [leafA, innerA, nodeA, patchA, Leaf.cells, Inner.cells, Node.cells, decide_true, decide_false, List.cons_append, List.nil_append, go_sem, Nat.reduceEqDiff, reduceIte, Nat.reduceAdd, Nat.reduceLeDiff, Nat.reduceLT, Nat.reduceSub]
    refine ⟨[], by simp, fun T' hT' => wpc_soundR [] ?_⟩
    by_cases hy : (ups x w)[k] = y
    · simp -implicitDefEqProofs only [leafA, innerA, nodeA, patchA, Leaf.cells, Inner.cells, Node.cells, decide_true, decide_false, eq_true hy, List.append_nil, go_sem, Nat.reduceEqDiff, reduceIte, Nat.reduceAdd, Nat.reduceLeDiff, Nat.reduceLT, Nat.reduceSub]
      refine ⟨[.box [.int .i64 y], .box [.bool true], e, .dead], T', rfl, rfl, fun _ _ => rfl, .ret, rfl, fun T3 => ?_⟩
      have hm : y ∈ ups x w := by rw [← hy]; exact List.getElem_mem hk'
      simp -implicitDefEqProofs only [leafA, innerA, nodeA, patchA, Leaf.cells, Inner.cells, Node.cells, decide_true, decide_false, Jump.leave, List.cons_append, List.nil_append, hm, go_sem, Nat.reduceEqDiff, reduceIte, Nat.reduceAdd, Nat.reduceLeDiff, Nat.reduceLT, Nat.reduceSub]
    · simp -implicitDefEqProofs only [leafA, innerA, nodeA, patchA, Leaf.cells, Inner.cells, Node.cells, decide_true, decide_false, hy, List.append_nil, go_sem, Nat.reduceEqDiff, reduceIte, Nat.reduceAdd, Nat.reduceLeDiff, Nat.reduceLT, Nat.reduceSub]
      refine ⟨[.box [.int .i64 y], .box [.bool false], e, .dead], T', rfl, rfl, fun _ _ => rfl, fun j h hj => ?_, rfl⟩
      rcases Nat.lt_or_ge j k with h3 | h3
      · exact hP j h h3
      · obtain rfl : j = k := by omega
        exact hy
  · intro hP e T
    have hn : ¬ y ∈ ups x w := fun h => by
      obtain ⟨j, hj, rfl⟩ := List.getElem_of_mem h
      exact hP j hj (by simpa using hj) rfl
    simp -implicitDefEqProofs only [leafA, innerA, nodeA, patchA, Leaf.cells, Inner.cells, Node.cells, decide_true, decide_false, List.cons_append, List.nil_append, hn, go_sem, Nat.reduceEqDiff, reduceIte, Nat.reduceAdd, Nat.reduceLeDiff, Nat.reduceLT, Nat.reduceSub]
noncomputable def r255 : Reg seat := .of told255 (ask3 (fun a0' a1' a2' => isI a0' ∧ isI a1' ∧ isI a2') fun a0' a1' a2' => .fn (.bool (decide ((dI a1') ∈ ups (dI a0') (dI a2'))))) (ask3_ok fun a0' a1' a2' h => SaidOk.fn (Fun.weak (.cons (isI.weak h.1) (.cons (isI.weak h.2.1) (.cons (isI.weak h.2.2) .nil))) (under_spec _ _ _)))
theorem r255_c : r255.c = 255 := rfl
open Classical in
theorem r255_ask (a0' a1' a2' : AV) : r255.ask [a0', a1', a2'] = if isI a0' ∧ isI a1' ∧ isI a2' then some (Said.fn (.bool (decide ((dI a1') ∈ ups (dI a0') (dI a2'))))) else none := by unfold r255 Reg.of ask3; exact ite_cl
theorem refWhole_spec (w : Int) : Fun seat 152 [.int .i64 w] (.bool (decide (Whole w))) := by
  refine Fun.of0R [] told152 (by simp [il152]) (by simp [idb_patchA]) (by simp [idb_patchA]) 4 ?_
  simp only [il152, List.zipIdx_cons, List.zipIdx_nil, leafA, innerA, nodeA, patchA, Leaf.cells, Inner.cells, Node.cells, go_sem, Nat.reduceEqDiff, reduceIte, Nat.reduceAdd, Nat.reduceLeDiff, Nat.reduceLT, Nat.reduceSub]
  refine WP.loop0 (fun k => k ≤ 7 ∧ ∀ j, j < k → w ≠ 2 ^ (j + 1) - 1) (fun k => [(0, .int .i64 w), (3, .int .i64 (2 ^ (k + 1) - 1))]) (fun k => 8 - k) 0 ⟨by decide, fun j h => by omega⟩ (fun k _ => by simp ) (by simp ) ?_
  rintro k ⟨hk, hno⟩
  refine wpc_soundR [] ?_
  simp only [leafA, innerA, nodeA, patchA, Leaf.cells, Inner.cells, Node.cells, go_sem, Nat.reduceEqDiff, reduceIte, Nat.reduceAdd, Nat.reduceLeDiff, Nat.reduceLT, Nat.reduceSub]
  have hc : k = 0 ∨ k = 1 ∨ k = 2 ∨ k = 3 ∨ k = 4 ∨ k = 5 ∨ k = 6 ∨ k = 7 := by omega
  refine ⟨fun hle => ?_, fun hgt => ?_⟩
  · have hk7 : k < 7 := by
      rcases Nat.lt_or_ge k 7 with h | h
      · exact h
      · obtain rfl : k = 7 := by omega
        exact absurd hle (by decide)
    have e : IntKind.i64.wrap (IntKind.i64.wrap (2 * (2 ^ (k + 1) - 1)) + 1) = 2 ^ (k + 1 + 1) - 1 := by
      rcases hc with rfl | rfl | rfl | rfl | rfl | rfl | rfl | rfl <;> decide
    refine ⟨fun h => ?_, fun h => ⟨k + 1, ⟨by omega, fun j hj => ?_⟩, by omega, by simp [e]⟩⟩
    · have : Whole w := by
        rw [← h]; rcases hc with rfl | rfl | rfl | rfl | rfl | rfl | rfl | rfl <;> first | decide | omega
      simp only [this, decide_true]
    · rcases Nat.lt_or_ge j k with h1 | h1
      · exact hno j h1
      · obtain rfl : j = k := by omega
        exact fun h' => h h'.symm
  · obtain rfl : k = 7 := by
      rcases hc with rfl | rfl | rfl | rfl | rfl | rfl | rfl | rfl <;> first | rfl | exact absurd (by decide) hgt
    have : ¬ Whole w := by
      have h0 := hno 0 (by omega); have h1 := hno 1 (by omega); have h2 := hno 2 (by omega); have h3 := hno 3 (by omega); have h4 := hno 4 (by omega); have h5 := hno 5 (by omega); have h6 := hno 6 (by omega)
      unfold Whole
      omega
    simp only [this, decide_false]
noncomputable def r152 : Reg seat := .of told152 (ask1 (fun a0' => isI a0') fun a0' => .fn (.bool (decide (Whole (dI a0'))))) (ask1_ok fun a0' h => SaidOk.fn (Fun.weak (.cons (isI.weak h) .nil) (refWhole_spec _)))
theorem r152_c : r152.c = 152 := rfl
open Classical in
theorem r152_ask (a0' : AV) : r152.ask [a0'] = if isI a0' then some (Said.fn (.bool (decide (Whole (dI a0'))))) else none := by unfold r152 Reg.of ask1; exact ite_cl

theorem sane_spec (t : List Node) (ht : Tree.Ok t) : Fun seat 101 [nodes t] (.bool (decide (Sane t))) := by
  have hl := ht.len
  refine Fun.of0R [r125] told101 (by simp [il101]) (by simp [idb_patchA]) (by simp [idb_patchA]) 4 ?_
  simp only [il101, List.zipIdx_cons, List.zipIdx_nil, leafA, innerA, nodeA, patchA, Leaf.cells, Inner.cells, Node.cells, r125_c, r125_ask, go_sem, Nat.reduceEqDiff, reduceIte, Nat.reduceAdd, Nat.reduceLeDiff, Nat.reduceLT, Nat.reduceSub]
  refine WP.loopG (fun k => k ≤ t.length ∧ ∀ j (h : j < t.length), j < k → Good j t[j]) (fun k => [(0, nodes t), (5, nodes t), (6, .int .i64 t.length), (7, .int .i64 k)]) (fun k => []) (fun k => t.length - k) 0 ⟨Nat.zero_le _, fun j _ h => absurd h (Nat.not_lt_zero j)⟩ (fun k _ => by simp [idb_patchA]) (by simp ) ?_
  rintro k ⟨hk, hno⟩
  refine wpc_soundR [r123, r124] ?_
  simp only [leafA, innerA, nodeA, patchA, Leaf.cells, Inner.cells, Node.cells, r123_c, r123_ask, r124_c, r124_ask, go_sem, Nat.reduceEqDiff, reduceIte, Nat.reduceAdd, Nat.reduceLeDiff, Nat.reduceLT, Nat.reduceSub]
  refine ⟨fun hlt => ?_, fun hge => ?_⟩
  · have hk' : k < t.length := by omega
    simp only [leafA, innerA, nodeA, patchA, Leaf.cells, Inner.cells, Node.cells, r123_c, r123_ask, r124_c, r124_ask, fun H => ix_nodes H t k hk', ht.at hk', go_sem, Nat.reduceEqDiff, reduceIte, Nat.reduceAdd, Nat.reduceLeDiff, Nat.reduceLT, Nat.reduceSub]
    have gd : Good k t[k] ↔ Stands k t[k].kind ∧ nodeCheck t[k] = 0 := Iff.rfl
    have bad : ¬ Good k t[k] → ¬ Sane t := fun h hs => h (hs.1 k hk')
    iterate 12 ((all_goals intros); (all_goals try refine And.intro ?_ ?_))
    all_goals first | (show WP _ _ _ _ _ _ _) | exact ⟨k + 1, ⟨hk', scanS hno fun _ => by grind⟩, by omega, by simp [wrapS (show k < 9223372036854775807 by omega)]⟩ | grind
  · have hno1 := scanE hno hge
    have e : Sane t ↔ t.length = 0 ∨ Whole t.length := ⟨fun h => h.2, fun h => ⟨hno1, h⟩⟩
    simp only [leafA, innerA, nodeA, patchA, Leaf.cells, Inner.cells, Node.cells, r125_c, r125_ask, go_sem, Nat.reduceEqDiff, reduceIte, Nat.reduceAdd, Nat.reduceLeDiff, Nat.reduceLT, Nat.reduceSub]
    iterate 12 ((all_goals intros); (all_goals try refine And.intro ?_ ?_))
    all_goals first | (show WP _ _ _ _ _ _ _) | grind
noncomputable def r101 : Reg seat := .of told101 (ask1 (fun a0' => isNs a0' ∧ Tree.Ok (dNs a0')) fun a0' => .fn (.bool (decide (Sane (dNs a0'))))) (ask1_ok fun a0' h => SaidOk.fn (Fun.weak (.cons (isNs.weak h.1) .nil) (sane_spec _ h.2)))
theorem r101_c : r101.c = 101 := rfl
open Classical in
theorem r101_ask (a0' : AV) : r101.ask [a0'] = if isNs a0' ∧ Tree.Ok (dNs a0') then some (Said.fn (.bool (decide (Sane (dNs a0'))))) else none := by unfold r101 Reg.of ask1; exact ite_cl

theorem refSane_spec (t : List Node) (ht : Tree.Ok t) : Fun seat 139 [nodes t] (.bool (decide (Sane t))) := by
  have hl := ht.len
  have c0 : t.length = 0 → Sane t := fun h => by rw [List.eq_nil_of_length_eq_zero h]; exact .nil
  have c1 : ¬ t.length = 0 → ¬ Whole t.length → ¬ Sane t := fun h h1 h2 => h2.2.elim h h1
  refine Fun.of0R [r152] told139 (by simp [il139]) (by simp [idb_patchA]) (by simp [idb_patchA]) 4 ?_
  simp only [il139, List.zipIdx_cons, List.zipIdx_nil, leafA, innerA, nodeA, patchA, Leaf.cells, Inner.cells, Node.cells, r152_c, r152_ask, go_sem, Nat.reduceEqDiff, reduceIte, Nat.reduceAdd, Nat.reduceLeDiff, Nat.reduceLT, Nat.reduceSub]
  iterate 12 ((all_goals intros); (all_goals try refine And.intro ?_ ?_))
  all_goals first | (show WP _ _ _ _ _ _ _) | grind
  refine WP.loop0 (fun k => k ≤ t.length ∧ ∀ j (h : j < t.length), j < k → Good j t[j]) (fun k => [(0, nodes t), (3, .int .i64 k)]) (fun k => t.length - k) 0 ⟨Nat.zero_le _, fun j _ h => absurd h (Nat.not_lt_zero j)⟩ (fun k _ => by simp [idb_patchA]) (by simp ) ?_
  rintro k ⟨hk, hno⟩
  refine wpc_soundR [r153, r154] ?_
  simp only [leafA, innerA, nodeA, patchA, Leaf.cells, Inner.cells, Node.cells, r153_c, r153_ask, r154_c, r154_ask, go_sem, Nat.reduceEqDiff, reduceIte, Nat.reduceAdd, Nat.reduceLeDiff, Nat.reduceLT, Nat.reduceSub]
  refine ⟨fun hlt => ?_, fun hge => ?_⟩
  · have hk' : k < t.length := by omega
    simp only [leafA, innerA, nodeA, patchA, Leaf.cells, Inner.cells, Node.cells, r153_c, r153_ask, r154_c, r154_ask, fun H => ix_nodes H t k hk', ht.at hk', go_sem, Nat.reduceEqDiff, reduceIte, Nat.reduceAdd, Nat.reduceLeDiff, Nat.reduceLT, Nat.reduceSub]
    have gd : Good k t[k] ↔ Stands k t[k].kind ∧ nodeCheck t[k] = 0 := Iff.rfl
    have bad : ¬ Good k t[k] → ¬ Sane t := fun h hs => h (hs.1 k hk')
    iterate 12 ((all_goals intros); (all_goals try refine And.intro ?_ ?_))
    all_goals first | (show WP _ _ _ _ _ _ _) | exact ⟨k + 1, ⟨hk', scanS hno fun _ => by grind⟩, by omega, by simp [wrapS (show k < 9223372036854775807 by omega)]⟩ | grind
  · have hno1 := scanE hno hge
    have e : Sane t := ⟨hno1, .inr (Classical.not_not.1 (by assumption))⟩
    grind
noncomputable def r139 : Reg seat := .of told139 (ask1 (fun a0' => isNs a0' ∧ Tree.Ok (dNs a0')) fun a0' => .fn (.bool (decide (Sane (dNs a0'))))) (ask1_ok fun a0' h => SaidOk.fn (Fun.weak (.cons (isNs.weak h.1) .nil) (refSane_spec _ h.2)))
theorem r139_c : r139.c = 139 := rfl
open Classical in
theorem r139_ask (a0' : AV) : r139.ask [a0'] = if isNs a0' ∧ Tree.Ok (dNs a0') then some (Said.fn (.bool (decide (Sane (dNs a0'))))) else none := by unfold r139 Reg.of ask1; exact ite_cl

theorem known_spec (t : List Node) (ht : Tree.Ok t) : Fun seat 126 [nodes t] (nodes (known t)) := by
  refine Fun.of0R [r101] told126 (by simp [il126]) (by simp [idb_patchA]) (by simp [idb_patchA]) 4 ?_
  simp only [il126, List.zipIdx_cons, List.zipIdx_nil, leafA, innerA, nodeA, patchA, Leaf.cells, Inner.cells, Node.cells, r101_c, r101_ask, ht, go_sem, Nat.reduceEqDiff, reduceIte, Nat.reduceAdd, Nat.reduceLeDiff, Nat.reduceLT, Nat.reduceSub]
  iterate 12 ((all_goals intros); (all_goals try refine And.intro ?_ ?_))
  all_goals first | (show WP _ _ _ _ _ _ _) | grind [known]
noncomputable def r126 : Reg seat := .of told126 (ask1 (fun a0' => isNs a0' ∧ Tree.Ok (dNs a0')) fun a0' => .fn (nodes (known (dNs a0')))) (ask1_ok fun a0' h => SaidOk.fn (Fun.weak (.cons (isNs.weak h.1) .nil) (known_spec _ h.2)))
theorem r126_c : r126.c = 126 := rfl
open Classical in
theorem r126_ask (a0' : AV) : r126.ask [a0'] = if isNs a0' ∧ Tree.Ok (dNs a0') then some (Said.fn (nodes (known (dNs a0')))) else none := by unfold r126 Reg.of ask1; exact ite_cl
theorem refAs_spec (t : List Node) (ht : Tree.Ok t) : Fun seat 137 [nodes t] (nodes (known t)) := by
  refine Fun.of0R [r139] told137 (by simp [il137]) (by simp [idb_patchA]) (by simp [idb_patchA]) 4 ?_
  simp only [il137, List.zipIdx_cons, List.zipIdx_nil, leafA, innerA, nodeA, patchA, Leaf.cells, Inner.cells, Node.cells, r139_c, r139_ask, ht, go_sem, Nat.reduceEqDiff, reduceIte, Nat.reduceAdd, Nat.reduceLeDiff, Nat.reduceLT, Nat.reduceSub]
  iterate 12 ((all_goals intros); (all_goals try refine And.intro ?_ ?_))
  all_goals first | (show WP _ _ _ _ _ _ _) | grind [known]
noncomputable def r137 : Reg seat := .of told137 (ask1 (fun a0' => isNs a0' ∧ Tree.Ok (dNs a0')) fun a0' => .fn (nodes (known (dNs a0')))) (ask1_ok fun a0' h => SaidOk.fn (Fun.weak (.cons (isNs.weak h.1) .nil) (refAs_spec _ h.2)))
theorem r137_c : r137.c = 137 := rfl
open Classical in
theorem r137_ask (a0' : AV) : r137.ask [a0'] = if isNs a0' ∧ Tree.Ok (dNs a0') then some (Said.fn (nodes (known (dNs a0')))) else none := by unfold r137 Reg.of ask1; exact ite_cl
def Few (t : List Node) : Prop := (∀ x (h : x < t.length), nodeFew t[x]) ∧ t.length ≤ 300
instance (t : List Node) : Decidable (Few t) := inferInstanceAs (Decidable (_ ∧ _))
theorem few_spec (t : List Node) (ht : Tree.Ok t) : Fun seat 100 [nodes t] (.bool (decide (Few t))) := by
  have hl := ht.len
  refine Fun.of0R [] told100 (by simp [il100]) (by simp [idb_patchA]) (by simp [idb_patchA]) 4 ?_
  simp only [il100, List.zipIdx_cons, List.zipIdx_nil, leafA, innerA, nodeA, patchA, Leaf.cells, Inner.cells, Node.cells, go_sem, Nat.reduceEqDiff, reduceIte, Nat.reduceAdd, Nat.reduceLeDiff, Nat.reduceLT, Nat.reduceSub]
  refine WP.loop0 (fun k => k ≤ t.length ∧ ∀ j (h : j < t.length), j < k → nodeFew t[j]) (fun k => [(0, nodes t), (3, .int .i64 k)]) (fun k => t.length - k) 0 ⟨Nat.zero_le _, fun j _ h => absurd h (Nat.not_lt_zero j)⟩ (fun k _ => by simp [idb_patchA]) (by simp ) ?_
  rintro k ⟨hk, hno⟩
  refine wpc_soundR [r122] ?_
  simp only [leafA, innerA, nodeA, patchA, Leaf.cells, Inner.cells, Node.cells, r122_c, r122_ask, go_sem, Nat.reduceEqDiff, reduceIte, Nat.reduceAdd, Nat.reduceLeDiff, Nat.reduceLT, Nat.reduceSub]
  refine ⟨fun hlt => ?_, fun hge => ?_⟩
  · have hk' : k < t.length := by omega
    simp only [leafA, innerA, nodeA, patchA, Leaf.cells, Inner.cells, Node.cells, r122_c, r122_ask, fun H => ix_nodes H t k hk', ht.at hk', go_sem, Nat.reduceEqDiff, reduceIte, Nat.reduceAdd, Nat.reduceLeDiff, Nat.reduceLT, Nat.reduceSub]
    have bad : ¬ nodeFew t[k] → ¬ Few t := fun h hs => h (hs.1 k hk')
    iterate 12 ((all_goals intros); (all_goals try refine And.intro ?_ ?_))
    all_goals first | (show WP _ _ _ _ _ _ _) | exact ⟨k + 1, ⟨hk', scanS hno fun _ => by grind⟩, by omega, by simp [wrapS (show k < 9223372036854775807 by omega)]⟩ | grind
  · have hno1 := scanE hno hge
    have e : Few t ↔ t.length ≤ 300 := ⟨fun h => h.2, fun h => ⟨hno1, h⟩⟩
    simp only [e]
    omega
noncomputable def r100 : Reg seat := .of told100 (ask1 (fun a0' => isNs a0' ∧ Tree.Ok (dNs a0')) fun a0' => .fn (.bool (decide (Few (dNs a0'))))) (ask1_ok fun a0' h => SaidOk.fn (Fun.weak (.cons (isNs.weak h.1) .nil) (few_spec _ h.2)))
theorem r100_c : r100.c = 100 := rfl
open Classical in
theorem r100_ask (a0' : AV) : r100.ask [a0'] = if isNs a0' ∧ Tree.Ok (dNs a0') then some (Said.fn (.bool (decide (Few (dNs a0'))))) else none := by unfold r100 Reg.of ask1; exact ite_cl

theorem nodesSame_spec (a b : List Node) (ha : Tree.Ok a) (hb : Tree.Ok b) : Fun seat 106 [nodes a, nodes b] (.bool (decide (a = b))) := by
  have hla := ha.len
  have c0 : ¬ a.length = b.length → ¬ a = b := fun h e => h (by rw [e])
  refine Fun.of0R [] told106 (by simp [il106]) (by simp [idb_patchA]) (by simp [idb_patchA]) 4 ?_
  simp only [il106, List.zipIdx_cons, List.zipIdx_nil, leafA, innerA, nodeA, patchA, Leaf.cells, Inner.cells, Node.cells, go_sem, Nat.reduceEqDiff, reduceIte, Nat.reduceAdd, Nat.reduceLeDiff, Nat.reduceLT, Nat.reduceSub]
  iterate 12 ((all_goals intros); (all_goals try refine And.intro ?_ ?_))
  all_goals first | (show WP _ _ _ _ _ _ _) | grind
  have hl : a.length = b.length := by omega
  refine WP.loop0 (fun k => k ≤ a.length ∧ ∀ j (h : j < a.length), j < k → a[j] = b[j]'(by omega)) (fun k => [(0, nodes a), (1, nodes b), (5, .int .i64 k)]) (fun k => a.length - k) 0 ⟨Nat.zero_le _, fun j _ h => absurd h (Nat.not_lt_zero j)⟩ (fun k _ => by simp [idb_patchA]) (by simp ) ?_
  rintro k ⟨hk, hno⟩
  refine wpc_soundR [] ?_
  simp only [leafA, innerA, nodeA, patchA, Leaf.cells, Inner.cells, Node.cells, go_sem, Nat.reduceEqDiff, reduceIte, Nat.reduceAdd, Nat.reduceLeDiff, Nat.reduceLT, Nat.reduceSub]
  refine ⟨fun hlt => ?_, fun hge => ?_⟩
  · have hk' : k < a.length := by omega
    refine WP.drawR [r130] mixed (by decide) ?_
    simp only [leafA, innerA, nodeA, patchA, Leaf.cells, Inner.cells, Node.cells, r130_c, r130_ask, fun H => ix_nodes H a k hk', fun H => ix_nodes H b k (by omega), ha.at hk', hb.at (show k < b.length by omega), go_sem, Nat.reduceEqDiff, reduceIte, Nat.reduceAdd, Nat.reduceLeDiff, Nat.reduceLT, Nat.reduceSub]
    have bad : ¬ a[k] = b[k] → ¬ a = b := fun h e => h (by simp only [e])
    iterate 12 ((all_goals intros); (all_goals try refine And.intro ?_ ?_))
    all_goals first | (show WP _ _ _ _ _ _ _) | exact ⟨k + 1, ⟨hk', scanS hno fun _ => by grind⟩, by omega, by simp [wrapS (show k < 9223372036854775807 by omega)]⟩ | grind
  · have hno1 := scanE hno hge
    have e : a = b := List.ext_getElem hl fun j h1 h2 => hno1 j h1
    grind
noncomputable def r106 : Reg seat := .of told106 (ask2 (fun a0' a1' => isNs a0' ∧ isNs a1' ∧ Tree.Ok (dNs a0') ∧ Tree.Ok (dNs a1')) fun a0' a1' => .fn (.bool (decide ((dNs a0') = (dNs a1'))))) (ask2_ok fun a0' a1' h => SaidOk.fn (Fun.weak (.cons (isNs.weak h.1) (.cons (isNs.weak h.2.1) .nil)) (nodesSame_spec _ _ h.2.2.1 h.2.2.2)))
theorem r106_c : r106.c = 106 := rfl
open Classical in
theorem r106_ask (a0' a1' : AV) : r106.ask [a0', a1'] = if isNs a0' ∧ isNs a1' ∧ Tree.Ok (dNs a0') ∧ Tree.Ok (dNs a1') then some (Said.fn (.bool (decide ((dNs a0') = (dNs a1'))))) else none := by unfold r106 Reg.of ask2; exact ite_cl
def zeroA : AV := .agg [.int .i64 0, .list true [], .list true [], .int .i64 0, .list true [], .list true [], .list true [], .list true []]
theorem back_spec (l : List Node) : Fun seat 128 [nodes l] (.func (.f 148) [] [.iptr [nodes l] 0]) := by
  refine Fun.of0W told128 (by simp [il128]) (by simp ) (by simp ) 0 ?_
  simp only [il128, List.zipIdx_cons, List.zipIdx_nil, Nat.zero_add, List.map_cons, List.map_nil]
  refine WP.seqS [(0, nodes l), (1, .ptr 0 0), (2, .nilfunc)] [.box [nodes l]] (by simp only [go_sem, Nat.reduceEqDiff, reduceIte, Nat.reduceAdd, Nat.reduceLeDiff, Nat.reduceLT, Nat.reduceSub]; simp ) ?_
  refine WP.sealB 1 0 rfl rfl ?_
  refine wpc_sound ?_
  simp only [go_sem, Nat.reduceEqDiff, reduceIte, Nat.reduceAdd, Nat.reduceLeDiff, Nat.reduceLT, Nat.reduceSub]
  rfl
noncomputable def r128 : Reg seat := .of told128 (ask1 (fun a0' => isNs a0') fun a0' => .fn (.func (.f 148) [] [.iptr [nodes (dNs a0')] 0])) (ask1_ok fun a0' h => SaidOk.fn (Fun.weak (.cons (isNs.weak h) .nil) (back_spec _)))
theorem r128_c : r128.c = 128 := rfl
open Classical in
theorem r128_ask (a0' : AV) : r128.ask [a0'] = if isNs a0' then some (Said.fn (.func (.f 148) [] [.iptr [nodes (dNs a0')] 0])) else none := by unfold r128 Reg.of ask1; exact ite_cl

def backs (l : List Node) : List (List AV) := (List.range l.length).map fun k => [.int .i64 ((l.length - 1 - k : Nat) : Int), nodeA (nodeAt l (l.length - 1 - k))]
theorem backs_len (l : List Node) : (backs l).length = l.length := by simp [backs]
theorem backs_at (l : List Node) (k : Nat) (h : k < (backs l).length) : (backs l)[k] = [.int .i64 ((l.length - 1 - k : Nat) : Int), nodeA (nodeAt l (l.length - 1 - k))] := by simp [backs]
theorem backIter (l : List Node) (hl : l.length ≤ 9223372036854775807) : GivesL seat 148 [.iptr [nodes l] 0] (backs l) := by
  intro id H0 J Jx h0 hround
  rw [backs_len]
  refine ACall.of_wp told148 (by simp [il148]) (wpc_sound ?_)
  rw [start_env]
  simp only [il148, List.zipIdx_cons, List.zipIdx_nil, go_sem, Nat.reduceEqDiff, reduceIte, Nat.reduceAdd, Nat.reduceLeDiff, Nat.reduceLT, Nat.reduceSub, wrap64s ((l.length : Int) - 1) (by omega)]
  refine WP.loopJ (fun k : Nat => [(0, .func (.y id) [] []), (1, .iptr [nodes l] 0), (3, .int .i64 ((l.length : Int) - 1 - k))]) (fun k H => k ≤ l.length ∧ J k H) (fun k => l.length - k) 0 (by simp) ⟨Nat.zero_le _, h0⟩ ?_
  rintro k H ⟨hk, hj⟩
  refine wpc_sound ?_
  simp only [go_sem, Nat.reduceEqDiff, reduceIte, Nat.reduceAdd, Nat.reduceLeDiff, Nat.reduceLT, Nat.reduceSub]
  refine ⟨fun h => ?_, fun h => ?_⟩
  · have hk' : k < l.length := by omega
    have e : (l.length : Int) - 1 - k = ((l.length - 1 - k : Nat) : Int) := by omega
    have hr := hround k (by rw [backs_len]; exact hk') H hj
    rw [backs_at _ _ (by rw [backs_len]; exact hk'), nodeAt_lt (show l.length - 1 - k < l.length by omega)] at hr
    rw [e]
    simp only [leafA, innerA, nodeA, patchA, Leaf.cells, Inner.cells, Node.cells, fun H => ix_nodes H l (l.length - 1 - k) (by omega), go_sem, Nat.reduceEqDiff, reduceIte, Nat.reduceAdd, Nat.reduceLeDiff, Nat.reduceLT, Nat.reduceSub]
    refine Callee.yld hr ?_
    rintro r H' (⟨rfl, hj'⟩ | ⟨rfl, hx⟩)
    · simp only [go_sem, Nat.reduceEqDiff, reduceIte, Nat.reduceAdd, Nat.reduceLeDiff, Nat.reduceLT, Nat.reduceSub]
      exact ⟨k + 1, ⟨hk', hj'⟩, by omega, by simp [wrap64s (((l.length - 1 - k : Nat) : Int) - 1) (by omega)]; omega⟩
    · simp only [go_sem, Nat.reduceEqDiff, reduceIte, Nat.reduceAdd, Nat.reduceLeDiff, Nat.reduceLT, Nat.reduceSub]
      exact .inr hx
  · have hke : k = l.length := by omega
    subst hke
    exact .inl hj

theorem last_spec (t : List Node) (ht : Tree.Ok t) : Fun seat 104 [nodes t] (.int .i64 (lastT t)) := by
  have hl := known_len t
  have hk0 := known_ok ht
  unfold lastT
  refine Fun.of0R [r126, r128] told104 (by simp [il104]) (by simp [idb_patchA]) (by simp [idb_patchA]) 4 ?_
  simp only [il104, List.zipIdx_cons, List.zipIdx_nil, leafA, innerA, nodeA, patchA, Leaf.cells, Inner.cells, Node.cells, r126_c, r126_ask, r128_c, r128_ask, ht, go_sem, Nat.reduceEqDiff, reduceIte, Nat.reduceAdd, Nat.reduceLeDiff, Nat.reduceLT, Nat.reduceSub]
  generalize known t = a at *
  have hpk : ∀ k, k < (backs a).length → a.length - 1 - k < a.length := fun k h => by rw [backs_len] at h; omega
  refine WP.rangeL (c := 148) (cap := [.iptr [nodes a] 0]) (backs a) (by simp only [go_sem, Nat.reduceEqDiff, reduceIte, Nat.reduceAdd, Nat.reduceLeDiff, Nat.reduceLT, Nat.reduceSub]) (Callable.of told148) (backIter a (by omega)) (fun x hx => by obtain ⟨k, _, rfl⟩ := List.mem_map.1 hx; rfl)
    (fun _ => [.box [.int .i64 0]]) (fun k => ∀ j, a.length - k ≤ j → j < a.length → (nodeAt a j).kind = 0) (fun _ => rfl) (fun j h1 h2 => by omega) rfl ?_ ?_
  · intro k hk hp l T b hb
    have hk' := hpk k hk
    rw [backs_at _ _ hk]
    have e := nodeAt_lt hk'
    generalize hm : a.length - 1 - k = m at *
    have hmk : m < a.length := by omega
    refine wpc_sound ?_
    have g0 := tail_get (G := []) (e := Entry.box [.int .i64 0]) T (.box [.int .i64 0, .list true [], .list true [], .int .i64 0, .list true [], .list true [], .list true [], .list true []])
    simp only [setPs, go_sem, Nat.reduceEqDiff, reduceIte, Nat.reduceAdd, Nat.reduceLeDiff, Nat.reduceLT, Nat.reduceSub, st_node (nodeAt a m) g0 rfl, tail_set (G := []) T]
    refine ⟨_, rfl, fun T' hT' => wpc_soundR [r127] ?_⟩
    have g1 : (Entry.box [.int .i64 0] :: (T' ++ [.box (nodeA (nodeAt a m)).cells]))[T.length + 1]? = some (.box (nodeA (nodeAt a m)).cells) := by rw [← hT']; exact tail_get (G := []) T' _
    simp only [go_sem, Nat.reduceEqDiff, reduceIte, Nat.reduceAdd, Nat.reduceLeDiff, Nat.reduceLT, Nat.reduceSub, ld_node g1, r127_c, r127_ask]
    have hz : (nodeAt a m).kind ≠ 0 → lastN (fun x => decide ¬ (nodeAt a x).kind = 0) a.length = some m := fun h => lastN_some (by simpa using h) hmk fun j h1 h2 => by
      have := hp j (by omega) h2
      simp [this]
    refine ⟨fun h => ?_, fun h => ?_⟩
    · refine ⟨[.box [.int .i64 m]], _, rfl, rfl, fun i hi => List.getElem?_append_left hi, .ret, rfl, fun T3 => ?_⟩
      rw [hz h]
      simp only [go_sem, Nat.reduceEqDiff, reduceIte, Nat.reduceAdd, Nat.reduceLeDiff, Nat.reduceLT, Nat.reduceSub, Jump.leave, optI, List.cons_append, List.nil_append]
    · refine ⟨_, _, rfl, rfl, fun i hi => List.getElem?_append_left hi, fun j h1 h2 => ?_, rfl⟩
      rcases Nat.lt_or_ge m j with h3 | h3
      · exact hp j (by omega) h2
      · obtain rfl : j = m := by omega
        exact Classical.not_not.1 h
  · intro hp T
    simp only [go_sem, Nat.reduceEqDiff, reduceIte, Nat.reduceAdd, Nat.reduceLeDiff, Nat.reduceLT, Nat.reduceSub]
    rw [lastN_none fun j hj => by have := hp j (by rw [backs_len]; omega) hj; simp [this]]
    rfl
noncomputable def r104 : Reg seat := .of told104 (ask1 (fun a0' => isNs a0' ∧ Tree.Ok (dNs a0')) fun a0' => .fn (.int .i64 (lastT (dNs a0')))) (ask1_ok fun a0' h => SaidOk.fn (Fun.weak (.cons (isNs.weak h.1) .nil) (last_spec _ h.2)))
theorem r104_c : r104.c = 104 := rfl
open Classical in
theorem r104_ask (a0' : AV) : r104.ask [a0'] = if isNs a0' ∧ Tree.Ok (dNs a0') then some (Said.fn (.int .i64 (lastT (dNs a0')))) else none := by unfold r104 Reg.of ask1; exact ite_cl

end Go.Proofs.YtihhinbjhiankaaGreatDoor.Al

set_option linter.unusedSimpArgs false
set_option linter.unusedVariables false
namespace Go.Proofs.YtihhinbjhiankaaGreatDoor.Al
open Go
attribute [local go_sem] W_mv W_pick W_alloc W_box W_build W_bslice W_load W_store W_bin W_isnil W_un W_convI W_convS W_mkiface W_mkfunc W_slice W_faddr W_iaddr W_idxA W_extract W_len W_min W_max W_append thenQ_normal thenQ_exit thenQ_ret blockQ_normal blockQ_ret blockQ_exit wpc_skip wpc_region wpc_draw wpc_seq wpc_cond wpc_block wpc_exit wpc_ret wpc_loop wpc_range condW_true condW_false condW_dec condW_any W_nil W_call resW_some evalOp Opd.ev updo_envL updo_none setL_cons setL_nil envL_cons Option.map_some Option.bind_some evBin evInt List.map_cons List.map_nil Option.pure_def Option.bind_eq_bind W_grd' grdW_tt grdW_ff grdW_tf grdW_ft grdW_tup grdW_dt grdW_df L_mv L_load L_bin L_un L_faddr L_iaddr L_nil L_call lresW_some upd_envL evUn beq_dec bne_dec leaves_ret1 leaves_ret0 leaves_end0 rowLen_ints load_iptr0 not_dec heap_get0 heap_get1 heap_set0 heap_set1 heap_len1 heap_app bslice1_int seen_one0 Nat.sub_zero Bool.not_true Bool.not_false List.length_nil List.length_cons List.nil_append List.cons_append Nat.zero_add canon_ptrI canon_bool canon_tup canon_agg canon_ints' canon_ints0 rowLen_octs seen_octs canon_octs' rowLen_nodes canon_nodes' rowLen_nodes0 rowLen_nodes3 seen_list cells_int oneIn_int cells_bool oneIn_bool cells_list oneIn_list cells_func oneIn_func cells_own cells_ptr cells_agg oneIn_own0 oneIn_own1 seenL1 seenM1 oneIn_ptr2 seenL2 oneIn_own3 seenL3 cells_ints oneIn_ints cells_octs oneIn_octs cells_nodes oneIn_nodes ldB0 ldA0 adB0 stB0 ldB1 ldA1 adB1 stB1 ldB2 ldA2 adB2 stB2 ldB3 stB3 List.getElem?_cons_zero List.getElem?_cons_succ beq_self_eq_true splice List.take_zero List.take_succ_cons List.drop_zero List.drop_succ_cons List.append_nil List.set_cons_zero List.set_cons_succ List.all_cons List.all_nil Bool.and_self and_self and_true true_and Nat.lt_irrefl Nat.zero_lt_one Nat.le_refl fillA evNil notA Bool.false_eq_true evMin_int evMax_int Option.map_none freezeP_all_nil freezeP_all_cons frzE_box frzE_arr foldA List.foldlM_cons List.foldlM_nil
attribute [local simp] envL_cons envL_nil idb_int idb_bool idb_ints idb_nil idb_own idb_ptr idb_octs idb_nodes idb_leafA idb_innerA idb_nodeA idb_agg idb_tup idb_iptr idb_fn entB_dead entB_box
end Go.Proofs.YtihhinbjhiankaaGreatDoor.Al

set_option linter.unusedSimpArgs false
set_option linter.unusedVariables false
namespace Go.Proofs.YtihhinbjhiankaaGreatDoor.Al
open Go
attribute [local go_sem] W_mv W_pick W_alloc W_box W_build W_bslice W_load W_store W_bin W_isnil W_un W_convI W_convS W_mkiface W_mkfunc W_slice W_faddr W_iaddr W_idxA W_extract W_len W_min W_max W_append thenQ_normal thenQ_exit thenQ_ret blockQ_normal blockQ_ret blockQ_exit wpc_skip wpc_region wpc_draw wpc_seq wpc_cond wpc_block wpc_exit wpc_ret wpc_loop wpc_range condW_true condW_false condW_dec condW_any W_nil W_call resW_some evalOp Opd.ev updo_envL updo_none setL_cons setL_nil envL_cons Option.map_some Option.bind_some evBin evInt List.map_cons List.map_nil Option.pure_def Option.bind_eq_bind W_grd' grdW_tt grdW_ff grdW_tf grdW_ft grdW_tup grdW_dt grdW_df L_mv L_load L_bin L_un L_faddr L_iaddr L_nil L_call lresW_some upd_envL evUn beq_dec bne_dec leaves_ret1 leaves_ret0 leaves_end0 rowLen_ints load_iptr0 not_dec heap_get0 heap_get1 heap_set0 heap_set1 heap_len1 heap_app bslice1_int seen_one0 Nat.sub_zero Bool.not_true Bool.not_false List.length_nil List.length_cons List.nil_append List.cons_append Nat.zero_add canon_ptrI canon_bool canon_tup canon_agg canon_ints' canon_ints0 rowLen_octs seen_octs canon_octs' rowLen_nodes canon_nodes' rowLen_nodes0 rowLen_nodes3 seen_list cells_int oneIn_int cells_bool oneIn_bool cells_list oneIn_list cells_func oneIn_func cells_own cells_ptr cells_agg oneIn_own0 oneIn_own1 seenL1 seenM1 oneIn_ptr2 seenL2 oneIn_own3 seenL3 cells_ints oneIn_ints cells_octs oneIn_octs cells_nodes oneIn_nodes ldB0 ldA0 adB0 stB0 ldB1 ldA1 adB1 stB1 ldB2 ldA2 adB2 stB2 ldB3 stB3 List.getElem?_cons_zero List.getElem?_cons_succ beq_self_eq_true splice List.take_zero List.take_succ_cons List.drop_zero List.drop_succ_cons List.append_nil List.set_cons_zero List.set_cons_succ List.all_cons List.all_nil Bool.and_self and_self and_true true_and Nat.lt_irrefl Nat.zero_lt_one Nat.le_refl fillA evNil notA Bool.false_eq_true evMin_int evMax_int Option.map_none freezeP_all_nil freezeP_all_cons frzE_box frzE_arr foldA List.foldlM_cons List.foldlM_nil callW_f lcallW_f ansW_fn ansW_own lansW_fn ansW_none tab_cons tab_nil dI_int dB_bool dO_octs dO_ints dO_list dO_nil dN_nodeA dLf_agg dIn_agg dN_agg dNs_nodes dNs_nil isI_int isB_bool isO_octs isO_nil isO_list isS_ints isS_nil isNs_nodes isNs_nil isN_nodeA isLf_agg isIn_agg isN_agg leaf_eta inner_eta node_eta leaf_zero inner_zero decide_eq_true_eq decide_eq_false_iff_not eq_self forall_const true_implies false_implies Bool.not_eq_true' Bool.not_eq_false' Bool.true_eq_false implies_true ne_eq ldI ldIA adI AV.tup.injEq AV.agg.injEq List.cons.injEq AV.int.injEq AV.bool.injEq nodes_inj octs_inj ints_inj nil_nodes nil_octs nil_ints canon_nilL decide_eq_decide two_ne four_ne b256_ne lendA_own lendA_none isO_own false_and and_false Q_nil Q_l Q_g Q_h Q_grd qgrdW_b lightD_some heavyD_some readD_some fnD_some callL_f Q_call pendOk_nil pendOk_cons pastOk_nil Q_mv Q_pick Q_bin Q_extract Q_min Q_load Q_slice Q_len H_store free_mv free_pick free_bin free_extract free_min free_load free_slice free_len callW_y List.length_map List.length_set leaves_r evR_some evRess1 evRess2 evRess3 evRes_t evRes_c nz_kind nz_enc nz_cred nz_source nz_parent nz_ienc nz_hash nz_un true_or or_true bsl_node appI appO canon_rowI canon_rowO not_false_eq_true not_true_eq_false ldE_a ldE_c adE_b stE_b onP_b
attribute [local go_sem low] condW_b ldP adP stP onO
attribute [local simp] envL_cons envL_nil idb_int idb_bool idb_ints idb_nil idb_own idb_ptr idb_octs idb_nodes idb_leafA idb_innerA idb_nodeA idb_agg idb_tup idb_iptr idb_fn entB_dead entB_box
theorem zeroA_norm (H : List Entry) (k : Nat) : derefN H (k + 2) zeroA = nodeA .zero := by
  simp only [zeroA, derefN, List.map_cons, List.map_nil]
  rfl

def il314 : IFn := ⟨57, [.t 4], .seq (.region [⟨some 4, .mv (.c (.bool false)), none, []⟩] false) (.seq (.region [⟨some 10, .call (.f 326) [], none, []⟩, ⟨some 5, .mv (.t 10), none, [0, 0, 0]⟩] false) (.seq (.seq (.region [⟨some 11, .mv (.t 0), none, []⟩, ⟨some 12, .call (.f 100) [.t 11], none, [0]⟩, ⟨some 13, .un .not (.t 12), none, [1]⟩, ⟨some 14, .mv (.t 13), none, [2, 1]⟩, ⟨some 15, .mv (.t 1), some (14, false), [3]⟩, ⟨some 16, .len (.t 15), some (14, false), [4, 3]⟩, ⟨some 17, .bin false .gtr (.t 16) (.c (.int .i64 20000)), some (14, false), [5, 3]⟩, ⟨some 18, .pick (.t 14) (.c (.bool true)) (.t 17), none, [3, 6]⟩] false) (.cond (.t 18) (.seq (.region [⟨some 19, .mv (.t 5), none, []⟩, ⟨some 4, .mv (.t 19), none, [0, 0]⟩] false) .ret) .skip)) (.seq (.region [⟨some 21, .mv (.t 1), none, []⟩, ⟨some 22, .call (.f 327) [.t 21], none, [0]⟩, ⟨some 20, .mv (.t 22), none, [1]⟩, ⟨some 23, .extract (.t 20) 0, none, [2]⟩, ⟨some 24, .extract (.t 20) 1, none, [2]⟩, ⟨some 6, .mv (.t 23), none, [3, 1, 0, 1, 2, 3]⟩, ⟨some 7, .mv (.t 24), none, [4, 5, 0, 1, 2, 3, 4, 5]⟩] false) (.seq (.region [⟨some 26, .mv (.t 1), none, []⟩, ⟨some 27, .call (.f 328) [.t 26], none, [0]⟩, ⟨some 25, .mv (.t 27), none, [1]⟩, ⟨some 28, .extract (.t 25) 0, none, [2]⟩, ⟨some 29, .extract (.t 25) 1, none, [2]⟩, ⟨some 8, .mv (.t 28), none, [3, 1, 0, 1, 2, 3]⟩, ⟨some 9, .mv (.t 29), none, [4, 5, 0, 1, 2, 3, 4, 5]⟩] false) (.seq (.region [⟨some 30, .mv (.t 5), none, []⟩, ⟨some 31, .mv (.t 30), none, [0]⟩, ⟨some 32, .mv (.t 6), some (31, true), [1]⟩, ⟨some 33, .mv (.t 8), some (31, true), [1]⟩, ⟨some 34, .call (.f 106) [.t 32, .t 33], some (31, true), [2, 3, 1, 1]⟩, ⟨some 35, .pick (.t 31) (.t 34) (.c (.bool false)), none, [1, 4]⟩, ⟨some 36, .mv (.t 35), none, [5, 4]⟩, ⟨some 37, .mv (.t 7), some (36, true), [6]⟩, ⟨some 38, .mv (.t 9), some (36, true), [6]⟩, ⟨some 39, .bin false .eql (.t 37) (.t 38), some (36, true), [7, 8, 6]⟩, ⟨some 40, .pick (.t 36) (.t 39) (.c (.bool false)), none, [6, 9]⟩, ⟨some 41, .mv (.t 40), none, [10, 6]⟩, ⟨some 42, .mv (.t 0), some (41, true), [11]⟩, ⟨some 43, .call (.f 329) [.t 42], some (41, true), [12, 11, 11]⟩, ⟨some 44, .mv (.t 0), some (41, true), [11]⟩, ⟨some 45, .call (.f 330) [.t 44], some (41, true), [14, 13, 11]⟩, ⟨some 46, .bin true .eql (.t 43) (.t 45), some (41, true), [13, 15, 11]⟩, ⟨some 47, .pick (.t 41) (.t 46) (.c (.bool false)), none, [11, 16]⟩, ⟨some 48, .mv (.t 47), none, [17, 15]⟩, ⟨some 49, .mv (.t 0), some (48, true), [18]⟩, ⟨some 50, .call (.f 331) [.t 49], some (48, true), [19, 18, 18]⟩, ⟨some 51, .convS (.t 50), some (48, true), [20, 18]⟩, ⟨some 52, .mv (.t 0), some (48, true), [18]⟩, ⟨some 53, .call (.f 332) [.t 52], some (48, true), [22, 20, 18]⟩, ⟨some 54, .convS (.t 53), some (48, true), [23, 18]⟩, ⟨some 55, .bin false .eql (.t 51) (.t 54), some (48, true), [21, 24, 18]⟩, ⟨some 56, .pick (.t 48) (.t 55) (.c (.bool false)), none, [18, 25]⟩, ⟨some 4, .mv (.t 56), none, [26, 23, 0, 1, 2, 3, 4, 5, 6, 7, 8, 9, 10, 11, 12, 13, 14, 15, 16, 17, 18, 19, 20, 21, 22, 23, 24, 25, 26]⟩] true) .ret)))))⟩
theorem told314 : trFn seat 314 = some il314 := by kernel_rfl

def il326 : IFn := ⟨56, [.t 0], .seq (.region [⟨some 0, .mv (.c (.bool false)), none, []⟩] false) (.seq (.region [⟨some 9, .bslice 1 1 (.int .u8 0) [(0, (.c (.int .u8 7)))], none, []⟩, ⟨some 10, .build [.list true [], .list true [], .int .i64 0, .list true []] [(0, (1, (.t 9))), (2, (1, (.c (.int .i64 1))))], none, [0]⟩, ⟨some 11, .build [.int .i64 0, .list true [], .list true [], .int .i64 0, .list true [], .list true [], .list true [], .list true []] [(0, (1, (.c (.int .i64 1)))), (1, (4, (.t 10)))], none, [1]⟩, ⟨some 1, .alloc [.int .i64 0, .list true [], .list true [], .int .i64 0, .list true [], .list true [], .list true [], .list true []], none, []⟩, ⟨none, .store 8 (.t 1) (.t 11), none, [3, 2, 0, 1, 2, 3]⟩] false) (.seq (.region [⟨some 12, .load true 8 (.t 1), none, []⟩, ⟨some 13, .build [.int .i64 0, .list true [], .list true [], .int .i64 0, .list true [], .list true [], .list true [], .list true []] [], none, []⟩, ⟨some 14, .load true 8 (.t 1), none, []⟩, ⟨some 15, .bslice 8 3 (.agg [.int .i64 0, .list true [], .list true [], .int .i64 0, .list true [], .list true [], .list true [], .list true []]) [(0, (.t 12)), (1, (.t 13)), (2, (.t 14))], none, [0, 1, 2]⟩, ⟨some 2, .mv (.t 15), none, [3, 0, 1, 2, 3]⟩] false) (.seq (.region [⟨some 17, .mv (.t 2), none, []⟩, ⟨some 18, .call (.f 331) [.t 17], none, [0]⟩, ⟨some 19, .call (.f 327) [.t 18], none, [1, 1]⟩, ⟨some 16, .mv (.t 19), none, [2]⟩, ⟨some 20, .extract (.t 16) 0, none, [3]⟩, ⟨some 21, .extract (.t 16) 1, none, [3]⟩, ⟨some 3, .mv (.t 20), none, [4, 2, 0, 1, 2, 3, 4]⟩, ⟨some 4, .mv (.t 21), none, [5, 6, 0, 1, 2, 3, 4, 5, 6]⟩] false) (.seq (.region [⟨some 23, .bslice 1 1 (.int .u8 0) [(0, (.c (.int .u8 0)))], none, []⟩, ⟨some 24, .call (.f 327) [.t 23], none, [0]⟩, ⟨some 22, .mv (.t 24), none, [1]⟩, ⟨some 25, .extract (.t 22) 0, none, [2]⟩, ⟨some 26, .extract (.t 22) 1, none, [2]⟩, ⟨some 5, .mv (.t 25), none, [3, 1, 0, 1, 2, 3]⟩, ⟨some 6, .mv (.t 26), none, [4, 5, 0, 1, 2, 3, 4, 5]⟩] false) (.seq (.region [⟨some 28, .bslice 1 2 (.int .u8 0) [(0, (.c (.int .u8 1))), (1, (.c (.int .u8 0)))], none, []⟩, ⟨some 29, .call (.f 327) [.t 28], none, [0]⟩, ⟨some 27, .mv (.t 29), none, [1]⟩, ⟨some 30, .extract (.t 27) 0, none, [2]⟩, ⟨some 31, .extract (.t 27) 1, none, [2]⟩, ⟨some 7, .mv (.t 30), none, [3, 1, 0, 1, 2, 3]⟩, ⟨some 8, .mv (.t 31), none, [4, 5, 0, 1, 2, 3, 4, 5]⟩] false) (.seq (.region [⟨some 32, .call (.f 331) [.c (.list true [])], none, []⟩, ⟨some 33, .convS (.t 32), none, [0]⟩, ⟨some 34, .bin false .eql (.t 33) (.c (.str [0])), none, [1]⟩, ⟨some 35, .mv (.t 34), none, [2, 0]⟩, ⟨some 36, .mv (.t 4), some (35, true), [3]⟩, ⟨some 37, .bin false .eql (.t 36) (.c (.int .i64 0)), some (35, true), [4, 3]⟩, ⟨some 38, .pick (.t 35) (.t 37) (.c (.bool false)), none, [3, 5]⟩, ⟨some 39, .mv (.t 38), none, [6, 3]⟩, ⟨some 40, .mv (.t 3), some (39, true), [7]⟩, ⟨some 41, .mv (.t 2), some (39, true), [7]⟩, ⟨some 42, .call (.f 106) [.t 40, .t 41], some (39, true), [8, 9, 7, 7]⟩, ⟨some 43, .pick (.t 39) (.t 42) (.c (.bool false)), none, [7, 10]⟩, ⟨some 44, .mv (.t 43), none, [11, 10]⟩, ⟨some 45, .mv (.t 6), some (44, true), [12]⟩, ⟨some 46, .bin false .eql (.t 45) (.c (.int .i64 5)), some (44, true), [13, 12]⟩, ⟨some 47, .pick (.t 44) (.t 46) (.c (.bool false)), none, [12, 14]⟩, ⟨some 48, .mv (.t 47), none, [15, 12]⟩, ⟨some 49, .mv (.t 8), some (48, true), [16]⟩, ⟨some 50, .bin false .eql (.t 49) (.c (.int .i64 6)), some (48, true), [17, 16]⟩, ⟨some 51, .pick (.t 48) (.t 50) (.c (.bool false)), none, [16, 18]⟩, ⟨some 52, .mv (.t 51), none, [19, 16]⟩, ⟨some 53, .mv (.t 2), some (52, true), [20]⟩, ⟨some 54, .call (.f 329) [.t 53], some (52, true), [21, 20, 20]⟩, ⟨some 55, .pick (.t 52) (.t 54) (.c (.bool false)), none, [20, 22]⟩, ⟨some 0, .mv (.t 55), none, [23, 22, 0, 1, 2, 3, 4, 5, 6, 7, 8, 9, 10, 11, 12, 13, 14, 15, 16, 17, 18, 19, 20, 21, 22, 23]⟩] false) .ret))))))⟩
theorem told326 : trFn seat 326 = some il326 := by kernel_rfl

def il327 : IFn := ⟨59, [.cell 2 false 1, .cell 3 false 1], .seq (.region [⟨some 2, .alloc [.list true []], none, []⟩, ⟨some 3, .alloc [.int .i64 0], none, []⟩] false) (.seq (.region [⟨some 11, .mv (.t 0), none, []⟩, ⟨some 12, .call (.f 192) [.t 11], none, [0]⟩, ⟨some 10, .mv (.t 12), none, [1]⟩, ⟨some 13, .extract (.t 10) 0, none, [2]⟩, ⟨some 14, .extract (.t 10) 1, none, [2]⟩, ⟨some 15, .extract (.t 10) 2, none, [2]⟩, ⟨some 4, .mv (.t 13), none, [3, 1, 0, 1, 2, 3]⟩, ⟨some 5, .mv (.t 14), none, [4, 6, 0, 1, 2, 3, 4, 6]⟩, ⟨some 6, .mv (.t 15), none, [5, 7, 0, 1, 2, 3, 4, 5, 6, 7]⟩] false) (.seq (.block 0 (.seq (.region [⟨some 17, .mv (.t 6), none, []⟩, ⟨some 18, .bin false .neq (.t 17) (.c (.int .i64 0)), none, [0]⟩, ⟨some 16, .mv (.t 18), none, [1]⟩] false) (.cond (.t 16) (.seq (.region [⟨some 19, .mv (.t 6), none, []⟩, ⟨none, .store 1 (.t 2) (.c (.list true [])), none, []⟩, ⟨none, .store 1 (.t 3) (.t 19), none, [0, 1, 0, 1]⟩] false) .ret) (.seq (.region [⟨some 21, .mv (.t 5), none, []⟩, ⟨some 22, .len (.t 21), none, [0]⟩, ⟨some 23, .bin false .gtr (.t 22) (.c (.int .i64 0)), none, [1]⟩, ⟨some 20, .mv (.t 23), none, [2]⟩] false) (.cond (.t 20) (.seq (.region [⟨none, .store 1 (.t 2) (.c (.list true [])), none, []⟩, ⟨none, .store 1 (.t 3) (.c (.int .i64 2)), none, [0, 0]⟩] false) .ret) (.seq (.region [⟨some 25, .mv (.t 4), none, []⟩, ⟨some 26, .len (.t 25), none, [0]⟩, ⟨some 27, .bin false .eql (.t 26) (.c (.int .i64 0)), none, [1]⟩, ⟨some 24, .mv (.t 27), none, [2]⟩] false) (.cond (.t 24) (.seq (.region [⟨none, .store 1 (.t 2) (.c (.list true [])), none, []⟩, ⟨none, .store 1 (.t 3) (.c (.int .i64 5)), none, [0, 0]⟩] false) .ret) .skip))))))) (.seq (.region [⟨some 7, .alloc [.list true []], none, []⟩] false) (.seq (.seq (.region [⟨some 28, .mv (.t 4), none, []⟩, ⟨some 29, .call (.f 343) [.t 28], none, [0]⟩] false) (.block 1 (.rangeFunc (.t 29) [30, 31] (.seq (.region [⟨some 8, .alloc [.int .i64 0, .list true [], .list true [], .int .i64 0, .list true [], .list true [], .list true [], .list true []], none, []⟩, ⟨none, .store 8 (.t 8) (.t 30), none, [0, 0]⟩] false) (.region [⟨some 9, .mv (.t 31), none, []⟩] false)) (.block 2 (.seq (.seq (.region [⟨some 32, .mv (.t 9), none, []⟩, ⟨some 33, .bin false .neq (.t 32) (.c (.int .i64 0)), none, [0]⟩] false) (.cond (.t 33) (.seq (.region [⟨some 34, .mv (.t 9), none, []⟩, ⟨none, .store 1 (.t 2) (.c (.list true [])), none, []⟩, ⟨none, .store 1 (.t 3) (.t 34), none, [0, 1, 0, 1]⟩] false) .ret) .skip)) (.region [⟨some 35, .load false 1 (.t 7), none, []⟩, ⟨some 36, .load true 8 (.t 8), none, []⟩, ⟨some 37, .bslice 8 1 (.agg [.int .i64 0, .list true [], .list true [], .int .i64 0, .list true [], .list true [], .list true [], .list true []]) [(0, (.t 36))], none, [1]⟩, ⟨some 38, .append 8 160 (.t 35) (.t 37), none, [0, 2]⟩, ⟨none, .store 1 (.t 7) (.t 38), none, [3, 3, 0, 1, 2, 3]⟩] false)))))) (.seq (.seq (.region [⟨some 39, .load false 1 (.t 7), none, []⟩, ⟨some 40, .load false 1 (.t 7), none, []⟩, ⟨some 41, .len (.t 40), none, [1]⟩, ⟨some 42, .bin false .sub (.t 41) (.c (.int .i64 1)), none, [2]⟩, ⟨some 43, .iaddr 8 (.t 39) (.t 42), none, [0, 3]⟩, ⟨some 44, .faddr 0 (.t 43), none, [4]⟩, ⟨some 45, .load false 1 (.t 44), none, [5]⟩, ⟨some 46, .bin false .eql (.t 45) (.c (.int .i64 0)), none, [6]⟩] false) (.cond (.t 46) (.seq (.region [⟨none, .store 1 (.t 2) (.c (.list true [])), none, []⟩, ⟨none, .store 1 (.t 3) (.c (.int .i64 6)), none, [0, 0]⟩] false) .ret) .skip)) (.seq (.block 3 (.loop (.seq (.seq (.region [⟨some 47, .load false 1 (.t 7), none, []⟩, ⟨some 48, .len (.t 47), none, [0]⟩, ⟨some 49, .call (.f 125) [.t 48], none, [1]⟩, ⟨some 50, .un .not (.t 49), none, [2]⟩] false) (.cond (.t 50) .skip (.exit 3))) (.block 4 (.region [⟨some 51, .load false 1 (.t 7), none, []⟩, ⟨some 52, .build [.int .i64 0, .list true [], .list true [], .int .i64 0, .list true [], .list true [], .list true [], .list true []] [], none, []⟩, ⟨some 53, .bslice 8 1 (.agg [.int .i64 0, .list true [], .list true [], .int .i64 0, .list true [], .list true [], .list true [], .list true []]) [(0, (.t 52))], none, [1]⟩, ⟨some 54, .append 8 160 (.t 51) (.t 53), none, [0, 2]⟩, ⟨none, .store 1 (.t 7) (.t 54), none, [3, 3, 0, 1, 2, 3]⟩] false))))) (.seq (.seq (.region [⟨some 55, .load false 1 (.t 7), none, []⟩, ⟨some 56, .call (.f 329) [.t 55], none, [0]⟩, ⟨some 57, .un .not (.t 56), none, [1]⟩] false) (.cond (.t 57) (.seq (.region [⟨none, .store 1 (.t 2) (.c (.list true [])), none, []⟩, ⟨none, .store 1 (.t 3) (.c (.int .i64 8)), none, [0, 0]⟩] false) .ret) .skip)) (.seq (.region [⟨some 58, .load false 1 (.t 7), none, []⟩, ⟨none, .store 1 (.t 2) (.t 58), none, [0, 0]⟩, ⟨none, .store 1 (.t 3) (.c (.int .i64 0)), none, [1, 0, 1]⟩] false) .ret))))))))⟩
theorem told327 : trFn seat 327 = some il327 := by kernel_rfl

def il329 : IFn := ⟨20, [.t 2], .seq (.region [⟨some 1, .box (.t 0), none, []⟩, ⟨some 2, .mv (.c (.bool false)), none, []⟩] false) (.seq (.region [⟨some 5, .load false 1 (.t 1), none, []⟩, ⟨some 6, .call (.f 344) [.t 5], none, [0]⟩, ⟨none, .store 1 (.t 1) (.t 6), none, [1, 1, 0, 1]⟩] false) (.seq (.seq (.region [⟨some 7, .load false 1 (.t 1), none, []⟩, ⟨some 8, .len (.t 7), none, [0]⟩, ⟨some 9, .mv (.c (.int .i64 0)), none, []⟩] false) (.block 0 (.loop (.seq (.region [⟨some 10, .bin false .lss (.t 9) (.t 8), none, []⟩] false) (.seq (.cond (.t 10) .skip (.exit 0)) (.seq (.block 1 (.seq (.region [⟨some 11, .mv (.t 9), none, []⟩, ⟨some 12, .iaddr 8 (.t 7) (.t 9), none, []⟩, ⟨some 13, .load true 8 (.t 12), none, [1]⟩, ⟨some 3, .alloc [.int .i64 0], none, []⟩, ⟨some 4, .alloc [.int .i64 0, .list true [], .list true [], .int .i64 0, .list true [], .list true [], .list true [], .list true []], none, []⟩, ⟨none, .store 1 (.t 3) (.t 11), none, [3, 0, 0, 1, 2, 3, 4]⟩, ⟨none, .store 8 (.t 4) (.t 13), none, [4, 2, 5, 0, 1, 2, 3, 4, 5]⟩] false) (.seq (.region [⟨some 14, .faddr 5 (.t 4), none, []⟩, ⟨some 15, .faddr 2 (.t 14), none, [0]⟩, ⟨some 16, .load false 1 (.t 15), none, [1]⟩, ⟨some 17, .mkfunc 345 [] [.t 1, .t 3], none, []⟩, ⟨some 18, .call (.f 162) [.t 16, .t 17], none, [2, 3]⟩] false) (.cond (.t 18) (.seq (.region [⟨some 2, .mv (.c (.bool false)), none, []⟩] false) .ret) .skip)))) (.region [⟨some 19, .bin false .add (.t 9) (.c (.int .i64 1)), none, []⟩, ⟨some 9, .mv (.t 19), none, [0]⟩] false))))))) (.seq (.region [⟨some 2, .mv (.c (.bool true)), none, []⟩] false) .ret)))⟩
theorem told329 : trFn seat 329 = some il329 := by kernel_rfl

def il331 : IFn := ⟨24, [.t 2], .seq (.region [⟨some 2, .mv (.c (.list true [])), none, []⟩] false) (.seq (.region [⟨some 6, .mv (.t 0), none, []⟩, ⟨some 7, .call (.f 344) [.t 6], none, [0]⟩, ⟨some 0, .mv (.t 7), none, [1, 1, 0, 1]⟩] false) (.seq (.region [⟨some 3, .mv (.c (.list true [])), none, []⟩] false) (.seq (.seq (.region [⟨some 8, .mv (.t 0), none, []⟩, ⟨some 9, .mv (.t 0), none, []⟩, ⟨some 10, .call (.f 104) [.t 9], none, [1]⟩, ⟨some 11, .bin false .add (.t 10) (.c (.int .i64 1)), none, [2]⟩, ⟨some 12, .slice 8 (.t 8) none (some (.t 11)) none, none, [0, 3]⟩, ⟨some 13, .len (.t 12), none, [4]⟩, ⟨some 14, .mv (.c (.int .i64 0)), none, []⟩] false) (.block 0 (.loop (.seq (.region [⟨some 15, .bin false .lss (.t 14) (.t 13), none, []⟩] false) (.seq (.cond (.t 15) .skip (.exit 0)) (.seq (.block 1 (.seq (.region [⟨some 16, .iaddr 8 (.t 12) (.t 14), none, []⟩, ⟨some 17, .load true 8 (.t 16), none, [0]⟩, ⟨some 5, .alloc [.int .i64 0, .list true [], .list true [], .int .i64 0, .list true [], .list true [], .list true [], .list true []], none, []⟩, ⟨none, .store 8 (.t 5) (.t 17), none, [2, 1, 0, 1, 2]⟩] false) (.region [⟨some 18, .mv (.t 3), none, []⟩, ⟨some 19, .load true 8 (.t 5), none, []⟩, ⟨some 20, .call (.f 188) [.t 18, .t 19], none, [0, 1]⟩, ⟨some 3, .mv (.t 20), none, [2, 2, 0, 1, 2]⟩] false))) (.region [⟨some 21, .bin false .add (.t 14) (.c (.int .i64 1)), none, []⟩, ⟨some 14, .mv (.t 21), none, [0]⟩] false))))))) (.seq (.region [⟨some 22, .mv (.t 3), none, []⟩, ⟨some 23, .call (.f 198) [.c (.list true []), .t 22], none, [0]⟩, ⟨some 2, .mv (.t 23), none, [1, 1, 0, 1]⟩] false) .ret))))⟩
theorem told331 : trFn seat 331 = some il331 := by kernel_rfl

def il343 : IFn := ⟨4, [.t 2], .seq (.region [⟨some 1, .box (.t 0), none, []⟩, ⟨some 2, .mv (.c .nilfunc), none, []⟩] false) (.seq (.region [⟨some 3, .mkfunc 352 [] [.t 1], none, []⟩, ⟨some 2, .mv (.t 3), none, [0, 0]⟩] false) .ret)⟩
theorem told343 : trFn seat 343 = some il343 := by kernel_rfl

def il344 : IFn := ⟨6, [.t 2], .seq (.region [⟨some 2, .mv (.c (.list true [])), none, []⟩] false) (.seq (.seq (.region [⟨some 3, .mv (.t 0), none, []⟩, ⟨some 4, .call (.f 101) [.t 3], none, [0]⟩] false) (.cond (.t 4) (.seq (.region [⟨some 5, .mv (.t 0), none, []⟩, ⟨some 2, .mv (.t 5), none, [0, 0]⟩] false) .ret) .skip)) (.seq (.region [⟨some 2, .mv (.c (.list true [])), none, []⟩] false) .ret))⟩
theorem told344 : trFn seat 344 = some il344 := by kernel_rfl

def il345 : IFn := ⟨10, [.t 4], .seq (.region [⟨some 4, .mv (.c (.bool false)), none, []⟩] false) (.seq (.region [⟨some 5, .load false 1 (.t 1), none, []⟩, ⟨some 6, .load false 1 (.t 2), none, []⟩, ⟨some 7, .mv (.t 0), none, []⟩, ⟨some 8, .call (.f 346) [.t 5, .t 6, .t 7], none, [0, 1, 2]⟩, ⟨some 9, .un .not (.t 8), none, [3]⟩, ⟨some 4, .mv (.t 9), none, [4, 3, 0, 1, 2, 3, 4]⟩] false) .ret)⟩
theorem told345 : trFn seat 345 = some il345 := by kernel_rfl

def il346 : IFn := ⟨56, [.t 6], .seq (.region [⟨some 6, .mv (.c (.bool false)), none, []⟩] false) (.seq (.seq (.region [⟨some 9, .mv (.t 2), none, []⟩, ⟨some 10, .bin false .mul (.c (.int .i64 2)) (.t 9), none, [0]⟩, ⟨some 11, .mv (.t 1), none, []⟩, ⟨some 12, .mv (.t 0), none, []⟩, ⟨some 13, .len (.t 12), none, [3]⟩, ⟨some 14, .call (.f 255) [.t 10, .t 11, .t 13], none, [1, 2, 4]⟩, ⟨some 15, .un .not (.t 14), none, [5]⟩, ⟨some 16, .mv (.t 15), none, [6, 5]⟩, ⟨some 17, .mv (.t 0), some (16, false), [7]⟩, ⟨some 18, .mv (.t 2), some (16, false), [7]⟩, ⟨some 19, .bin false .mul (.c (.int .i64 2)) (.t 18), some (16, false), [9, 7]⟩, ⟨some 20, .iaddr 8 (.t 17) (.t 19), some (16, false), [8, 10, 7]⟩, ⟨some 21, .faddr 0 (.t 20), some (16, false), [11, 7]⟩, ⟨some 22, .load false 1 (.t 21), some (16, false), [12, 7]⟩, ⟨some 23, .bin false .eql (.t 22) (.c (.int .i64 0)), some (16, false), [13, 7]⟩, ⟨some 24, .pick (.t 16) (.c (.bool true)) (.t 23), none, [7, 14]⟩] false) (.cond (.t 24) (.seq (.region [⟨some 6, .mv (.c (.bool false)), none, []⟩] false) .ret) .skip)) (.seq (.seq (.region [⟨some 25, .mv (.t 2), none, []⟩, ⟨some 26, .bin false .mul (.c (.int .i64 2)) (.t 25), none, [0]⟩, ⟨some 27, .mv (.t 0), none, []⟩, ⟨some 28, .len (.t 27), none, [2]⟩, ⟨some 29, .call (.f 263) [.t 26, .t 28], none, [1, 3]⟩, ⟨some 30, .len (.t 29), none, [4]⟩, ⟨some 31, .mv (.c (.int .i64 0)), none, []⟩] false) (.block 0 (.loop (.seq (.region [⟨some 32, .bin false .lss (.t 31) (.t 30), none, []⟩] false) (.seq (.cond (.t 32) .skip (.exit 0)) (.seq (.block 1 (.seq (.region [⟨some 33, .iaddr 1 (.t 29) (.t 31), none, []⟩, ⟨some 34, .load false 1 (.t 33), none, [0]⟩, ⟨some 8, .mv (.t 34), none, [1, 0, 1]⟩] false) (.seq (.seq (.region [⟨some 35, .mv (.t 8), none, []⟩, ⟨some 36, .mv (.t 1), none, []⟩, ⟨some 37, .bin false .eql (.t 35) (.t 36), none, [0, 1]⟩] false) (.cond (.t 37) (.exit 0) .skip)) (.seq (.region [⟨some 38, .mv (.t 0), none, []⟩, ⟨some 39, .mv (.t 8), none, []⟩, ⟨some 40, .iaddr 8 (.t 38) (.t 39), none, [0, 1]⟩, ⟨some 41, .faddr 0 (.t 40), none, [2]⟩, ⟨some 42, .load false 1 (.t 41), none, [3]⟩, ⟨some 43, .bin false .eql (.t 42) (.c (.int .i64 2)), none, [4]⟩, ⟨some 44, .mv (.t 43), none, [5]⟩, ⟨some 45, .mv (.t 0), some (44, true), [6]⟩, ⟨some 46, .mv (.t 8), some (44, true), [6]⟩, ⟨some 47, .iaddr 8 (.t 45) (.t 46), some (44, true), [7, 8, 6]⟩, ⟨some 48, .faddr 5 (.t 47), some (44, true), [9, 6]⟩, ⟨some 49, .faddr 2 (.t 48), some (44, true), [10, 6]⟩, ⟨some 50, .load false 1 (.t 49), some (44, true), [11, 6]⟩, ⟨some 51, .mv (.t 2), some (44, true), [6]⟩, ⟨some 52, .call (.f 204) [.t 50, .t 51], some (44, true), [12, 13, 6, 6]⟩, ⟨some 53, .un .not (.t 52), some (44, true), [14, 6]⟩, ⟨some 54, .pick (.t 44) (.t 53) (.c (.bool false)), none, [6, 15]⟩] false) (.cond (.t 54) (.seq (.region [⟨some 6, .mv (.c (.bool false)), none, []⟩] false) .ret) .skip))))) (.region [⟨some 55, .bin false .add (.t 31) (.c (.int .i64 1)), none, []⟩, ⟨some 31, .mv (.t 55), none, [0]⟩] false))))))) (.seq (.region [⟨some 6, .mv (.c (.bool true)), none, []⟩] false) .ret)))⟩
theorem told346 : trFn seat 346 = some il346 := by kernel_rfl

def il352 : IFn := ⟨42, [], .seq (.region [⟨some 3, .mv (.c (.int .i64 0)), none, []⟩] false) (.block 0 (.loop (.seq (.seq (.region [⟨some 8, .load false 1 (.t 1), none, []⟩, ⟨some 9, .len (.t 8), none, [0]⟩, ⟨some 10, .bin false .gtr (.t 9) (.c (.int .i64 0)), none, [1]⟩] false) (.cond (.t 10) .skip (.exit 0))) (.seq (.block 1 (.seq (.seq (.region [⟨some 13, .mv (.t 3), none, []⟩, ⟨some 14, .bin false .eql (.t 13) (.c (.int .i64 127)), none, [0]⟩] false) (.cond (.t 14) (.seq (.region [⟨some 15, .mv (.t 0), none, []⟩, ⟨some 16, .build [.int .i64 0, .list true [], .list true [], .int .i64 0, .list true [], .list true [], .list true [], .list true []] [], none, []⟩, ⟨some 17, .call (.t 15) [.t 16, .c (.int .i64 10)], none, [0, 1]⟩] false) .ret) .skip)) (.seq (.region [⟨some 19, .load false 1 (.t 1), none, []⟩, ⟨some 20, .call (.f 189) [.t 19], none, [0]⟩, ⟨some 18, .mv (.t 20), none, [1]⟩, ⟨some 21, .extract (.t 18) 0, none, [2]⟩, ⟨some 22, .extract (.t 18) 1, none, [2]⟩, ⟨some 23, .extract (.t 18) 2, none, [2]⟩, ⟨some 4, .alloc [.int .i64 0, .list true [], .list true [], .int .i64 0, .list true [], .list true [], .list true [], .list true []], none, []⟩, ⟨none, .store 8 (.t 4) (.t 21), none, [6, 3, 1, 0, 1, 2, 3, 6]⟩, ⟨some 5, .mv (.t 22), none, [4, 7, 0, 1, 2, 3, 4, 6, 7]⟩, ⟨some 6, .mv (.t 23), none, [5, 8, 0, 1, 2, 3, 4, 5, 6, 7, 8]⟩] false) (.seq (.seq (.region [⟨some 24, .build [.int .i64 0, .int .i64 0] [(0, (1, (.c (.int .i64 2)))), (1, (1, (.c (.int .i64 1))))], none, []⟩, ⟨some 25, .mv (.t 3), none, []⟩, ⟨some 26, .bin false .rem (.t 25) (.c (.int .i64 2)), none, [1]⟩, ⟨some 27, .idxA false 2 1 (.t 24) (.t 26), none, [0, 2]⟩, ⟨some 7, .mv (.t 27), none, [3, 0, 1, 2, 3]⟩] false) (.seq (.region [⟨some 28, .mv (.t 6), none, []⟩, ⟨some 29, .bin false .eql (.t 28) (.c (.int .i64 0)), none, [0]⟩, ⟨some 30, .mv (.t 29), none, [1]⟩, ⟨some 31, .faddr 0 (.t 4), some (30, true), [2]⟩, ⟨some 32, .load false 1 (.t 31), some (30, true), [3, 2]⟩, ⟨some 33, .mv (.t 7), some (30, true), [2]⟩, ⟨some 34, .bin false .eql (.t 32) (.t 33), some (30, true), [4, 5, 2]⟩, ⟨some 35, .pick (.t 30) (.t 34) (.c (.bool false)), none, [2, 6]⟩] false) (.cond (.t 35) (.region [⟨some 6, .mv (.c (.int .i64 7)), none, []⟩] false) .skip))) (.seq (.seq (.region [⟨some 36, .mv (.t 0), none, []⟩, ⟨some 37, .load true 8 (.t 4), none, []⟩, ⟨some 38, .mv (.t 6), none, []⟩, ⟨some 39, .call (.t 36) [.t 37, .t 38], none, [0, 1, 2]⟩, ⟨some 40, .un .not (.t 39), none, [3]⟩] false) (.cond (.t 40) .ret .skip)) (.region [⟨some 41, .mv (.t 5), none, []⟩, ⟨none, .store 1 (.t 1) (.t 41), none, [0, 0]⟩] false)))))) (.region [⟨some 11, .mv (.t 3), none, []⟩, ⟨some 12, .bin false .add (.t 11) (.c (.int .i64 1)), none, [0]⟩, ⟨some 3, .mv (.t 12), none, [1, 0, 1]⟩] false)))))⟩
theorem told352 : trFn seat 352 = some il352 := by kernel_rfl

theorem tw_stop {α : Type} {q p : α → Bool} : ∀ (D : List α) (k : Nat) (hk : k < D.length), (∀ j (h : j < D.length), j < k → p D[j] = true) → q D[k] = false → (D.takeWhile q).all p = true
  | [], k, hk, _, _ => by simp at hk
  | a :: D, 0, hk, _, hq => by
    simp only [List.getElem_cons_zero] at hq
    rw [List.takeWhile_cons, hq]; rfl
  | a :: D, k + 1, hk, h, hq => by
    have h0 := h 0 (by simp) (by omega)
    simp only [List.getElem_cons_zero] at h0
    have ih := tw_stop (q := q) (p := p) D k (by simpa using hk) (fun j hj hlt => by
      have := h (j + 1) (by simpa using hj) (by omega)
      simpa using this) (by simpa using hq)
    rw [List.takeWhile_cons]
    split
    · rw [List.all_cons, h0, ih]; rfl
    · rfl
theorem tw_bad {α : Type} {q p : α → Bool} : ∀ (D : List α) (k : Nat) (hk : k < D.length), (∀ j (h : j < D.length), j ≤ k → q D[j] = true) → p D[k] = false → (D.takeWhile q).all p = false
  | [], k, hk, _, _ => by simp at hk
  | a :: D, 0, hk, h, hp => by
    have h0 := h 0 (by simp) (by omega)
    simp only [List.getElem_cons_zero] at h0 hp
    rw [List.takeWhile_cons, if_pos h0, List.all_cons, hp]; rfl
  | a :: D, k + 1, hk, h, hp => by
    have h0 := h 0 (by simp) (by omega)
    simp only [List.getElem_cons_zero] at h0
    have ih := tw_bad (q := q) (p := p) D k (by simpa using hk) (fun j hj hlt => by
      have := h (j + 1) (by simpa using hj) (by omega)
      simpa using this) (by simpa using hp)
    rw [List.takeWhile_cons, if_pos h0, List.all_cons, ih, Bool.and_false]
theorem tw_end {α : Type} {q p : α → Bool} {D : List α} (h : ∀ j (hj : j < D.length), p D[j] = true) : (D.takeWhile q).all p = true := by
  refine List.all_eq_true.2 fun x hx => ?_
  obtain ⟨j, hj, rfl⟩ := List.getElem_of_mem ((List.takeWhile_sublist q).subset hx)
  exact h j hj

theorem oknown_spec (t : List Node) (ht : Tree.Ok t) : Fun seat 344 [nodes t] (nodes (known t)) := by
  unfold known
  by_cases h : Sane t
  · rw [if_pos h]
    refine Fun.of0R [r101] told344 (by simp [il344]) (by simp [idb_patchA]) (by simp [idb_patchA]) 4 ?_
    simp -implicitDefEqProofs only [il344, List.zipIdx_cons, List.zipIdx_nil, leafA, innerA, nodeA, patchA, Leaf.cells, Inner.cells, Node.cells, r101_c, r101_ask, decide_true, decide_false, ht, h, go_sem, Nat.reduceEqDiff, reduceIte, Nat.reduceAdd, Nat.reduceLeDiff, Nat.reduceLT, Nat.reduceSub]
  · rw [if_neg h]
    refine Fun.of0R [r101] told344 (by simp [il344]) (by simp [idb_patchA]) (by simp [idb_patchA]) 4 ?_
    simp -implicitDefEqProofs only [il344, List.zipIdx_cons, List.zipIdx_nil, leafA, innerA, nodeA, patchA, Leaf.cells, Inner.cells, Node.cells, r101_c, r101_ask, decide_true, decide_false, ht, h, go_sem, Nat.reduceEqDiff, reduceIte, Nat.reduceAdd, Nat.reduceLeDiff, Nat.reduceLT, Nat.reduceSub]
    try rfl
noncomputable def r344 : Reg seat := .of told344 (ask1 (fun a0' => isNs a0' ∧ Tree.Ok (dNs a0')) fun a0' => .fn (nodes (known (dNs a0')))) (ask1_ok fun a0' h => SaidOk.fn (Fun.weak (.cons (isNs.weak h.1) .nil) (oknown_spec _ h.2)))
theorem r344_c : r344.c = 344 := rfl
open Classical in
theorem r344_ask (a0' : AV) : r344.ask [a0'] = if isNs a0' ∧ Tree.Ok (dNs a0') then some (Said.fn (nodes (known (dNs a0')))) else none := by unfold r344 Reg.of ask1; exact ite_cl

def badI (t : List Node) (i y : Int) : Bool := decide ((nodeAt t y.toNat).kind = 2) && !(nodeAt t y.toNat).inner.unmerged.contains i
theorem namedB_eq (t : List Node) (x i : Int) (h : x ∈ ups (2 * i) t.length) (hk : (nodeAt t (2 * i).toNat).kind ≠ 0) : namedB t x i = ((directI (2 * i) t.length).takeWhile fun y => decide (y ≠ x)).all fun y => !badI t i y := by
  unfold namedB badI
  simp [h, hk]
theorem namedB_not (t : List Node) (x i : Int) (h : ¬ x ∈ ups (2 * i) t.length) : namedB t x i = false := by
  unfold namedB; simp [h]
theorem namedB_blank (t : List Node) (x i : Int) (h : (nodeAt t (2 * i).toNat).kind = 0) : namedB t x i = false := by
  unfold namedB; simp [h]
theorem unm_small {n : Node} (h : n.Ok) : Small n.inner.unmerged := h.inner.unmerged.1
set_option maxHeartbeats 2000000 in
theorem onamed_spec (t : List Node) (x i : Int) (ht : Tree.Ok t) (h7 : t.length ≤ 127) (hi : 0 ≤ i ∧ i ≤ 63) : Fun seat 346 [nodes t, .int .i64 x, .int .i64 i] (.bool (namedB t x i)) := by
  obtain ⟨k, rfl⟩ : ∃ k : Nat, i = k := ⟨i.toNat, by omega⟩
  have w1 : IntKind.i64.wrap (2 * (k : Int)) = 2 * (k : Int) := wrap64 _ (by omega) (by omega)
  have c1 : (2 * (k : Int)) = ((2 * k : Nat) : Int) := by omega
  by_cases hu : x ∈ ups (2 * (k : Int)) t.length
  rotate_left
  · rw [namedB_not _ _ _ hu]
    refine Fun.of0R [r255] told346 (by simp [il346]) (by simp [idb_patchA]) (by simp [idb_patchA]) 4 ?_
    simp -implicitDefEqProofs only [il346, List.zipIdx_cons, List.zipIdx_nil, leafA, innerA, nodeA, patchA, Leaf.cells, Inner.cells, Node.cells, r255_c, r255_ask, decide_true, decide_false, w1, hu, not_false_eq_true, go_sem, Nat.reduceEqDiff, reduceIte, Nat.reduceAdd, Nat.reduceLeDiff, Nat.reduceLT, Nat.reduceSub]
  have hN : IsN (2 * (k : Int)) t.length := by
    refine Classical.byContradiction fun h => ?_
    rw [ups_not h] at hu; cases hu
  have hkl : 2 * k < t.length := by have := hN.2; omega
  by_cases hb : t[2 * k].kind = 0
  · rw [namedB_blank _ _ _ (by rw [c1, Int.toNat_natCast, nodeAt_lt hkl]; exact hb)]
    rw [c1] at w1 hu
    refine Fun.of0R [r255] told346 (by simp [il346]) (by simp [idb_patchA]) (by simp [idb_patchA]) 4 ?_
    simp -implicitDefEqProofs only [il346, List.zipIdx_cons, List.zipIdx_nil, leafA, innerA, nodeA, patchA, Leaf.cells, Inner.cells, Node.cells, r255_c, r255_ask, decide_true, decide_false, w1, hu, c1, not_true_eq_false, fun H => ix_nodes H t (2 * k) hkl, hb, go_sem, Nat.reduceEqDiff, reduceIte, Nat.reduceAdd, Nat.reduceLeDiff, Nat.reduceLT, Nat.reduceSub]
  rw [namedB_eq _ _ _ hu (by rw [c1, Int.toNat_natCast, nodeAt_lt hkl]; exact hb)]
  have hD : ∀ y ∈ directI (2 * (k : Int)) t.length, IsN y t.length := fun y hy => ups_is (direct_ups hy)
  have hDl : (directI (2 * (k : Int)) t.length).length ≤ 7 := by have := ups_len (2 * (k : Int)) t.length; unfold directI; rw [List.length_tail]; omega
  obtain ⟨D, hDe⟩ : ∃ D, directI (2 * (k : Int)) t.length = D := ⟨_, rfl⟩
  rw [hDe] at hD hDl ⊢
  rw [c1] at hDe
  obtain ⟨B, hB⟩ : ∃ B, ((D.takeWhile fun y => decide (y ≠ x)).all fun y => !badI t k y) = B := ⟨_, rfl⟩
  rw [hB]
  refine Fun.of0W told346 (by simp [il346]) (by simp ) (by simp ) 4 ?_
  simp only [il346, List.zipIdx_cons, List.zipIdx_nil]
  refine WP.seqR [] fun K hK => ?_
  simp -implicitDefEqProofs only [leafA, innerA, nodeA, patchA, Leaf.cells, Inner.cells, Node.cells, decide_true, decide_false, go_sem, Nat.reduceEqDiff, reduceIte, Nat.reduceAdd, Nat.reduceLeDiff, Nat.reduceLT, Nat.reduceSub]
  refine hK _ ?_
  clear hK K
  refine WP.seqR [r255] fun K hK => ?_
  rw [c1] at w1 hu
  simp -implicitDefEqProofs only [leafA, innerA, nodeA, patchA, Leaf.cells, Inner.cells, Node.cells, r255_c, r255_ask, decide_true, decide_false, w1, c1, hu, not_true_eq_false, fun H => ix_nodes H t (2 * k) hkl, hb, go_sem, Nat.reduceEqDiff, reduceIte, Nat.reduceAdd, Nat.reduceLeDiff, Nat.reduceLT, Nat.reduceSub]
  refine hK _ ?_
  clear hK K
  refine WP.seqR [r263] fun K hK => ?_
  simp -implicitDefEqProofs only [leafA, innerA, nodeA, patchA, Leaf.cells, Inner.cells, Node.cells, r263_c, r263_ask, decide_true, decide_false, w1, c1, hDe, go_sem, Nat.reduceEqDiff, reduceIte, Nat.reduceAdd, Nat.reduceLeDiff, Nat.reduceLT, Nat.reduceSub]
  refine WP.weakL [(0, nodes t), (1, .int .i64 x), (2, .int .i64 k), (29, ints D), (30, .int .i64 (D.length : Nat)), (31, .int .i64 0)] ?_ ?_
  · simp only [envL_cons, Nat.reduceEqDiff, reduceIte, List.mem_cons, List.not_mem_nil, or_false, forall_eq_or_imp, forall_eq, weak_refl, and_self]
  refine WP.loop0 (fun j => j ≤ D.length ∧ ∀ q (h : q < D.length), q < j → D[q] ≠ x ∧ badI t k D[q] = false) (fun j => [(0, nodes t), (1, .int .i64 x), (2, .int .i64 k), (29, ints D), (30, .int .i64 (D.length : Nat)), (31, .int .i64 (j : Nat))]) (fun j => D.length - j) 0 ⟨Nat.zero_le _, fun q _ h => absurd h (Nat.not_lt_zero q)⟩ (fun j _ => by simp ) (by simp ) ?_
  rintro j ⟨hj, hno⟩
  refine wpc_soundR [r204] ?_
  by_cases hlt : (j : Int) < (D.length : Nat)
  · have hj' : j < D.length := by omega
    by_cases hx : D[j] = x
    · obtain rfl : B = true := hB.symm.trans (tw_stop D j hj' (fun q h hq => by rw [(hno q h hq).2]; rfl) (by simp [hx]))
      simp -implicitDefEqProofs only [leafA, innerA, nodeA, patchA, Leaf.cells, Inner.cells, Node.cells, r204_c, r204_ask, decide_true, decide_false, hlt, fun H => index_ints H D j hj', eq_true hx, go_sem, Nat.reduceEqDiff, reduceIte, Nat.reduceAdd, Nat.reduceLeDiff, Nat.reduceLT, Nat.reduceSub]
      refine hK _ ?_
      refine wpc_soundR [] ?_
      simp -implicitDefEqProofs only [leafA, innerA, nodeA, patchA, Leaf.cells, Inner.cells, Node.cells, decide_true, decide_false, go_sem, Nat.reduceEqDiff, reduceIte, Nat.reduceAdd, Nat.reduceLeDiff, Nat.reduceLT, Nat.reduceSub]
    have hN2 := hD _ (List.getElem_mem hj')
    obtain ⟨p, hp⟩ : ∃ p : Nat, D[j] = p := ⟨D[j].toNat, by have := hN2.2; omega⟩
    rw [hp] at hN2 hx
    have hpt : p < t.length := by have := hN2.2; omega
    have us := unm_small (ht.2 _ (List.getElem_mem hpt))
    by_cases hk2 : t[p].kind = 2
    · by_cases hc : t[p].inner.unmerged.contains (k : Int) = true
      · have hb2 : badI t k D[j] = false := by unfold badI; rw [hp, Int.toNat_natCast, nodeAt_lt hpt, hc]; simp
        simp -implicitDefEqProofs only [leafA, innerA, nodeA, patchA, Leaf.cells, Inner.cells, Node.cells, r204_c, r204_ask, decide_true, decide_false, hlt, fun H => index_ints H D j hj', hp, hx, fun H => ix_nodes H t p hpt, eq_true hk2, us, hc, not_true_eq_false, go_sem, Nat.reduceEqDiff, reduceIte, Nat.reduceAdd, Nat.reduceLeDiff, Nat.reduceLT, Nat.reduceSub]
        refine ⟨j + 1, ⟨by omega, fun q h hq => ?_⟩, by omega, by simp [wrapS (show j < 9223372036854775807 by omega)]⟩
        by_cases e : q = j
        · subst e; exact ⟨by rw [hp]; exact hx, hb2⟩
        · exact hno q h (by omega)
      · have hb2 : badI t k D[j] = true := by unfold badI; rw [hp, Int.toNat_natCast, nodeAt_lt hpt]; simp [hk2]; simpa using hc
        have hc' : t[p].inner.unmerged.contains (k : Int) = false := by simpa using hc
        obtain rfl : B = false := hB.symm.trans (tw_bad D j hj' (fun q h hq => by
          by_cases e : q = j
          · subst e; rw [hp]; simp [hx]
          · simp [(hno q h (by omega)).1]) (by rw [hb2]; rfl))
        simp -implicitDefEqProofs only [leafA, innerA, nodeA, patchA, Leaf.cells, Inner.cells, Node.cells, r204_c, r204_ask, decide_true, decide_false, hlt, fun H => index_ints H D j hj', hp, hx, fun H => ix_nodes H t p hpt, eq_true hk2, us, hc', not_false_eq_true, go_sem, Nat.reduceEqDiff, reduceIte, Nat.reduceAdd, Nat.reduceLeDiff, Nat.reduceLT, Nat.reduceSub]
    · have hb2 : badI t k D[j] = false := by unfold badI; rw [hp, Int.toNat_natCast, nodeAt_lt hpt]; simp [hk2]
      simp -implicitDefEqProofs only [leafA, innerA, nodeA, patchA, Leaf.cells, Inner.cells, Node.cells, r204_c, r204_ask, decide_true, decide_false, hlt, fun H => index_ints H D j hj', hp, hx, fun H => ix_nodes H t p hpt, hk2, go_sem, Nat.reduceEqDiff, reduceIte, Nat.reduceAdd, Nat.reduceLeDiff, Nat.reduceLT, Nat.reduceSub]
      refine ⟨j + 1, ⟨by omega, fun q h hq => ?_⟩, by omega, by simp [wrapS (show j < 9223372036854775807 by omega)]⟩
      by_cases e : q = j
      · subst e; exact ⟨by rw [hp]; exact hx, hb2⟩
      · exact hno q h (by omega)
  · obtain rfl : B = true := hB.symm.trans (tw_end fun q h => by rw [(hno q h (by omega)).2]; rfl)
    simp -implicitDefEqProofs only [leafA, innerA, nodeA, patchA, Leaf.cells, Inner.cells, Node.cells, r204_c, r204_ask, decide_true, decide_false, hlt, go_sem, Nat.reduceEqDiff, reduceIte, Nat.reduceAdd, Nat.reduceLeDiff, Nat.reduceLT, Nat.reduceSub]
    refine hK _ ?_
    refine wpc_soundR [] ?_
    simp -implicitDefEqProofs only [leafA, innerA, nodeA, patchA, Leaf.cells, Inner.cells, Node.cells, decide_true, decide_false, go_sem, Nat.reduceEqDiff, reduceIte, Nat.reduceAdd, Nat.reduceLeDiff, Nat.reduceLT, Nat.reduceSub]
noncomputable def r346 : Reg seat := .of told346 (ask3 (fun a0' a1' a2' => isNs a0' ∧ isI a1' ∧ isI a2' ∧ Tree.Ok (dNs a0') ∧ (dNs a0').length ≤ 127 ∧ 0 ≤ (dI a2') ∧ (dI a2') ≤ 63) fun a0' a1' a2' => .fn (.bool (namedB (dNs a0') (dI a1') (dI a2')))) (ask3_ok fun a0' a1' a2' h => SaidOk.fn (Fun.weak (.cons (isNs.weak h.1) (.cons (isI.weak h.2.1) (.cons (isI.weak h.2.2.1) .nil))) (onamed_spec _ _ _ h.2.2.2.1 h.2.2.2.2.1 h.2.2.2.2.2)))
theorem r346_c : r346.c = 346 := rfl
open Classical in
theorem r346_ask (a0' a1' a2' : AV) : r346.ask [a0', a1', a2'] = if isNs a0' ∧ isI a1' ∧ isI a2' ∧ Tree.Ok (dNs a0') ∧ (dNs a0').length ≤ 127 ∧ 0 ≤ (dI a2') ∧ (dI a2') ≤ 63 then some (Said.fn (.bool (namedB (dNs a0') (dI a1') (dI a2')))) else none := by unfold r346 Reg.of ask3; exact ite_cl
theorem notNamed_spec (t : List Node) (x i : Int) (ht : Tree.Ok t) (h7 : t.length ≤ 127) (hi : 0 ≤ i ∧ i ≤ 63) : Fun seat 345 [.int .i64 i, .iptr [nodes t] 0, .iptr [.int .i64 x] 0] (.bool (!namedB t x i)) := by
  refine Fun.of0R [r346] told345 (by simp [il345]) (by simp [idb_patchA]) (by simp [idb_patchA]) 4 ?_
  simp -implicitDefEqProofs only [il345, List.zipIdx_cons, List.zipIdx_nil, leafA, innerA, nodeA, patchA, Leaf.cells, Inner.cells, Node.cells, r346_c, r346_ask, decide_true, decide_false, ht, h7, hi, go_sem, Nat.reduceEqDiff, reduceIte, Nat.reduceAdd, Nat.reduceLeDiff, Nat.reduceLT, Nat.reduceSub]

theorem namedK_at {t : List Node} {k : Nat} (h : ∀ x, x < k → ((nodeAt t x).inner.unmerged.any fun i => !namedB t x i) = false) (hk : k = t.length) : NamedK t := by
  subst hk
  intro x hx i hi
  have := h x hx
  rw [Bool.eq_false_iff] at this
  refine Classical.byContradiction fun hn => this (List.any_eq_true.2 ⟨i, hi, ?_⟩)
  simpa using hn
theorem namedK_not {t : List Node} {k : Nat} (hk : k < t.length) (h : ((nodeAt t k).inner.unmerged.any fun i => !namedB t k i) = true) : ¬ NamedK t := by
  intro hn
  obtain ⟨i, hi, hb⟩ := List.any_eq_true.1 h
  rw [hn k hk i hi] at hb
  cases hb
theorem unm_in {t : List Node} (hs : Sane t) {x : Nat} (hx : x < t.length) {i : Int} (hi : i ∈ t[x].inner.unmerged) : 0 ≤ i ∧ i ≤ 63 := by
  have hc := (hs.1 x hx).2
  obtain ⟨ho, hk⟩ := unm_odd hs hx (by rw [nodeAt_lt hx]; exact hi)
  rw [nodeAt_lt hx] at hk
  unfold nodeCheck at hc
  rw [if_neg (by omega)] at hc
  split at hc
  · cases hc
  · rw [if_neg (by omega)] at hc
    exact (innerCheck_zero hc).2.2.2.1 i hi
set_option maxHeartbeats 1000000 in
theorem oNamed_spec (t : List Node) (ht : Tree.Ok t) : Fun seat 329 [nodes t] (.bool (decide (NamedT t))) := by
  have ok := known_ok ht
  have hl := known_len t
  have hs := known_sane t
  obtain ⟨a, ha⟩ : ∃ a, known t = a := ⟨_, rfl⟩
  have hn : NamedT t ↔ NamedK a := by rw [← ha]; exact Iff.rfl
  rw [ha] at ok hl hs
  obtain ⟨B, hB⟩ : ∃ B, decide (NamedT t) = B := ⟨_, rfl⟩
  rw [hB]
  refine Fun.of0W told329 (by simp [il329]) (by simp ) (by simp ) 4 ?_
  simp only [il329, List.zipIdx_cons, List.zipIdx_nil]
  refine WP.seqR [] fun K hK => ?_
  simp -implicitDefEqProofs only [leafA, innerA, nodeA, patchA, Leaf.cells, Inner.cells, Node.cells, decide_true, decide_false, go_sem, Nat.reduceEqDiff, reduceIte, Nat.reduceAdd, Nat.reduceLeDiff, Nat.reduceLT, Nat.reduceSub]
  refine hK _ ?_
  clear hK K
  refine WP.seqR [r344] fun K hK => ?_
  simp -implicitDefEqProofs only [leafA, innerA, nodeA, patchA, Leaf.cells, Inner.cells, Node.cells, r344_c, r344_ask, decide_true, decide_false, ht, ha, go_sem, Nat.reduceEqDiff, reduceIte, Nat.reduceAdd, Nat.reduceLeDiff, Nat.reduceLT, Nat.reduceSub]
  refine hK _ (WP.sealB 1 0 rfl rfl ?_)
  clear hK K
  refine WP.seqR [] fun K hK => ?_
  simp -implicitDefEqProofs only [leafA, innerA, nodeA, patchA, Leaf.cells, Inner.cells, Node.cells, decide_true, decide_false, go_sem, Nat.reduceEqDiff, reduceIte, Nat.reduceAdd, Nat.reduceLeDiff, Nat.reduceLT, Nat.reduceSub]
  refine WP.weakL [(1, .iptr [nodes a] 0), (7, nodes a), (8, .int .i64 (a.length : Nat)), (9, .int .i64 0)] ?_ ?_
  · simp only [envL_cons, Nat.reduceEqDiff, reduceIte, List.mem_cons, List.not_mem_nil, or_false, forall_eq_or_imp, forall_eq, weak_refl, and_self]
  refine WP.loopG (fun j => j ≤ a.length ∧ ∀ x, x < j → ((nodeAt a x).inner.unmerged.any fun i => !namedB a x i) = false) (fun j => [(1, .iptr [nodes a] 0), (7, nodes a), (8, .int .i64 (a.length : Nat)), (9, .int .i64 (j : Nat))]) (fun _ => [.dead]) (fun j => a.length - j) 0 ⟨Nat.zero_le _, fun x h => absurd h (Nat.not_lt_zero x)⟩ (fun k _ => ⟨by simp, by simp [idb_patchA], fun e he => by (simp only [List.mem_cons, List.not_mem_nil, or_false] at he); (rcases he with rfl | rfl | rfl | rfl | rfl | rfl) <;> first | exact encNode.entB _ _ _ _ | exact encI64.entB _ _ _ _ | exact encU8.entB _ _ _ _ | simp ⟩) (by simp ) ?_
  rintro j ⟨hj, hno⟩
  refine WP.seqR [] fun K2 hK2 => ?_
  simp -implicitDefEqProofs only [leafA, innerA, nodeA, patchA, Leaf.cells, Inner.cells, Node.cells, decide_true, decide_false, go_sem, Nat.reduceEqDiff, reduceIte, Nat.reduceAdd, Nat.reduceLeDiff, Nat.reduceLT, Nat.reduceSub]
  refine hK2 _ ?_
  clear hK2 K2
  by_cases hlt : (j : Int) < (a.length : Nat)
  · have hj' : j < a.length := by omega
    refine WP.seqR [] fun K2 hK2 => ?_
    simp -implicitDefEqProofs only [leafA, innerA, nodeA, patchA, Leaf.cells, Inner.cells, Node.cells, decide_true, decide_false, hlt, go_sem, Nat.reduceEqDiff, reduceIte, Nat.reduceAdd, Nat.reduceLeDiff, Nat.reduceLT, Nat.reduceSub]
    refine hK2 _ ?_
    clear hK2 K2
    refine WP.seq (WP.block (WP.seqR [] fun K2 hK2 => ?_))
    simp -implicitDefEqProofs only [leafA, innerA, nodeA, patchA, Leaf.cells, Inner.cells, Node.cells, decide_true, decide_false, fun H => ix_nodes H a j hj', go_sem, Nat.reduceEqDiff, reduceIte, Nat.reduceAdd, Nat.reduceLeDiff, Nat.reduceLT, Nat.reduceSub]
    refine hK2 _ (WP.sealB 3 1 rfl rfl ?_)
    clear hK2 K2
    refine wpc_soundR [] ?_
    simp -implicitDefEqProofs only [leafA, innerA, nodeA, patchA, Leaf.cells, Inner.cells, Node.cells, decide_true, decide_false, go_sem, Nat.reduceEqDiff, reduceIte, Nat.reduceAdd, Nat.reduceLeDiff, Nat.reduceLT, Nat.reduceSub]
    refine Callee.f told162 (any162_spec a[j].inner.unmerged (fun i => !namedB a j i) 345 il345 told345 [.iptr [nodes a] 0, .iptr [.int .i64 j] 0] (by simp ) fun i hi => notNamed_spec a j i ok hl (unm_in hs hj' hi)) ?_
    cases hb : a[j].inner.unmerged.any fun i => !namedB a j i with
    | true =>
      obtain rfl : B = false := hB.symm.trans (decide_eq_false fun h => namedK_not hj' (by rw [nodeAt_lt hj']; exact hb) (hn.1 h))
      simp -implicitDefEqProofs only [leafA, innerA, nodeA, patchA, Leaf.cells, Inner.cells, Node.cells, decide_true, decide_false, go_sem, Nat.reduceEqDiff, reduceIte, Nat.reduceAdd, Nat.reduceLeDiff, Nat.reduceLT, Nat.reduceSub]
    | false =>
      simp -implicitDefEqProofs only [leafA, innerA, nodeA, patchA, Leaf.cells, Inner.cells, Node.cells, decide_true, decide_false, go_sem, Nat.reduceEqDiff, reduceIte, Nat.reduceAdd, Nat.reduceLeDiff, Nat.reduceLT, Nat.reduceSub]
      refine wpc_soundR [] ?_
      simp -implicitDefEqProofs only [leafA, innerA, nodeA, patchA, Leaf.cells, Inner.cells, Node.cells, decide_true, decide_false, go_sem, Nat.reduceEqDiff, reduceIte, Nat.reduceAdd, Nat.reduceLeDiff, Nat.reduceLT, Nat.reduceSub]
      refine ⟨j + 1, ⟨by omega, fun x hx => ?_⟩, by omega, by simp [wrapS (show j < 9223372036854775807 by omega)]⟩
      by_cases e : x = j
      · subst e; rw [nodeAt_lt hj']; exact hb
      · exact hno x (by omega)
  · obtain rfl : B = true := hB.symm.trans (decide_eq_true (hn.2 (namedK_at hno (by omega))))
    refine wpc_soundR [] ?_
    simp -implicitDefEqProofs only [leafA, innerA, nodeA, patchA, Leaf.cells, Inner.cells, Node.cells, decide_true, decide_false, hlt, go_sem, Nat.reduceEqDiff, reduceIte, Nat.reduceAdd, Nat.reduceLeDiff, Nat.reduceLT, Nat.reduceSub]
    refine hK _ ?_
    refine wpc_soundR [] ?_
    simp -implicitDefEqProofs only [leafA, innerA, nodeA, patchA, Leaf.cells, Inner.cells, Node.cells, decide_true, decide_false, go_sem, Nat.reduceEqDiff, reduceIte, Nat.reduceAdd, Nat.reduceLeDiff, Nat.reduceLT, Nat.reduceSub]
noncomputable def r329 : Reg seat := .of told329 (ask1 (fun a0' => isNs a0' ∧ Tree.Ok (dNs a0')) fun a0' => .fn (.bool (decide (NamedT (dNs a0'))))) (ask1_ok fun a0' h => SaidOk.fn (Fun.weak (.cons (isNs.weak h.1) .nil) (oNamed_spec _ h.2)))
theorem r329_c : r329.c = 329 := rfl
open Classical in
theorem r329_ask (a0' : AV) : r329.ask [a0'] = if isNs a0' ∧ Tree.Ok (dNs a0') then some (Said.fn (.bool (decide (NamedT (dNs a0'))))) else none := by unfold r329 Reg.of ask1; exact ite_cl

theorem par_ref {x w : Int} (h : IsN x w) : IntKind.i64.wrap (x.tdiv (2 ^ (lev x.toNat + 1))) = x / 2 ^ (lev x.toNat + 1) ∧ ((parN x.toNat : Nat) : Int) = (if (x / 2 ^ (lev x.toNat + 1)).tmod 2 = 0 then x + 2 ^ lev x.toNat else x - 2 ^ lev x.toNat) ∧ (2 : Int) ^ lev x.toNat ≤ 64 ∧ (0 : Int) < 2 ^ lev x.toNat := by
  have := IsN.all (p := fun y _ => IntKind.i64.wrap ((y : Int).tdiv (2 ^ (lev y + 1))) = (y : Int) / 2 ^ (lev y + 1) ∧ ((parN y : Nat) : Int) = (if ((y : Int) / 2 ^ (lev y + 1)).tmod 2 = 0 then (y : Int) + 2 ^ lev y else (y : Int) - 2 ^ lev y) ∧ (2 : Int) ^ lev y ≤ 64 ∧ (0 : Int) < 2 ^ lev y) (by decide +kernel) h
  rwa [h.cast.1] at this
theorem dir_len (x w : Int) : (directI x w).length ≤ 6 := by
  have := ups_len x w
  unfold directI
  rw [List.length_tail]; omega
end Go.Proofs.YtihhinbjhiankaaGreatDoor.Al
