/-
  PLAIN LAWS: patches.
-/
import Derived.Test.YtihhinbjhiankaaGreatDoorAlP7
import Derived.Test.YtihhinbjhiankaaGreatDoorAlR
set_option linter.unusedSimpArgs false
set_option linter.unusedVariables false
namespace Go.Proofs.YtihhinbjhiankaaGreatDoor.Al

instance (l : List Int) : Decidable (Rises l) := inferInstanceAs (Decidable (List.Pairwise _ _))
/-- May a patch be? -/
def May (p : Patch) : Prop := (Rises p.x ∧ ∀ x ∈ p.x, 0 ≤ x ∧ x < p.len) ∧ (p.len = 0 ∨ Whole p.len) ∧ p.n.length = p.x.length
instance (p : Patch) : Decidable (May p) := inferInstanceAs (Decidable (_ ∧ _))
theorem May.len {p : Patch} (h : May p) : 0 ≤ p.len ∧ p.len ≤ 127 := by
  rcases h.2.1 with h | h
  · omega
  · have := h.le; omega
theorem May.nx {p : Patch} (h : May p) : p.n.length = p.x.length := h.2.2
theorem May.at {p : Patch} (h : May p) {k : Nat} (hk : k < p.x.length) : 0 ≤ p.x[k] ∧ p.x[k] < p.len := h.1.2 _ (List.getElem_mem hk)
theorem May.step {p : Patch} (h : May p) {i j : Nat} (hj : j < p.x.length) (hij : i < j) : p.x[i] < p.x[j] := List.pairwise_iff_getElem.1 h.1.1 i j (by omega) hj hij
/-- The number ahead of a place; ahead of all -1. -/
def prev (l : List Int) (k : Nat) : Int := if h : 0 < k ∧ k ≤ l.length then l[k - 1] else -1
theorem prev_zero (l : List Int) : prev l 0 = -1 := rfl
theorem prev_succ {l : List Int} {k : Nat} (h : k < l.length) : prev l (k + 1) = l[k] := by rw [prev, dif_pos ⟨by omega, h⟩]; rfl
theorem May.prev {p : Patch} (h : May p) {k : Nat} (hk : k < p.x.length) : prev p.x k < p.x[k] := by
  cases k with
  | zero => have := (h.at hk).1; rw [prev_zero]; omega
  | succ k => rw [prev_succ (by omega)]; exact h.step hk (by omega)
theorem may_of {p : Patch} (h : ∀ j (h : j < p.x.length), Al.prev p.x j < p.x[j] ∧ p.x[j] < p.len) (h1 : p.len = 0 ∨ Whole p.len) (h2 : p.n.length = p.x.length) : May p := by
  have h0 : ∀ j (hj : j < p.x.length), 0 ≤ p.x[j] := by
    intro j
    induction j with
    | zero => intro hj; have := (h 0 hj).1; rw [prev_zero] at this; omega
    | succ j ih => intro hj; have := (h (j + 1) hj).1; rw [prev_succ (by omega)] at this; have := ih (by omega); omega
  refine ⟨⟨rises_iff_step.2 fun j hj => ?_, fun x hx => ?_⟩, h1, h2⟩
  · have := (h (j + 1) hj).1; rwa [prev_succ (by omega)] at this
  · obtain ⟨j, hj, rfl⟩ := List.getElem_of_mem hx
    exact ⟨h0 j hj, (h j hj).2⟩

/-- Places are set, one by one. -/
def putsT (t : List Node) (l : List (Int × Node)) : List Node := l.foldl (fun t p => t.set p.1.toNat p.2) t
theorem putsT_snoc (t : List Node) (l : List (Int × Node)) (p : Int × Node) : putsT t (l ++ [p]) = (putsT t l).set p.1.toNat p.2 := by simp [putsT]
theorem putsT_len (t : List Node) (l : List (Int × Node)) : (putsT t l).length = t.length := by
  induction l generalizing t with
  | nil => rfl
  | cons p l ih => rw [putsT, List.foldl_cons]; have := ih (t.set p.1.toNat p.2); rw [putsT] at this; rw [this, List.length_set]
theorem putsT_ok {t : List Node} (ht : Tree.Ok t) {l : List (Int × Node)} (hl : ∀ p ∈ l, p.2.Ok) : Tree.Ok (putsT t l) := by
  induction l generalizing t with
  | nil => exact ht
  | cons p l ih => rw [putsT, List.foldl_cons]; exact ih (set_ok ht (hl p (by simp)) _) fun q hq => hl q (by simp [hq])

/-- What a tree becomes. -/
def applyT (a : List Node) (p : Patch) : List Node × Int :=
  if ¬ May p then ([], 2) else let t := putsT (fitT (known a) p.len.toNat) (p.x.zip p.n); if ¬ Sane t then ([], 14) else (t, 0)

/-- Those below a number. -/
def upTo (p : Nat → Bool) (k : Nat) : List Nat := (List.range k).filter p
def upI (p : Nat → Bool) (k : Nat) : List Int := (upTo p k).map Int.ofNat
def upN (f : Nat → Node) (p : Nat → Bool) (k : Nat) : List Node := (upTo p k).map f
theorem upTo_yes {p : Nat → Bool} {k : Nat} (h : p k = true) : upTo p (k + 1) = upTo p k ++ [k] := by simp [upTo, List.range_succ, h]
theorem upTo_no {p : Nat → Bool} {k : Nat} (h : p k = false) : upTo p (k + 1) = upTo p k := by simp [upTo, List.range_succ, h]
theorem upI_yes {p : Nat → Bool} {k : Nat} (h : p k = true) : upI p (k + 1) = upI p k ++ [(k : Int)] := by rw [upI, upTo_yes h, List.map_append]; rfl
theorem upI_no {p : Nat → Bool} {k : Nat} (h : p k = false) : upI p (k + 1) = upI p k := by rw [upI, upTo_no h]; rfl
theorem upN_yes {f : Nat → Node} {p : Nat → Bool} {k : Nat} (h : p k = true) : upN f p (k + 1) = upN f p k ++ [f k] := by rw [upN, upTo_yes h, List.map_append]; rfl
theorem upN_no {f : Nat → Node} {p : Nat → Bool} {k : Nat} (h : p k = false) : upN f p (k + 1) = upN f p k := by rw [upN, upTo_no h]; rfl
theorem upTo_len (p : Nat → Bool) (k : Nat) : (upTo p k).length ≤ k := by
  have := List.length_filter_le p (List.range k)
  simpa [upTo] using this
theorem upI_len (p : Nat → Bool) (k : Nat) : (upI p k).length ≤ k := by rw [upI, List.length_map]; exact upTo_len p k
theorem upN_len (f : Nat → Node) (p : Nat → Bool) (k : Nat) : (upN f p k).length ≤ k := by rw [upN, List.length_map]; exact upTo_len p k
theorem mem_upTo {p : Nat → Bool} {k x : Nat} : x ∈ upTo p k ↔ x < k ∧ p x = true := by simp [upTo]
theorem mem_upI {p : Nat → Bool} {k : Nat} {x : Int} : x ∈ upI p k ↔ ∃ j : Nat, x = j ∧ j < k ∧ p j = true := by
  simp only [upI, List.mem_map, mem_upTo]
  constructor
  · rintro ⟨j, h, rfl⟩; exact ⟨j, rfl, h⟩
  · rintro ⟨j, rfl, h⟩; exact ⟨j, h, rfl⟩
theorem upI_zero (p : Nat → Bool) : upI p 0 = [] := rfl
theorem upN_zero (f : Nat → Node) (p : Nat → Bool) : upN f p 0 = [] := rfl
theorem upI_rises (p : Nat → Bool) (k : Nat) : Rises (upI p k) := by
  induction k with
  | zero => exact List.Pairwise.nil
  | succ k ih =>
    cases h : p k with
    | true =>
      rw [upI_yes h]
      exact rises_snoc ih fun y hy => by
        obtain ⟨j, rfl, hj, _⟩ := mem_upI.1 hy; omega
    | false => rw [upI_no h]; exact ih
def differ (a b : List Node) (x : Nat) : Bool := decide (nodeAt a x ≠ nodeAt b x)
def placesT (a b : List Node) : List Int := upI (differ (known a) (known b)) (known b).length
def makeT (a b : List Node) : Patch := ⟨(known b).length, placesT a b, upN (nodeAt (known b)) (differ (known a) (known b)) (known b).length⟩

/-- A patch's node at a place, if it has one. -/
def ofP (p : Patch) (x : Int) : Option Node := ((p.x.zip p.n).find? fun q => q.1 == x).map (·.2)
theorem find_zip : ∀ {xs : List Int} {ns : List Node} {x : Int} {k : Nat} (hk : k < xs.length) (hn : k < ns.length), xs[k] = x → (∀ j (h : j < xs.length), j < k → xs[j] ≠ x) → ((xs.zip ns).find? fun q => q.1 == x).map (·.2) = some ns[k]
  | y :: xs, n :: ns, x, 0, hk, hn, h, hno => by
    have h' : y = x := h
    simp [h']
  | y :: xs, n :: ns, x, k + 1, hk, hn, h, hno => by
    have h0 : y ≠ x := hno 0 (by simp) (by omega)
    have := find_zip (xs := xs) (ns := ns) (x := x) (k := k) (by simpa using hk) (by simpa using hn) (by simpa using h) fun j hj hjk => by
      have := hno (j + 1) (by simpa using hj) (by omega)
      simpa using this
    rw [List.zip_cons_cons, List.find?_cons_of_neg (by simpa using h0), this]
    rfl
  | [], _, _, _, hk, _, _, _ => by simp at hk
  | _ :: _, [], _, _, _, hn, _, _ => by simp at hn
theorem ofP_at {p : Patch} {x : Int} {k : Nat} (hk : k < p.x.length) (hn : k < p.n.length) (h : p.x[k] = x) (hno : ∀ j (h : j < p.x.length), j < k → p.x[j] ≠ x) : ofP p x = some p.n[k] := find_zip hk hn h hno
theorem ofP_none {p : Patch} {x : Int} (hno : ∀ j (h : j < p.x.length), p.x[j] ≠ x) : ofP p x = none := by
  rw [ofP, Option.map_eq_none_iff, List.find?_eq_none]
  rintro ⟨y, n⟩ hm
  obtain ⟨j, hj, e⟩ := List.getElem_of_mem (List.of_mem_zip hm).1
  have := hno j hj
  rw [e] at this
  simpa using this
theorem ofP_ok {p : Patch} (hp : p.Ok) {x : Int} {n : Node} (h : ofP p x = some n) : n.Ok := by
  rw [ofP, Option.map_eq_some_iff] at h
  obtain ⟨⟨y, m⟩, h1, rfl⟩ := h
  exact hp.n.2 _ (List.of_mem_zip (List.mem_of_find?_eq_some h1)).2
theorem ofP_mem {p : Patch} (h : p.n.length = p.x.length) {x : Int} : (ofP p x).isSome = decide (x ∈ p.x) := by
  rw [Bool.eq_iff_iff, decide_eq_true_eq]
  constructor
  · intro hs
    obtain ⟨n, hn⟩ := Option.isSome_iff_exists.1 hs
    rw [ofP, Option.map_eq_some_iff] at hn
    obtain ⟨⟨y, m⟩, h1, rfl⟩ := hn
    have := List.find?_some h1
    rw [show x = y by simpa using (by simpa using this : y = x).symm]
    exact (List.of_mem_zip (List.mem_of_find?_eq_some h1)).1
  · intro hx
    cases ho : ofP p x with
    | some n => rfl
    | none =>
      rw [ofP, Option.map_eq_none_iff, List.find?_eq_none] at ho
      obtain ⟨j, hj, rfl⟩ := List.getElem_of_mem hx
      have : (p.x[j], p.n[j]'(by omega)) ∈ p.x.zip p.n := by
        rw [List.mem_iff_getElem]; exact ⟨j, by simp; omega, by simp⟩
      simpa using ho _ this

def joins (p q : Patch) (x : Nat) : Bool := decide ((x : Int) ∈ p.x ∨ (x : Int) ∈ q.x ∨ (x : Int) ≥ p.len)
def joinN (p q : Patch) (x : Nat) : Node := match ofP q x with
  | some n => n
  | none => (match ofP p x with | some n => n | none => .zero)
def joinT (p q : Patch) : Patch × Int := if May p ∧ May q then (⟨q.len, upI (joins p q) q.len.toNat, upN (joinN p q) (joins p q) q.len.toNat⟩, 0) else (.zero, 2)

end Go.Proofs.YtihhinbjhiankaaGreatDoor.Al
