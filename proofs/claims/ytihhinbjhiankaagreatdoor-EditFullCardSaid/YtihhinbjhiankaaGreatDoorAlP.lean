/-
  JOINED: P1, P2, P3, P4
-/
import Derived.Test.YtihhinbjhiankaaGreatDoorAlD
import Derived.Lib.SlicesCompact
set_option linter.unusedSimpArgs false
set_option linter.unusedVariables false
/- PLAIN LAWS: rising lists of numbers. -/
namespace Go.Proofs.YtihhinbjhiankaaGreatDoor.Al

def Rises (l : List Int) : Prop := l.Pairwise (· < ·)

theorem rises_ext : ∀ {a b : List Int}, Rises a → Rises b → (∀ x, x ∈ a ↔ x ∈ b) → a = b
  | [], [], _, _, _ => rfl
  | [], y :: b, _, _, h => absurd ((h y).2 (by simp)) (by simp)
  | x :: a, [], _, _, h => absurd ((h x).1 (by simp)) (by simp)
  | x :: a, y :: b, ha, hb, h => by
    have ha' := List.pairwise_cons.1 ha
    have hb' := List.pairwise_cons.1 hb
    have hxy : x = y := by
      have h1 := (h x).1 (by simp)
      have h2 := (h y).2 (by simp)
      rcases List.mem_cons.1 h1 with e | e
      · exact e
      · rcases List.mem_cons.1 h2 with e2 | e2
        · exact e2.symm
        · have := hb'.1 x e; have := ha'.1 y e2; omega
    subst hxy
    rw [rises_ext ha'.2 hb'.2 fun z => ?_]
    constructor
    · intro hz
      rcases List.mem_cons.1 ((h z).1 (by simp [hz])) with e | e
      · have := ha'.1 z hz; omega
      · exact e
    · intro hz
      rcases List.mem_cons.1 ((h z).2 (by simp [hz])) with e | e
      · have := hb'.1 z hz; omega
      · exact e

/-- A number is put where it belongs, once. -/
def ins (x : Int) : List Int → List Int
  | [] => [x]
  | y :: l => if x < y then x :: y :: l else if x = y then y :: l else y :: ins x l

theorem mem_ins {x z : Int} : ∀ {l : List Int}, z ∈ ins x l ↔ z = x ∨ z ∈ l
  | [] => by simp [ins]
  | y :: l => by
    simp only [ins]
    split
    · simp
    · split
      · rename_i h; subst h; simp
      · simp only [List.mem_cons, mem_ins (l := l)]
        constructor
        · rintro (h | h | h) <;> simp [h]
        · rintro (h | h | h) <;> simp [h]

theorem rises_ins {x : Int} : ∀ {l : List Int}, Rises l → Rises (ins x l)
  | [], _ => List.pairwise_singleton _ _
  | y :: l, h => by
    have h' := List.pairwise_cons.1 h
    simp only [ins]
    split
    · rename_i hlt
      exact List.pairwise_cons.2 ⟨fun z hz => by
        rcases List.mem_cons.1 hz with e | e
        · omega
        · have := h'.1 z e; omega, h⟩
    · split
      · exact h
      · refine List.pairwise_cons.2 ⟨fun z hz => ?_, rises_ins h'.2⟩
        rcases mem_ins.1 hz with e | e
        · omega
        · exact h'.1 z e

/-- The numbers of a list, rising, each once. -/
def rise (l : List Int) : List Int := l.foldr ins []

theorem mem_rise {z : Int} : ∀ {l : List Int}, z ∈ rise l ↔ z ∈ l
  | [] => by simp [rise]
  | x :: l => by
    have ih := mem_rise (z := z) (l := l)
    simp only [rise, List.foldr_cons] at ih ⊢
    rw [mem_ins, ih]; simp

theorem rises_rise : ∀ (l : List Int), Rises (rise l)
  | [] => List.Pairwise.nil
  | _ :: l => rises_ins (rises_rise l)

theorem rise_eq {l r : List Int} (h : Rises r) (hm : ∀ x, x ∈ r ↔ x ∈ l) : r = rise l := rises_ext h (rises_rise l) fun x => by rw [mem_rise]; exact hm x
theorem rise_of_rises {l : List Int} (h : Rises l) : rise l = l := (rise_eq h fun _ => Iff.rfl).symm
theorem rise_congr {l r : List Int} (h : ∀ x, x ∈ l ↔ x ∈ r) : rise l = rise r := rises_ext (rises_rise l) (rises_rise r) fun x => by rw [mem_rise, mem_rise]; exact h x
theorem rises_filter {l : List Int} {p : Int → Bool} (h : Rises l) : Rises (l.filter p) := List.Pairwise.filter p h
theorem rises_snoc {l : List Int} {x : Int} (h : Rises l) (hx : ∀ y ∈ l, y < x) : Rises (l ++ [x]) := by
  refine List.pairwise_append.2 ⟨h, List.pairwise_singleton _ _, fun a ha b hb => ?_⟩
  rw [List.mem_singleton] at hb; subst hb; exact hx a ha
theorem rises_nodup {l : List Int} (h : Rises l) : l.Nodup := List.Pairwise.imp (fun h => by omega) h

theorem length_rise_le (l : List Int) : (rise l).length ≤ l.length := by
  have key : ∀ (x : Int) (r : List Int), (ins x r).length ≤ r.length + 1 := by
    intro x r
    induction r with
    | nil => simp [ins]
    | cons y r ih => simp only [ins]; split <;> (try split) <;> simp <;> omega
  induction l with
  | nil => simp [rise]
  | cons x l ih =>
    simp only [rise, List.foldr_cons, List.length_cons] at ih ⊢
    have := key x (l.foldr ins [])
    omega

theorem rises_len {r l : List Int} (h : Rises r) (hs : ∀ x ∈ r, x ∈ l) : r.length ≤ (rise l).length := by
  have e : r = (rise l).filter fun x => decide (x ∈ r) := rises_ext h (rises_filter (rises_rise l)) fun x => by
    rw [List.mem_filter, mem_rise]
    simp only [decide_eq_true_eq]
    exact ⟨fun hx => ⟨hs x hx, hx⟩, fun hx => hx.2⟩
  rw [e]; exact List.length_filter_le _ _

end Go.Proofs.YtihhinbjhiankaaGreatDoor.Al

/- PLAIN LAWS: what is sorted and thinned rises. -/
namespace Go.Proofs.YtihhinbjhiankaaGreatDoor.Al

def sorted (l : List Int) : List Int := l.mergeSort fun x y => decide (x ≤ y)

theorem sorted_perm (l : List Int) : (sorted l).Perm l := List.mergeSort_perm l _
theorem sorted_length (l : List Int) : (sorted l).length = l.length := (sorted_perm l).length_eq
theorem mem_sorted {l : List Int} {x : Int} : x ∈ sorted l ↔ x ∈ l := (sorted_perm l).mem_iff
theorem sorted_le (l : List Int) : (sorted l).Pairwise (· ≤ ·) := by
  have := List.pairwise_mergeSort (le := fun x y : Int => decide (x ≤ y)) (fun a b c h1 h2 => by simp at *; omega) (fun a b => by simp; omega) l
  exact List.Pairwise.imp (fun h => by simpa using h) this

theorem compact_of_le {s : List Int} (hs : s.Pairwise (· ≤ ·)) : ∀ m, m ≤ s.length → Rises (Lib.compactUpTo s.toArray m) ∧ ∀ x, x ∈ Lib.compactUpTo s.toArray m ↔ ∃ j, ∃ h : j < s.length, j < m ∧ s[j] = x := by
  have hle : ∀ (i j : Nat) (hi : i < s.length) (hj : j < s.length), i ≤ j → s[i] ≤ s[j] := by
    intro i j hi hj hij
    rcases Nat.lt_or_eq_of_le hij with h | h
    · exact List.pairwise_iff_getElem.1 hs i j hi hj h
    · subst h; exact Int.le_refl _
  intro m
  induction m with
  | zero => intro _; exact ⟨by simp [Lib.compactUpTo, Rises], fun x => by simp [Lib.compactUpTo]⟩
  | succ m ih =>
    intro hm
    obtain ⟨h1, h2⟩ := ih (by omega)
    have hml : m < s.length := by omega
    have hg : s.toArray[m]! = s[m] := by simp [hml]
    rw [Lib.compactUpTo_succ]
    by_cases hk : Lib.keeps s.toArray m = true
    · rw [if_pos hk, hg]
      have hlt : ∀ y ∈ Lib.compactUpTo s.toArray m, y < s[m] := by
        intro y hy
        obtain ⟨j, hj, hjm, rfl⟩ := (h2 y).1 hy
        have hm1 : m - 1 < s.length := by omega
        have a := hle j (m - 1) hj hm1 (by omega)
        have b := hle (m - 1) m hm1 hml (by omega)
        have c : s[m] ≠ s[m - 1] := by
          simp only [Lib.keeps, decide_eq_true_eq] at hk
          rcases hk with hk | hk
          · omega
          · simpa [hml, hm1] using hk
        omega
      refine ⟨rises_snoc h1 hlt, fun x => ?_⟩
      rw [List.mem_append, h2]
      constructor
      · rintro (⟨j, hj, hjm, rfl⟩ | hx)
        · exact ⟨j, hj, by omega, rfl⟩
        · simp at hx; subst hx; exact ⟨m, hml, by omega, rfl⟩
      · rintro ⟨j, hj, hjm, rfl⟩
        rcases Nat.lt_or_ge j m with h | h
        · exact .inl ⟨j, hj, h, rfl⟩
        · have : j = m := by omega
          subst this; exact .inr (by simp)
    · rw [if_neg hk]
      simp only [Lib.keeps, decide_eq_true_eq, not_or, Classical.not_not] at hk
      have hm1 : m - 1 < s.length := by omega
      have he : s[m] = s[m - 1] := by simpa [hml, hm1] using hk.2
      refine ⟨by simpa using h1, fun x => ?_⟩
      rw [List.append_nil, h2]
      constructor
      · rintro ⟨j, hj, hjm, rfl⟩
        exact ⟨j, hj, by omega, rfl⟩
      · rintro ⟨j, hj, hjm, rfl⟩
        rcases Nat.lt_or_ge j m with h | h
        · exact ⟨j, hj, h, rfl⟩
        · have : j = m := by omega
          subst this; exact ⟨j - 1, hm1, by omega, he.symm⟩

theorem compact_sorted (l : List Int) : Lib.compact (sorted l) = rise l := by
  obtain ⟨h1, h2⟩ := compact_of_le (sorted_le l) (sorted l).length (Nat.le_refl _)
  refine rise_eq h1 fun x => ?_
  rw [← mem_sorted (l := l)]
  refine (h2 x).trans ⟨?_, fun hx => ?_⟩
  · rintro ⟨j, hj, _, rfl⟩; exact List.getElem_mem _
  · obtain ⟨j, hj, e⟩ := List.getElem_of_mem hx
    exact ⟨j, hj, hj, e⟩

/-- Sorting what rises, in whatever order, is what rises. -/
theorem sorted_eq {l r : List Int} (hp : l.Perm r) (hr : Rises r) : sorted l = r := by
  have hn : (sorted l).Nodup := ((sorted_perm l).trans hp).symm.nodup_iff.1 (rises_nodup hr) 
  have h1 : Rises (sorted l) := by
    have := List.Pairwise.and (sorted_le l) hn
    exact List.Pairwise.imp (fun ⟨a, b⟩ => by have : _ ≠ _ := b; omega) this
  exact rises_ext h1 hr fun x => ((sorted_perm l).trans hp).mem_iff

end Go.Proofs.YtihhinbjhiankaaGreatDoor.Al

/- PLAIN LAWS: binary heaps in lists. -/
namespace Go.Proofs.YtihhinbjhiankaaGreatDoor.Al

def at' (l : List Int) (i : Nat) : Int := l.getD i 0
theorem at_eq {l : List Int} {i : Nat} (h : i < l.length) : at' l i = l[i] := by simp [at', h]

def swapL (l : List Int) (i j : Nat) : List Int := (l.set i (at' l j)).set j (at' l i)
theorem swapL_length (l : List Int) (i j : Nat) : (swapL l i j).length = l.length := by simp [swapL]
theorem swapL_perm {l : List Int} {i j : Nat} (hi : i < l.length) (hj : j < l.length) : (swapL l i j).Perm l := by
  rw [swapL, at_eq hi, at_eq hj]; exact List.set_set_perm hi hj
theorem at_swapL {l : List Int} {i j k : Nat} (hi : i < l.length) (hj : j < l.length) : at' (swapL l i j) k = if k = j then at' l i else if k = i then at' l j else at' l k := by
  simp only [at', swapL, List.getD_eq_getElem?_getD, List.getElem?_set, List.length_set]
  by_cases h1 : k = j
  · subst h1; simp [hj]
  · by_cases h2 : k = i
    · subst h2; simp [hi, h1, Ne.symm h1]
    · simp [h1, h2, Ne.symm h1, Ne.symm h2]

def par (j : Nat) : Nat := (j - 1) / 2

/-- Among the first n, each is no less than its parent. -/
def HeapN (n : Nat) (l : List Int) : Prop := ∀ j, 0 < j → j < n → at' l (par j) ≤ at' l j
/-- .. but for what stands at i, and its parent. -/
def UpHole (n : Nat) (l : List Int) (i : Nat) : Prop := (∀ j, 0 < j → j < n → j ≠ i → at' l (par j) ≤ at' l j) ∧ (0 < i → ∀ c, 0 < c → c < n → par c = i → at' l (par i) ≤ at' l c)
/-- .. but for what stands at i, its parent and its children. -/
def Hole (n : Nat) (l : List Int) (i : Nat) : Prop := (∀ j, 0 < j → j < n → j ≠ i → par j ≠ i → at' l (par j) ≤ at' l j) ∧ (0 < i → ∀ c, 0 < c → c < n → par c = i → at' l (par i) ≤ at' l c)

theorem par_lt {j : Nat} (h : 0 < j) : par j < j := by unfold par; omega
theorem par_left (i : Nat) : par (2 * i + 1) = i := by unfold par; omega
theorem par_right (i : Nat) : par (2 * i + 2) = i := by unfold par; omega
theorem par_cases {c i : Nat} (hc : 0 < c) (h : par c = i) : c = 2 * i + 1 ∨ c = 2 * i + 2 := by unfold par at h; omega

theorem UpHole.zero {n : Nat} {l : List Int} (h : UpHole n l 0) : HeapN n l := fun j h0 hj => h.1 j h0 hj (by omega)
theorem UpHole.heap {n : Nat} {l : List Int} {i : Nat} (h : UpHole n l i) (hi : at' l (par i) ≤ at' l i) : HeapN n l := fun j h0 hj => by
  by_cases e : j = i
  · subst e; exact hi
  · exact h.1 j h0 hj e
/-- One step up. -/
theorem UpHole.up {n : Nat} {l : List Int} {i : Nat} (h : UpHole n l i) (h0 : 0 < i) (hi : i < n) (hn : n ≤ l.length) (hlt : at' l i < at' l (par i)) : UpHole n (swapL l (par i) i) (par i) := by
  have hp := par_lt h0
  refine ⟨fun j hj0 hj hne => ?_, fun hp0 c hc0 hc hpc => ?_⟩
  · rw [at_swapL (by omega) (by omega), at_swapL (by omega) (by omega)]
    by_cases e : j = i
    · subst e; rw [if_neg (by omega), if_pos rfl, if_pos rfl]; omega
    · rw [if_neg e, if_neg hne]
      by_cases e1 : par j = i
      · rw [if_pos e1]; exact h.2 h0 j hj0 hj e1
      · rw [if_neg e1]
        by_cases e2 : par j = par i
        · rw [if_pos e2]
          have := h.1 j hj0 hj e
          rw [e2] at this; omega
        · rw [if_neg e2]; exact h.1 j hj0 hj e
  · have hpp := par_lt hp0
    have hcc : par (par i) ≠ i := by omega
    rw [at_swapL (by omega) (by omega), at_swapL (by omega) (by omega), if_neg hcc, if_neg (by omega)]
    have hb := h.1 (par i) hp0 (by omega) (by omega)
    by_cases e : c = i
    · rw [if_pos e]; exact hb
    · rw [if_neg e, if_neg (by have := par_lt hc0; omega)]
      have := h.1 c hc0 hc e
      rw [hpc] at this; omega

/-- Nothing is less than what stands at i among its children. -/
theorem Hole.stop {n : Nat} {l : List Int} {i : Nat} (h : Hole n l i) (hs : ∀ c, 0 < c → c < n → par c = i → at' l i ≤ at' l c) : UpHole n l i :=
  ⟨fun j h0 hj hne => by
    by_cases e : par j = i
    · rw [e]; exact hs j h0 hj e
    · exact h.1 j h0 hj hne e, h.2⟩

/-- One step down, to the lesser child. -/
theorem Hole.down {n : Nat} {l : List Int} {i c : Nat} (h : Hole n l i) (hc0 : 0 < c) (hc : c < n) (hpc : par c = i) (hn : n ≤ l.length) (hup : 0 < i → True) (hlt : at' l c < at' l i) (hmin : ∀ d, 0 < d → d < n → par d = i → at' l c ≤ at' l d)
    (hpi : ∀ j, j ≠ i → 0 < j → j < n → par j = i → True) : Hole n (swapL l i c) c ∧ at' (swapL l i c) (par c) ≤ at' (swapL l i c) c ∧ (0 < i → at' (swapL l i c) (par i) ≤ at' (swapL l i c) i) := by
  have hic : i < c := by have := par_lt hc0; omega
  have g : ∀ k, at' (swapL l i c) k = if k = c then at' l i else if k = i then at' l c else at' l k := fun k => at_swapL (by omega) (by omega)
  refine ⟨⟨fun j h0 hj hne hpne => ?_, fun _ d hd0 hd hpd => ?_⟩, ?_, fun hi0 => ?_⟩
  · rw [g, g, if_neg hpne, if_neg hne]
    by_cases e : par j = i
    · rw [if_pos e]
      have : j ≠ i := by have := par_lt h0; omega
      rw [if_neg this]; exact hmin j h0 hj e
    · rw [if_neg e]
      by_cases e2 : j = i
      · rw [if_pos e2]
        subst e2
        exact h.2 h0 c hc0 hc hpc
      · rw [if_neg e2]; exact h.1 j h0 hj e2 e
  · rw [g, g, hpc, if_neg (by omega), if_pos rfl]
    have h1 : d ≠ c := by have := par_lt hd0; omega
    have h2 : d ≠ i := by have := par_lt hd0; omega
    rw [if_neg h1, if_neg h2]
    have := h.1 d hd0 hd h2 (by omega)
    rwa [hpd] at this
  · rw [g, g, hpc, if_pos rfl, if_neg (by omega), if_pos rfl]; omega
  · have := par_lt hi0
    rw [g, g, if_neg (by omega), if_neg (by omega), if_neg (by omega), if_pos rfl]
    exact h.2 hi0 c hc0 hc hpc

theorem at_append {l r : List Int} {i : Nat} (h : i < l.length) : at' (l ++ r) i = at' l i := by
  simp [at', List.getElem?_append_left h]
theorem at_take {l : List Int} {n i : Nat} (h : i < n) : at' (l.take n) i = at' l i := by
  simp [at', List.getElem?_take, h]

theorem HeapN.take {n : Nat} {l : List Int} (h : HeapN n l) : HeapN n (l.take n) := fun j h0 hj => by
  have := par_lt h0
  rw [at_take (by omega), at_take hj]; exact h j h0 hj
theorem HeapN.push {l : List Int} (h : HeapN l.length l) (x : Int) : UpHole (l ++ [x]).length (l ++ [x]) l.length := by
  refine ⟨fun j h0 hj hne => ?_, fun h0 c hc0 hc hp => ?_⟩
  · have : j < l.length := by simp at hj; omega
    have := par_lt h0
    rw [at_append (by omega), at_append (by omega)]; exact h j h0 (by omega)
  · exfalso
    have := par_lt hc0
    simp at hc; omega
/-- What stands somewhere is swapped with the last one, and that is left out. -/
theorem HeapN.cut {n : Nat} {l : List Int} (h : HeapN (n + 1) l) (hn : n + 1 ≤ l.length) {k : Nat} (hk : k ≤ n) : Hole n (swapL l k n) k := by
  have g : ∀ i, i < n → at' (swapL l k n) i = if i = k then at' l n else at' l i := fun i hi => by
    rw [at_swapL (by omega) (by omega), if_neg (by omega)]
  refine ⟨fun j h0 hj hne hpne => ?_, fun h0 c hc0 hc hp => ?_⟩
  · have := par_lt h0
    rw [g _ (by omega), g _ hj, if_neg hpne, if_neg hne]; exact h j h0 (by omega)
  · have h1 := par_lt h0
    have h2 := par_lt hc0
    rw [g _ (by omega), g _ hc, if_neg (by omega), if_neg (by omega)]
    have a := h k h0 (by omega)
    have b := h c hc0 (by omega)
    rw [hp] at b; omega
/-- The least one stands first. -/
theorem HeapN.least {n : Nat} {l : List Int} (h : HeapN n l) : ∀ i, i < n → at' l 0 ≤ at' l i := by
  intro i
  induction i using Nat.strongRecOn with
  | ind i ih =>
    intro hi
    rcases Nat.eq_zero_or_pos i with h0 | h0
    · subst h0; exact Int.le_refl _
    · have h1 := par_lt h0
      have := ih (par i) h1 (by omega)
      have := h i h0 hi
      omega
theorem heap_of_rises {l : List Int} (h : Rises l) : HeapN l.length l := fun j h0 hj => by
  have hp := par_lt h0
  rw [at_eq hj, at_eq (by omega)]
  have := List.pairwise_iff_getElem.1 h (par j) j (by omega) hj hp
  omega

/-! ### What container/heap does -/
def lesser (n : Nat) (l : List Int) (i : Nat) : Nat := if 2 * i + 2 < n ∧ at' l (2 * i + 2) < at' l (2 * i + 1) then 2 * i + 2 else 2 * i + 1
def downF (n : Nat) : Nat → List Int → Nat → List Int × Nat
  | 0, l, i => (l, i)
  | f + 1, l, i => if n ≤ 2 * i + 1 then (l, i) else if at' l (lesser n l i) < at' l i then downF n f (swapL l i (lesser n l i)) (lesser n l i) else (l, i)
def upF : Nat → List Int → Nat → List Int
  | 0, l, _ => l
  | f + 1, l, j => if at' l j < at' l (par j) then upF f (swapL l (par j) j) (par j) else l
def pushF (l : List Int) (x : Int) : List Int := upF l.length (l ++ [x]) l.length
def popF (l : List Int) : List Int := ((downF (l.length - 1) (l.length - 1) (swapL l 0 (l.length - 1)) 0).1).take (l.length - 1)
def cutF (l : List Int) (k : Nat) : List Int := if k = l.length - 1 then l.take (l.length - 1) else
  (let r := downF (l.length - 1) (l.length - 1) (swapL l k (l.length - 1)) k; (if k < r.2 then r.1 else upF k r.1 k).take (l.length - 1))

theorem lesser_cases (n : Nat) (l : List Int) (i : Nat) : lesser n l i = 2 * i + 1 ∨ lesser n l i = 2 * i + 2 := by unfold lesser; split <;> simp
theorem lesser_lt {n : Nat} {l : List Int} {i : Nat} (h : 2 * i + 1 < n) : lesser n l i < n := by unfold lesser; split <;> omega
theorem par_lesser (n : Nat) (l : List Int) (i : Nat) : par (lesser n l i) = i := by
  rcases lesser_cases n l i with h | h <;> rw [h]
  · exact par_left i
  · exact par_right i
theorem lesser_min {n : Nat} {l : List Int} {i : Nat} : ∀ d, 0 < d → d < n → par d = i → at' l (lesser n l i) ≤ at' l d := by
  intro d h0 hd hp
  unfold lesser
  rcases par_cases h0 hp with rfl | rfl <;> split <;> omega

theorem downF_len (n : Nat) : ∀ (f : Nat) (l : List Int) (i : Nat), (downF n f l i).1.length = l.length
  | 0, l, i => rfl
  | f + 1, l, i => by
    unfold downF
    split
    · rfl
    · split
      · rw [downF_len]; exact swapL_length _ _ _
      · rfl
theorem upF_len : ∀ (f : Nat) (l : List Int) (i : Nat), (upF f l i).length = l.length
  | 0, l, i => rfl
  | f + 1, l, i => by
    unfold upF
    split
    · rw [upF_len]; exact swapL_length _ _ _
    · rfl

theorem at_perm_rest {n : Nat} {l : List Int} {i j k : Nat} (hi : i < n) (hj : j < n) (hn : n ≤ l.length) (hk : n ≤ k) : at' (swapL l i j) k = at' l k := by
  rw [at_swapL (by omega) (by omega), if_neg (by omega), if_neg (by omega)]

theorem downF_ok {n : Nat} : ∀ (f : Nat) (l : List Int) (i : Nat), n ≤ l.length → n - i ≤ f → Hole n l i →
    (downF n f l i).1.Perm l ∧ (∀ k, n ≤ k → at' (downF n f l i).1 k = at' l k) ∧ i ≤ (downF n f l i).2 ∧ (at' l (par i) ≤ at' l i → HeapN n (downF n f l i).1) ∧
    (i < (downF n f l i).2 → HeapN n (downF n f l i).1) ∧ ((downF n f l i).2 = i → (downF n f l i).1 = l ∧ UpHole n l i) := by
  intro f
  induction f with
  | zero =>
    intro l i hn hf hh
    have hs := hh.stop (fun c hc0 hc hpc => by rcases par_cases hc0 hpc with h | h <;> omega)
    exact ⟨List.Perm.refl _, fun _ _ => rfl, Nat.le_refl _, fun h => hs.heap h, fun h => by simp [downF] at h, fun _ => ⟨rfl, hs⟩⟩
  | succ f ih =>
    intro l i hn hf hh
    unfold downF
    split
    · rename_i hge
      have hs := hh.stop (fun c hc0 hc hpc => by rcases par_cases hc0 hpc with h | h <;> omega)
      exact ⟨List.Perm.refl _, fun _ _ => rfl, Nat.le_refl _, fun h => hs.heap h, fun h => by simp at h, fun _ => ⟨rfl, hs⟩⟩
    · rename_i hge
      have hc := lesser_lt (l := l) (show 2 * i + 1 < n by omega)
      have hpc := par_lesser n l i
      have hc0 : 0 < lesser n l i := by rcases lesser_cases n l i with h | h <;> omega
      split
      · rename_i hlt
        have hmin := lesser_min (n := n) (l := l) (i := i)
        generalize lesser n l i = c at hc hpc hc0 hlt hmin
        obtain ⟨d1, d2, _⟩ := hh.down hc0 hc hpc hn (fun _ => trivial) hlt hmin (fun _ _ _ _ _ => trivial)
        have hic : i < c := by have := par_lt hc0; omega
        obtain ⟨e1, e2, e3, e4, e5, e6⟩ := ih (swapL l i c) c (by rw [swapL_length]; exact hn) (by omega) d1
        refine ⟨e1.trans (swapL_perm (by omega) (by omega)), fun k hk => ?_, by omega, fun _ => e4 d2, fun _ => e4 d2, fun h => by omega⟩
        rw [e2 k hk, at_perm_rest (n := n) (by omega) hc hn hk]
      · rename_i hlt
        have hs := hh.stop (fun d hd0 hd hpd => by have := lesser_min (n := n) (l := l) d hd0 hd hpd; omega)
        exact ⟨List.Perm.refl _, fun _ _ => rfl, Nat.le_refl _, fun h => hs.heap h, fun h => by simp at h, fun _ => ⟨rfl, hs⟩⟩

theorem upF_ok {n : Nat} : ∀ (f : Nat) (l : List Int) (j : Nat), n ≤ l.length → j ≤ f → j < n → UpHole n l j → (upF f l j).Perm l ∧ (∀ k, n ≤ k → at' (upF f l j) k = at' l k) ∧ HeapN n (upF f l j) := by
  intro f
  induction f with
  | zero =>
    intro l j hn hf hj hu
    obtain rfl : j = 0 := by omega
    exact ⟨List.Perm.refl _, fun _ _ => rfl, hu.zero⟩
  | succ f ih =>
    intro l j hn hf hj hu
    unfold upF
    split
    · rename_i hlt
      have h0 : 0 < j := by
        rcases Nat.eq_zero_or_pos j with h | h
        · subst h; have : par 0 = 0 := rfl
          rw [this] at hlt; omega
        · exact h
      have hp := par_lt h0
      obtain ⟨e1, e2, e3⟩ := ih (swapL l (par j) j) (par j) (by rw [swapL_length]; exact hn) (by omega) (by omega) (hu.up h0 hj hn hlt)
      refine ⟨e1.trans (swapL_perm (by omega) (by omega)), fun k hk => ?_, e3⟩
      rw [e2 k hk, at_perm_rest (n := n) (by omega) hj hn hk]
    · rename_i hlt
      exact ⟨List.Perm.refl _, fun _ _ => rfl, hu.heap (by omega)⟩

theorem take_snoc {l : List Int} (h : 0 < l.length) : l.take (l.length - 1) ++ [at' l (l.length - 1)] = l := by
  rw [at_eq (by omega)]
  have := List.take_append_drop (l.length - 1) l
  rw [List.drop_eq_getElem_cons (by omega), show l.length - 1 + 1 = l.length by omega, List.drop_length] at this
  exact this

theorem pushF_ok {l : List Int} (h : HeapN l.length l) (x : Int) : (pushF l x).Perm (l ++ [x]) ∧ HeapN (pushF l x).length (pushF l x) := by
  have := upF_ok (n := (l ++ [x]).length) l.length (l ++ [x]) l.length (Nat.le_refl _) (Nat.le_refl _) (by simp) (h.push x)
  refine ⟨this.1, ?_⟩
  unfold pushF
  rw [upF_len]; exact this.2.2

theorem popF_ok {l : List Int} (h : HeapN l.length l) (hl : 0 < l.length) : (popF l ++ [at' l 0]).Perm l ∧ HeapN (popF l).length (popF l) := by
  have hn : l.length - 1 + 1 = l.length := by omega
  have hh : Hole (l.length - 1) (swapL l 0 (l.length - 1)) 0 := HeapN.cut (n := l.length - 1) (by rw [hn]; exact h) (by omega) (Nat.zero_le _)
  obtain ⟨e1, e2, _, e4, _, _⟩ := downF_ok (n := l.length - 1) (l.length - 1) (swapL l 0 (l.length - 1)) 0 (by rw [swapL_length]; omega) (by omega) hh
  have hlen : (downF (l.length - 1) (l.length - 1) (swapL l 0 (l.length - 1)) 0).1.length = l.length := by rw [downF_len, swapL_length]
  have hlast : at' (downF (l.length - 1) (l.length - 1) (swapL l 0 (l.length - 1)) 0).1 (l.length - 1) = at' l 0 := by
    rw [e2 _ (Nat.le_refl _), at_swapL (by omega) (by omega), if_pos rfl]
  have e4' := e4 (Int.le_refl _)
  unfold popF
  generalize (downF (l.length - 1) (l.length - 1) (swapL l 0 (l.length - 1)) 0).1 = s at *
  refine ⟨?_, ?_⟩
  · rw [← hlast]
    have := take_snoc (l := s) (by omega)
    rw [hlen] at this
    rw [this]
    exact e1.trans (swapL_perm (by omega) (by omega))
  · have := HeapN.take e4'
    rw [List.length_take, hlen, Nat.min_eq_left (by omega)]; exact this

theorem cutF_ok {l : List Int} (h : HeapN l.length l) {k : Nat} (hk : k < l.length) : (cutF l k ++ [at' l k]).Perm l ∧ HeapN (cutF l k).length (cutF l k) := by
  have hn : l.length - 1 + 1 = l.length := by omega
  unfold cutF
  split
  · rename_i he
    subst he
    rw [take_snoc (by omega)]
    refine ⟨List.Perm.refl _, ?_⟩
    rw [List.length_take, Nat.min_eq_left (by omega)]
    exact HeapN.take fun j h0 hj => h j h0 (by omega)
  · rename_i hne
    have hh : Hole (l.length - 1) (swapL l k (l.length - 1)) k := HeapN.cut (n := l.length - 1) (by rw [hn]; exact h) (by omega) (by omega)
    obtain ⟨e1, e2, e3, _, e5, e6⟩ := downF_ok (n := l.length - 1) (l.length - 1) (swapL l k (l.length - 1)) k (by rw [swapL_length]; omega) (by omega) hh
    have hlen : (downF (l.length - 1) (l.length - 1) (swapL l k (l.length - 1)) k).1.length = l.length := by rw [downF_len, swapL_length]
    have hlast : at' (downF (l.length - 1) (l.length - 1) (swapL l k (l.length - 1)) k).1 (l.length - 1) = at' l k := by
      rw [e2 _ (Nat.le_refl _), at_swapL (by omega) (by omega), if_pos rfl]
    have e1' := e1.trans (swapL_perm (i := k) (j := l.length - 1) (by omega) (by omega))
    generalize downF (l.length - 1) (l.length - 1) (swapL l k (l.length - 1)) k = r at *
    have key : ∀ s : List Int, s.length = l.length → s.Perm l → at' s (l.length - 1) = at' l k → HeapN (l.length - 1) s → (s.take (l.length - 1) ++ [at' l k]).Perm l ∧ HeapN (s.take (l.length - 1)).length (s.take (l.length - 1)) := by
      intro s h1 h2 h3 h4
      refine ⟨?_, ?_⟩
      · rw [← h3]
        have := take_snoc (l := s) (by omega)
        rw [h1] at this
        rw [this]; exact h2
      · have := HeapN.take h4
        rw [List.length_take, h1, Nat.min_eq_left (by omega)]; exact this
    simp only
    split
    · rename_i hlt; exact key _ hlen e1' hlast (e5 hlt)
    · rename_i hlt
      obtain ⟨q1, q2⟩ := e6 (by omega)
      rw [← q1] at q2
      obtain ⟨u1, u2, u3⟩ := upF_ok k r.1 k (by omega) (Nat.le_refl _) (by omega) q2
      exact key _ (by rw [upF_len]; exact hlen) (u1.trans e1') (by rw [u2 _ (Nat.le_refl _)]; exact hlast) u3

end Go.Proofs.YtihhinbjhiankaaGreatDoor.Al

/- PLAIN LAWS: numbers that are kept as a heap, and which they are. -/
namespace Go.Proofs.YtihhinbjhiankaaGreatDoor.Al

/-- s holds, as a heap, the numbers S, which rise. -/
structure Rep (s S : List Int) : Prop where
  heap : HeapN s.length s
  perm : s.Perm S
  rises : Rises S

theorem Rep.of {S : List Int} (h : Rises S) : Rep S S := ⟨heap_of_rises h, .refl _, h⟩
theorem Rep.len {s S : List Int} (h : Rep s S) : s.length = S.length := h.perm.length_eq
theorem Rep.mem {s S : List Int} (h : Rep s S) {x : Int} : x ∈ s ↔ x ∈ S := h.perm.mem_iff
theorem Rep.sorted {s S : List Int} (h : Rep s S) : sorted s = S := sorted_eq h.perm h.rises
theorem Rep.least {s S : List Int} (h : Rep s S) (h0 : 0 < s.length) : ∃ T, S = at' s 0 :: T := by
  cases S with
  | nil => have := h.len; rw [List.length_nil] at this; omega
  | cons x T =>
    refine ⟨T, ?_⟩
    have h1 : x ∈ s := h.mem.2 (by simp)
    obtain ⟨j, hj, e⟩ := List.getElem_of_mem h1
    have h2 := h.heap.least j hj
    rw [at_eq hj, e] at h2
    have h3 : at' s 0 ∈ x :: T := h.mem.1 (by rw [at_eq h0]; exact List.getElem_mem _)
    have h4 := (List.pairwise_cons.1 h.rises).1
    rcases List.mem_cons.1 h3 with e | e
    · rw [e]
    · have := h4 _ e; omega
theorem Rep.pop {s S : List Int} (h : Rep s S) (h0 : 0 < s.length) : Rep (popF s) S.tail := by
  obtain ⟨T, rfl⟩ := h.least h0
  obtain ⟨p1, p2⟩ := popF_ok h.heap h0
  refine ⟨p2, ?_, (List.pairwise_cons.1 h.rises).2⟩
  have := p1.trans h.perm
  exact List.Perm.cons_inv ((List.perm_append_comm (l₁ := [at' s 0]) (l₂ := popF s)).trans this)
theorem Rep.push {s S : List Int} (h : Rep s S) {x : Int} (hx : x ∉ s) : Rep (pushF s x) (ins x S) := by
  obtain ⟨p1, p2⟩ := pushF_ok h.heap x
  refine ⟨p2, ?_, rises_ins h.rises⟩
  have hx' : x ∉ S := fun e => hx (h.mem.2 e)
  have hi : (ins x S).Perm (x :: S) := by
    have key : ∀ S : List Int, x ∉ S → (ins x S).Perm (x :: S) := by
      intro S
      induction S with
      | nil => intro _; exact .refl _
      | cons y S ih =>
        intro hn
        simp only [ins]
        split
        · exact .refl _
        · split
          · rename_i e; exact absurd (by simp [e]) hn
          · exact ((ih fun e => hn (by simp [e])).cons y).trans (.swap _ _ _)
    exact key S hx'
  refine p1.trans ((h.perm.append_right [x]).trans ?_)
  exact (List.perm_append_comm).trans hi.symm
theorem Rep.cut {s S : List Int} (h : Rep s S) {x : Int} (hx : x ∈ s) : Rep (cutF s (s.idxOf x)) (S.filter fun y => decide (y ≠ x)) := by
  have hi := List.idxOf_lt_length_of_mem hx
  obtain ⟨p1, p2⟩ := cutF_ok h.heap hi
  have e : at' s (s.idxOf x) = x := by rw [at_eq hi]; exact List.getElem_idxOf hi
  rw [e] at p1
  refine ⟨p2, ?_, rises_filter h.rises⟩
  have hn : S.Nodup := rises_nodup h.rises
  have h1 : S.Perm (x :: S.filter fun y => decide (y ≠ x)) := by
    have key : ∀ S : List Int, S.Nodup → x ∈ S → S.Perm (x :: S.filter fun y => decide (y ≠ x)) := by
      intro S
      induction S with
      | nil => intro _ h; simp at h
      | cons y S ih =>
        intro hn hm
        rw [List.nodup_cons] at hn
        by_cases e : y = x
        · subst e
          rw [List.filter_cons, if_neg (by simp)]
          rw [List.filter_eq_self.2 (fun z hz => by simp; rintro rfl; exact hn.1 hz)]
        · rw [List.filter_cons, if_pos (by simpa using e)]
          have hm' : x ∈ S := by rcases List.mem_cons.1 hm with h | h; exact absurd h.symm e; exact h
          exact ((ih hn.2 hm').cons y).trans (.swap _ _ _)
    exact key S hn (h.mem.1 hx)
  have h2 := p1.trans (h.perm.trans h1)
  exact List.Perm.cons_inv ((List.perm_append_comm (l₁ := [x]) (l₂ := cutF s (s.idxOf x))).trans h2)

/-- What Put and Drop answer. -/
def putS (s : List Int) (x : Int) : List Int := if x ∈ s then s else pushF s x
def dropS (s : List Int) (x : Int) : List Int := if x ∈ s then cutF s (s.idxOf x) else s
def takeS (s : List Int) : List Int := if 0 < s.length then popF s else s
theorem Rep.put {s S : List Int} (h : Rep s S) (x : Int) : Rep (putS s x) (ins x S) := by
  unfold putS
  split
  · rename_i hx
    have : ins x S = S := rises_ext (rises_ins h.rises) h.rises fun z => by
      rw [mem_ins]
      exact ⟨fun e => e.elim (fun e => e ▸ h.mem.1 hx) id, .inr⟩
    rw [this]; exact h
  · rename_i hx; exact h.push hx
theorem Rep.drop {s S : List Int} (h : Rep s S) (x : Int) : Rep (dropS s x) (S.filter fun y => decide (y ≠ x)) := by
  unfold dropS
  split
  · rename_i hx; exact h.cut hx
  · rename_i hx
    have : (S.filter fun y => decide (y ≠ x)) = S := List.filter_eq_self.2 fun z hz => by
      simp; rintro rfl; exact hx (h.mem.2 hz)
    rw [this]; exact h
theorem Rep.take {s S : List Int} (h : Rep s S) : Rep (takeS s) S.tail := by
  unfold takeS
  split
  · rename_i h0; exact h.pop h0
  · rename_i h0
    have : S = [] := List.eq_nil_of_length_eq_zero (by rw [← h.len]; omega)
    subst this; exact h
theorem Rep.least' {s S : List Int} (h : Rep s S) : at' s 0 = at' S 0 := by
  rcases Nat.eq_zero_or_pos s.length with h0 | h0
  · have h1 : S = [] := List.eq_nil_of_length_eq_zero (by rw [← h.len]; omega)
    have h2 : s = [] := List.eq_nil_of_length_eq_zero h0
    rw [h1, h2]
  · obtain ⟨T, e⟩ := h.least h0
    conv => rhs; rw [e]
    rfl

end Go.Proofs.YtihhinbjhiankaaGreatDoor.Al
