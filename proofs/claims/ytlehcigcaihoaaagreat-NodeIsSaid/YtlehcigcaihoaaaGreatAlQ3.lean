/-
  PLAIN LAWS: numbers joined and cut.
-/
import Derived.Test.YtlehcigcaihoaaaGreatAlP5
set_option linter.unusedSimpArgs false
set_option linter.unusedVariables false
namespace Go.Proofs.YtlehcigcaihoaaaGreat.Al

def joinL (l : List Int) (i : Int) : List Int := rise (l ++ [i])
def cutL (l i : List Int) : List Int := l.filter fun x => !i.contains x
theorem mem_joinL {l : List Int} {i x : Int} : x ∈ joinL l i ↔ x ∈ l ∨ x = i := by simp [joinL, mem_rise]
theorem rises_joinL (l : List Int) (i : Int) : Rises (joinL l i) := rises_rise _
theorem joinL_len (l : List Int) (i : Int) : (joinL l i).length ≤ l.length + 1 := by
  have := length_rise_le (l ++ [i])
  simpa [joinL] using this
theorem joinL_twice (l : List Int) (i : Int) : joinL (joinL l i) i = joinL l i := rises_ext (rises_joinL _ _) (rises_joinL _ _) fun x => by
  simp only [mem_joinL]; exact ⟨fun h => h.elim id .inr, .inl⟩
theorem joinL_comm (l : List Int) (i k : Int) : joinL (joinL l i) k = joinL (joinL l k) i := rises_ext (rises_joinL _ _) (rises_joinL _ _) fun x => by
  simp only [mem_joinL]
  exact ⟨fun h => h.elim (fun h => h.elim (fun h => .inl (.inl h)) .inr) fun h => .inl (.inr h), fun h => h.elim (fun h => h.elim (fun h => .inl (.inl h)) .inr) fun h => .inl (.inr h)⟩
theorem mem_cutL {l i : List Int} {x : Int} : x ∈ cutL l i ↔ x ∈ l ∧ ¬ x ∈ i := by simp [cutL]
theorem cutL_joinL (l : List Int) (i : Int) : joinL (cutL (joinL l i) [i]) i = joinL l i := rises_ext (rises_joinL _ _) (rises_joinL _ _) fun x => by
  simp only [mem_joinL, mem_cutL, List.mem_singleton]
  constructor
  · rintro (h | h)
    · exact h.1
    · exact .inr h
  · intro h
    by_cases e : x = i
    · exact .inr e
    · exact .inl ⟨h, e⟩
theorem filter_one {x : Int} : ∀ {S : List Int}, S.Nodup → x ∈ S → (S.filter fun y => !([x] : List Int).contains y).length + 1 = S.length
  | [], _, h => by simp at h
  | y :: S, hn, h => by
    rw [List.nodup_cons] at hn
    by_cases e : y = x
    · subst e
      rw [List.filter_cons, if_neg (by simp), List.filter_eq_self.2 (fun z hz => by simp; rintro rfl; exact hn.1 hz)]
      rfl
    · rw [List.filter_cons, if_pos (by simpa using e)]
      have hm : x ∈ S := by rcases List.mem_cons.1 h with h | h; exact absurd h.symm e; exact h
      simp only [List.length_cons]
      rw [filter_one hn.2 hm]
theorem cutL_len (l : List Int) (i : Int) : (cutL (joinL l i) [i]).length + 1 = (joinL l i).length := filter_one (rises_nodup (rises_joinL l i)) (mem_joinL.2 (.inr rfl))
theorem cutL_twice (l i : List Int) : cutL (cutL l i) i = cutL l i := by
  unfold cutL; rw [List.filter_filter]; simp
theorem cutL_nil (l : List Int) : cutL l [] = l := by
  unfold cutL; simp
theorem cutL_self (l : List Int) : cutL l l = [] := by
  unfold cutL; rw [List.filter_eq_nil_iff]; intro x hx; simp [hx]
theorem cutL_le (l i : List Int) : (cutL l i).length ≤ l.length := List.length_filter_le _ _
/-- What is left of the first ones stands ahead. -/
theorem cutL_take {l i : List Int} {k : Nat} (hk : k < l.length) : cutL (l.take (k + 1)) i = if l[k] ∈ i then cutL (l.take k) i else cutL (l.take k) i ++ [l[k]] := by
  unfold cutL
  rw [List.take_succ_eq_append_getElem hk, List.filter_append, List.filter_cons, List.filter_nil]
  by_cases h : l[k] ∈ i <;> simp [h]
theorem cutL_at {l i : List Int} {k : Nat} (hk : k < l.length) (h : ¬ l[k] ∈ i) : ∃ hc : (cutL (l.take k) i).length < (cutL l i).length, (cutL l i)[(cutL (l.take k) i).length] = l[k] := by
  have e : cutL l i = cutL (l.take (k + 1)) i ++ cutL (l.drop (k + 1)) i := by
    unfold cutL; rw [← List.filter_append, List.take_append_drop]
  rw [cutL_take hk, if_neg h] at e
  have hl : (cutL (l.take k) i).length < (cutL l i).length := by rw [e]; simp
  refine ⟨hl, ?_⟩
  have : (cutL l i)[(cutL (l.take k) i).length]? = some l[k] := by rw [e]; simp
  rw [List.getElem?_eq_getElem hl] at this
  exact Option.some.inj this

/-! Which numbers may be named -/
theorem rises_ge {l : List Int} (h : Rises l) (h0 : ∀ x ∈ l, 0 ≤ x) : ∀ k (hk : k < l.length), (k : Int) ≤ l[k] := by
  intro k
  induction k with
  | zero => intro hk; exact h0 _ (List.getElem_mem hk)
  | succ k ih =>
    intro hk
    have h1 := ih (by omega)
    have h2 := List.pairwise_iff_getElem.1 h k (k + 1) (by omega) hk (by omega)
    omega
theorem rises_64 {l : List Int} (h : Rises l) (h0 : ∀ x ∈ l, 0 ≤ x ∧ x ≤ 63) : l.length ≤ 64 := by
  rcases Nat.lt_or_ge 64 l.length with h1 | h1
  · have h2 := rises_ge h (fun x hx => (h0 x hx).1) 64 h1
    have h3 := (h0 _ (List.getElem_mem h1)).2
    omega
  · exact h1
theorem innerCheck_ok {n : Inner} : innerCheck n = 0 ↔ n.enc.length ≠ 0 ∧ n.enc.length ≤ 200 ∧ n.hash.length ≤ 200 ∧ n.unmerged.length ≤ 64 ∧ (∀ x ∈ n.unmerged, 0 ≤ x ∧ x ≤ 63) ∧ rise n.unmerged = n.unmerged := by
  unfold innerCheck
  by_cases h1 : n.enc.length = 0
  · simp [h1]
  rw [if_neg h1]
  by_cases h2 : n.enc.length > 200 ∨ n.hash.length > 200 ∨ n.unmerged.length > 64
  · rw [if_pos h2]; constructor
    · intro h; cases h
    · rintro ⟨_, a, b, c, _⟩; omega
  rw [if_neg h2]
  by_cases h3 : ∃ i ∈ n.unmerged, i < 0 ∨ i > 63
  · rw [if_pos h3]; constructor
    · intro h; cases h
    · rintro ⟨_, _, _, _, d, _⟩
      obtain ⟨i, hi, h⟩ := h3
      have := d i hi; omega
  rw [if_neg h3]
  by_cases h4 : rise n.unmerged ≠ n.unmerged
  · rw [if_pos h4]; constructor
    · intro h; cases h
    · rintro ⟨_, _, _, _, _, e⟩; exact absurd e h4
  rw [if_neg h4]
  refine ⟨fun _ => ⟨h1, by omega, by omega, by omega, fun x hx => ?_, Classical.not_not.1 h4⟩, fun _ => rfl⟩
  by_cases hx0 : x < 0
  · exact absurd ⟨x, hx, .inl hx0⟩ h3
  by_cases hx1 : x > 63
  · exact absurd ⟨x, hx, .inr hx1⟩ h3
  omega
theorem named_good {n : Inner} (h : innerCheck n = 0) {i : Int} (hi : 0 ≤ i ∧ i < 64) : innerCheck ⟨n.enc, n.hash, joinL n.unmerged i⟩ = 0 := by
  obtain ⟨a, b, c, d, e, f⟩ := innerCheck_ok.1 h
  have g : ∀ x ∈ joinL n.unmerged i, 0 ≤ x ∧ x ≤ 63 := fun x hx => by
    rcases mem_joinL.1 hx with h | rfl
    · exact e x h
    · omega
  exact innerCheck_ok.2 ⟨a, b, c, rises_64 (rises_joinL _ _) g, g, rise_of_rises (rises_joinL _ _)⟩
theorem named_bad {n : Inner} (h : innerCheck n = 0) {i : Int} (hi : ¬ (0 ≤ i ∧ i < 64)) : innerCheck ⟨n.enc, n.hash, joinL n.unmerged i⟩ = 3 ∨ innerCheck ⟨n.enc, n.hash, joinL n.unmerged i⟩ = 4 := by
  obtain ⟨a, b, c, d, e, f⟩ := innerCheck_ok.1 h
  unfold innerCheck
  simp only
  rw [if_neg a]
  by_cases h2 : n.enc.length > 200 ∨ n.hash.length > 200 ∨ (joinL n.unmerged i).length > 64
  · rw [if_pos h2]; exact .inr rfl
  · rw [if_neg h2, if_pos ⟨i, mem_joinL.2 (.inr rfl), by omega⟩]; exact .inl rfl
theorem named_twice {n : Inner} (h : innerCheck n = 0) (h0 : 0 < n.unmerged.length) (h1 : n.unmerged.length < 64) : innerCheck ⟨n.enc, n.hash, n.unmerged[0] :: n.unmerged⟩ = 8 := by
  obtain ⟨a, b, c, d, e, f⟩ := innerCheck_ok.1 h
  unfold innerCheck
  simp only
  rw [if_neg a, if_neg (by simp only [List.length_cons]; omega), if_neg (by
    rintro ⟨x, hx, h⟩
    rcases List.mem_cons.1 hx with rfl | hx
    · have := e _ (List.getElem_mem h0); omega
    · have := e x hx; omega), if_pos]
  intro hr
  have : Rises (n.unmerged[0] :: n.unmerged) := by rw [← hr]; exact rises_rise _
  have := (List.pairwise_cons.1 this).1 _ (List.getElem_mem h0)
  omega
end Go.Proofs.YtlehcigcaihoaaaGreat.Al
