/-
  PLAIN LAWS: a node that is no leaf, as octets.
-/
import Derived.Test.YtlehcigcaihoaaaGreatAlQ1
set_option linter.unusedSimpArgs false
set_option linter.unusedVariables false
namespace Go.Proofs.YtlehcigcaihoaaaGreat.Al

def iput (b : List Int) (n : Inner) : List Int := if innerCheck n ≠ 0 then b else pnums (pbytes (pbytes b n.enc) n.hash) n.unmerged
def iget (b : List Int) : Inner × List Int × Int :=
  if (gbytes b).2.2 ≠ 0 then (.zero, [], (gbytes b).2.2) else if (gbytes (gbytes b).2.1).2.2 ≠ 0 then (.zero, [], (gbytes (gbytes b).2.1).2.2) else
  if (gnums (gbytes (gbytes b).2.1).2.1).2.2 ≠ 0 then (.zero, [], (gnums (gbytes (gbytes b).2.1).2.1).2.2) else
  if innerCheck ⟨(gbytes b).1, (gbytes (gbytes b).2.1).1, (gnums (gbytes (gbytes b).2.1).2.1).1⟩ ≠ 0 then (.zero, [], innerCheck ⟨(gbytes b).1, (gbytes (gbytes b).2.1).1, (gnums (gbytes (gbytes b).2.1).2.1).1⟩) else
  (⟨(gbytes b).1, (gbytes (gbytes b).2.1).1, (gnums (gbytes (gbytes b).2.1).2.1).1⟩, (gnums (gbytes (gbytes b).2.1).2.1).2.1, 0)
/-- One after another. -/
theorem iget_eq {b x r y s l t : List Int} {e f g : Int} (h1 : gbytes b = (x, r, e)) (h2 : gbytes r = (y, s, f)) (h3 : gnums s = (l, t, g)) : iget b = if e ≠ 0 then (.zero, [], e) else if f ≠ 0 then (.zero, [], f) else if g ≠ 0 then (.zero, [], g) else if innerCheck ⟨x, y, l⟩ ≠ 0 then (.zero, [], innerCheck ⟨x, y, l⟩) else (⟨x, y, l⟩, t, 0) := by
  unfold iget
  simp only [h1, h2, h3]
theorem innerCheck_zero {n : Inner} (h : innerCheck n = 0) : n.enc.length ≤ 200 ∧ n.hash.length ≤ 200 ∧ n.unmerged.length ≤ 64 ∧ (∀ x ∈ n.unmerged, 0 ≤ x ∧ x ≤ 63) ∧ n.enc ≠ [] := by
  unfold innerCheck at h
  by_cases h1 : n.enc.length = 0
  · rw [if_pos h1] at h; cases h
  rw [if_neg h1] at h
  by_cases h2 : n.enc.length > 200 ∨ n.hash.length > 200 ∨ n.unmerged.length > 64
  · rw [if_pos h2] at h; cases h
  rw [if_neg h2] at h
  by_cases h3 : ∃ i ∈ n.unmerged, i < 0 ∨ i > 63
  · rw [if_pos h3] at h; cases h
  refine ⟨by omega, by omega, by omega, fun x hx => ?_, fun e => h1 (by rw [e]; rfl)⟩
  refine ⟨?_, ?_⟩
  · by_cases hx0 : x < 0
    · exact absurd ⟨x, hx, .inl hx0⟩ h3
    · omega
  · by_cases hx0 : x > 63
    · exact absurd ⟨x, hx, .inr hx0⟩ h3
    · omega
def f1 (v : List Int) : List Int := vput v.length ++ v
theorem iput_eq {n : Inner} (h : innerCheck n = 0) (b : List Int) : iput b n = b ++ (f1 n.enc ++ (f1 n.hash ++ f1 (n.unmerged.flatMap be4))) := by
  obtain ⟨h1, h2, h3, h4, h5⟩ := innerCheck_zero h
  have hl := be4_len n.unmerged
  unfold iput
  rw [if_neg (not_not_intro h), pnums, pbytes_eq (by omega), pbytes_eq (by omega), pbytes_eq (by omega)]
  simp only [f1, List.append_assoc]
theorem iget_put {n : Inner} (h : innerCheck n = 0) (t : List Int) : iget (iput [] n ++ t) = (n, t, 0) := by
  obtain ⟨h1, h2, h3, h4, h5⟩ := innerCheck_zero h
  rw [iput_eq h, List.nil_append, List.append_assoc, List.append_assoc]
  have e1 : gbytes (f1 n.enc ++ (f1 n.hash ++ (f1 (n.unmerged.flatMap be4) ++ t))) = (n.enc, f1 n.hash ++ (f1 (n.unmerged.flatMap be4) ++ t), 0) := gbytes_put (v := n.enc) (by omega) _
  have e2 : gbytes (f1 n.hash ++ (f1 (n.unmerged.flatMap be4) ++ t)) = (n.hash, f1 (n.unmerged.flatMap be4) ++ t, 0) := gbytes_put (v := n.hash) (by omega) _
  have e3 : gnums (f1 (n.unmerged.flatMap be4) ++ t) = (n.unmerged, t, 0) := gnums_put (l := n.unmerged) (by omega) (fun x hx => by have := h4 x hx; omega) t
  rw [iget_eq e1 e2 e3]
  simp only [ne_eq, not_true_eq_false, if_false]
  rw [if_neg (not_not_intro h)]
theorem iput_ne {n : Inner} (h : innerCheck n = 0) : iput [] n ≠ [] := by
  obtain ⟨h1, h2, h3, h4, h5⟩ := innerCheck_zero h
  rw [iput_eq h]
  intro e
  have := congrArg List.length e
  rw [List.nil_append, List.length_append, f1, List.length_append, List.length_nil] at this
  exact h5 (List.eq_nil_of_length_eq_zero (by omega))
theorem iget_cut {n : Inner} (h : innerCheck n = 0) {c : Nat} (hc : c < (iput [] n).length) : iget ((iput [] n).take c) = (.zero, [], 1) := by
  obtain ⟨h1, h2, h3, h4, h5⟩ := innerCheck_zero h
  rw [iput_eq h, List.nil_append] at *
  rw [List.length_append, List.length_append] at hc
  by_cases c1 : c < (f1 n.enc).length
  · have e := gbytes_cut (v := n.enc) (by omega) c1
    rw [List.take_append_of_le_length (by omega)]
    unfold iget
    rw [show f1 n.enc = vput n.enc.length ++ n.enc from rfl, e]
    simp
  rw [List.take_append, List.take_of_length_le (by omega)]
  have e1 : ∀ X, gbytes (f1 n.enc ++ X) = (n.enc, X, 0) := fun X => gbytes_put (v := n.enc) (by omega) X
  by_cases c2 : c - (f1 n.enc).length < (f1 n.hash).length
  · rw [List.take_append_of_le_length (by omega)] at *
    have e2 : gbytes ((f1 n.hash).take (c - (f1 n.enc).length)) = ([], [], 1) := gbytes_cut (v := n.hash) (by omega) c2
    rw [iget_eq (e1 _) e2 rfl]
    simp
  rw [List.take_append (l₁ := f1 n.hash), List.take_of_length_le (l := f1 n.hash) (by omega)]
  have e2 : ∀ X, gbytes (f1 n.hash ++ X) = (n.hash, X, 0) := fun X => gbytes_put (v := n.hash) (by omega) X
  have e3 : gnums ((f1 (n.unmerged.flatMap be4)).take (c - (f1 n.enc).length - (f1 n.hash).length)) = ([], [], 1) := gnums_cut (l := n.unmerged) (by omega) (c := c - (f1 n.enc).length - (f1 n.hash).length) (by rw [show vput ((n.unmerged.flatMap be4).length : Int) ++ n.unmerged.flatMap be4 = f1 (n.unmerged.flatMap be4) from rfl]; omega)
  rw [iget_eq (e1 _) (e2 _) e3]
  simp
theorem iget_only {b r : List Int} {n : Inner} (hb : Bytes b) (h : iget b = (n, r, 0)) : innerCheck n = 0 ∧ iput [] n ++ r = b := by
  rcases h1 : gbytes b with ⟨x, s, e⟩
  rcases h2 : gbytes s with ⟨y, t, f⟩
  rcases h3 : gnums t with ⟨l, u, g⟩
  rw [iget_eq h1 h2 h3] at h
  by_cases he : e = 0
  · by_cases hf : f = 0
    · by_cases hg : g = 0
      · subst he; subst hf; subst hg
        simp only [ne_eq, not_true_eq_false, if_false] at h
        by_cases hc : innerCheck ⟨x, y, l⟩ = 0
        · rw [if_neg (not_not_intro hc)] at h
          simp at h
          obtain ⟨rfl, rfl⟩ := h
          refine ⟨hc, ?_⟩
          have b1 := gbytes_rest hb h1
          have b2 := gbytes_rest b1.2 h2
          have o1 := (gbytes_only hb h1).2
          have o2 := (gbytes_only b1.2 h2).2
          have o3 := gnums_only b2.2 h3
          rw [iput_eq hc]
          simp only [f1, List.nil_append, List.append_assoc] at *
          rw [o3, o2, o1]
        · rw [if_pos hc] at h
          simp at h; exact absurd h.2.2 hc
      · subst he; subst hf
        simp only [ne_eq, not_true_eq_false, if_false, hg, not_false_eq_true, if_true] at h
        simp at h; exact absurd h.2.2 hg
    · subst he
      simp only [ne_eq, not_true_eq_false, if_false, hf, not_false_eq_true, if_true] at h
      simp at h; exact absurd h.2.2 hf
  · rw [if_pos he] at h
    simp at h; exact absurd h.2.2 he
theorem iget_bad {b : List Int} (h : (iget b).2.2 ≠ 0) : iget b = (.zero, [], (iget b).2.2) := by
  rcases h1 : gbytes b with ⟨x, s, e⟩
  rcases h2 : gbytes s with ⟨y, t, f⟩
  rcases h3 : gnums t with ⟨l, u, g⟩
  have := iget_eq h1 h2 h3
  rw [this] at h ⊢
  split
  · rfl
  · split
    · rfl
    · split
      · rfl
      · split
        · rfl
        · rename_i a1 a2 a3 a4
          rw [if_neg a1, if_neg a2, if_neg a3, if_neg a4] at h
          exact absurd rfl h
end Go.Proofs.YtlehcigcaihoaaaGreat.Al
