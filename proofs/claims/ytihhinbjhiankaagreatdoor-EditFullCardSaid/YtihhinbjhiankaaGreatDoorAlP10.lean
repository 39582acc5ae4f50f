/-
  PLAIN LAWS: trees trimmed.
-/
import Derived.Test.YtihhinbjhiankaaGreatDoorAlP9
set_option linter.unusedSimpArgs false
set_option linter.unusedVariables false
namespace Go.Proofs.YtihhinbjhiankaaGreatDoor.Al

theorem trimL_ind {p : List Node → Prop} (h1 : ∀ a, ¬ (1 < a.length ∧ Leafless a (a.length / 2)) → p a) (h2 : ∀ a, 1 < a.length → Leafless a (a.length / 2) → p (a.take (a.length / 2)) → p a) : ∀ a, p a := by
  intro a
  induction h : a.length using Nat.strongRecOn generalizing a with
  | _ n ih =>
    by_cases hc : 1 < a.length ∧ Leafless a (a.length / 2)
    · exact h2 a hc.1 hc.2 (ih _ (by rw [List.length_take]; omega) _ rfl)
    · exact h1 a hc
theorem trimL_prefix : ∀ a : List Node, ∃ n, n ≤ a.length ∧ trimL a = a.take n := by
  refine trimL_ind (fun a h => ⟨a.length, Nat.le_refl _, by rw [trimL_end h, List.take_length]⟩) fun a h h1 ⟨n, hn, e⟩ => ?_
  refine ⟨n, by rw [List.length_take] at hn; omega, ?_⟩
  rw [trimL_step h h1, e, List.take_take]
  congr 1
  rw [List.length_take] at hn; omega
theorem trimL_stop : ∀ a : List Node, ¬ (1 < (trimL a).length ∧ Leafless (trimL a) ((trimL a).length / 2)) :=
  trimL_ind (fun a h => by rw [trimL_end h]; exact h) fun a h h1 ih => by rw [trimL_step h h1]; exact ih
theorem trimL_fix (a : List Node) : trimL (trimL a) = trimL a := trimL_end (trimL_stop a)
theorem take_sane {t : List Node} (h : Sane t) {n : Nat} (hn : n ≤ t.length) (hw : n = 0 ∨ Whole n) : Sane (t.take n) := by
  refine ⟨fun x hx => ?_, by rw [List.length_take, Nat.min_eq_left hn]; exact hw⟩
  rw [List.getElem_take]; exact h.1 x _
theorem half_whole {n : Nat} (h : n = 0 ∨ Whole n) (h1 : 1 < n) : Whole ((n / 2 : Nat) : Int) := by unfold Whole at *; omega
theorem trimL_sane : ∀ a : List Node, Sane a → Sane (trimL a) :=
  trimL_ind (fun a h hs => by rw [trimL_end h]; exact hs) fun a h h1 ih hs => by
    rw [trimL_step h h1]
    exact ih (take_sane hs (by omega) (.inr (half_whole hs.2 h)))
theorem trimT_eq {t : List Node} (h : Sane t) : trimT t = if (trimL t).length = 1 ∧ (nodeAt (trimL t) 0).kind = 0 then [] else trimL t := by
  unfold trimT; rw [known_of h]
theorem trimT_sane {t : List Node} (h : Sane t) : Sane (trimT t) := by
  rw [trimT_eq h]
  split
  · exact .nil
  · exact trimL_sane t h
theorem trimL_nil : trimL [] = [] := trimL_end (by simp)
theorem trim_trim {t : List Node} (h : Sane t) : trimT (trimT t) = trimT t := by
  rw [trimT_eq (trimT_sane h), trimT_eq h]
  split
  · rename_i hc
    rw [trimL_nil]; simp
  · rename_i hc
    rw [trimL_fix, if_neg hc]
theorem trim_take {t : List Node} (h : Sane t) : (trimT t).length ≤ t.length ∧ t.take (trimT t).length = trimT t := by
  rw [trimT_eq h]
  split
  · simp
  · obtain ⟨n, hn, e⟩ := trimL_prefix t
    rw [e, List.length_take, Nat.min_eq_left hn]
    exact ⟨hn, rfl⟩
theorem trim_grow {t : List Node} (h : Sane t) (h1 : t.length ≠ 127) : trimT (grown t) = trimT t := by
  rw [trimT_eq (show Sane (grown t) from grow_sane h h1), trimT_eq h]
  by_cases h0 : t.length = 0
  · have : t = [] := List.eq_nil_of_length_eq_zero h0
    subst this
    have e : trimL (grown []) = grown [] := trimL_end (by simp [grown])
    rw [e, trimL_nil]
    simp [grown, nodeAt, Node.zero]
  · have e : trimL (grown t) = trimL t := by
      have hl := grown_len t
      rw [trimL_step (by omega) fun x hx hle => by
        rw [← nodeAt_lt hx, grown_at, nodeAt_ge (by omega)]; decide]
      rw [show (grown t).length / 2 = t.length by omega, grown_take]
    rw [e]
theorem check_kind {n : Node} (h : nodeCheck n = 0) : n.kind = 0 ∨ n.kind = 1 ∨ n.kind = 2 := by
  unfold nodeCheck at h
  by_cases hc : n.kind < 0 ∨ n.kind > 2
  · rw [if_pos hc] at h; cases h
  · omega
theorem trim_last {t : List Node} (h : Sane t) (h0 : (trimT t).length ≠ 0) : ∃ x, ∃ hx : x < (trimT t).length, (trimT t)[x].kind = 1 ∧ (trimT t).length / 2 ≤ x := by
  have hs := trimT_sane h
  have e := trimT_eq h
  by_cases hc : (trimL t).length = 1 ∧ (nodeAt (trimL t) 0).kind = 0
  · rw [if_pos hc] at e; rw [e] at h0; exact absurd rfl h0
  rw [if_neg hc] at e
  have hst := trimL_stop t
  rw [← e] at hc hst
  by_cases h1 : 1 < (trimT t).length
  · have hnl : ¬ Leafless (trimT t) ((trimT t).length / 2) := fun hl => hst ⟨h1, hl⟩
    simp only [Leafless, Classical.not_forall, ne_eq, Classical.not_not] at hnl
    obtain ⟨x, hx, hk, hkk⟩ := hnl
    exact ⟨x, hx, hkk, hk⟩
  · have hlen : (trimT t).length = 1 := by omega
    have g := hs.1 0 (by omega)
    have hk := check_kind g.2
    have hst0 : Stands 0 (trimT t)[0].kind := g.1
    have hz : (trimT t)[0].kind ≠ 0 := fun hz => hc ⟨hlen, by rw [nodeAt_lt (by omega)]; exact hz⟩
    unfold Stands at hst0
    simp at hst0
    exact ⟨0, by omega, by omega, by omega⟩
end Go.Proofs.YtihhinbjhiankaaGreatDoor.Al
