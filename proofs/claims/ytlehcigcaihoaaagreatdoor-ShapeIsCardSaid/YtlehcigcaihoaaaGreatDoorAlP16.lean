/-
  PLAIN LAWS: the document's answers about places, and the program's, are alike.
-/
import Derived.Test.YtlehcigcaihoaaaGreatDoorAlP13
set_option linter.unusedSimpArgs false
set_option linter.unusedVariables false
namespace Go.Proofs.YtlehcigcaihoaaaGreatDoor.Al
open Go

theorem sib_par {x w : Int} (h : IsN x w) : (parI x w < 0 → sibI x w = -1) ∧ (0 ≤ parI x w → 0 ≤ sibI x w ∧ sibI x w < w ∧ parI (sibI x w) w = parI x w ∧ (if leftI (parI x w) w = x then rightI (parI x w) w else leftI (parI x w) w) = sibI x w) := by
  have := IsN.all (p := fun y n => (parI (y : Int) (n : Int) < 0 → sibI (y : Int) (n : Int) = -1) ∧ (0 ≤ parI (y : Int) (n : Int) → 0 ≤ sibI (y : Int) (n : Int) ∧ sibI (y : Int) (n : Int) < (n : Int) ∧ parI (sibI (y : Int) (n : Int)) (n : Int) = parI (y : Int) (n : Int) ∧
    (if leftI (parI (y : Int) (n : Int)) (n : Int) = (y : Int) then rightI (parI (y : Int) (n : Int)) (n : Int) else leftI (parI (y : Int) (n : Int)) (n : Int)) = sibI (y : Int) (n : Int))) (by decide +kernel) h
  rwa [h.cast.1, h.cast.2] at this
theorem par_ref {x w : Int} (h : IsN x w) : IntKind.i64.wrap (x.tdiv (2 ^ (lev x.toNat + 1))) = x / 2 ^ (lev x.toNat + 1) ∧ ((parN x.toNat : Nat) : Int) = (if (x / 2 ^ (lev x.toNat + 1)).tmod 2 = 0 then x + 2 ^ lev x.toNat else x - 2 ^ lev x.toNat) ∧ (2 : Int) ^ lev x.toNat ≤ 64 ∧ (0 : Int) < 2 ^ lev x.toNat := by
  have := IsN.all (p := fun y _ => IntKind.i64.wrap ((y : Int).tdiv (2 ^ (lev y + 1))) = (y : Int) / 2 ^ (lev y + 1) ∧ ((parN y : Nat) : Int) = (if ((y : Int) / 2 ^ (lev y + 1)).tmod 2 = 0 then (y : Int) + 2 ^ lev y else (y : Int) - 2 ^ lev y) ∧ (2 : Int) ^ lev y ≤ 64 ∧ (0 : Int) < 2 ^ lev y) (by decide +kernel) h
  rwa [h.cast.1] at this
theorem co_step {x w : Int} (h : IsN x w) : coI x w = (if 0 ≤ sibI x w then [sibI x w] else []) ++ coI (parI x w) w := by
  unfold coI
  rw [ups_step h, List.map_cons, List.filter_cons]
  by_cases hs : 0 ≤ sibI x w
  · simp [hs]
  · simp [hs]
theorem co_out {x w : Int} (h : ¬ IsN x w) : coI x w = [] := by unfold coI; rw [ups_not h]; rfl
theorem co_up {x w : Int} (h : 0 ≤ parI x w) : IsN x w ∧ coI x w = sibI x w :: coI (parI x w) w := by
  have hx : IsN x w := by
    by_cases hx : IsN x w
    · exact hx
    · unfold parI at h; rw [if_neg hx] at h; omega
  refine ⟨hx, ?_⟩
  rw [co_step hx, if_pos ((sib_par hx).2 h).1]; rfl
theorem co_end {x w : Int} (h : ¬ 0 ≤ parI x w) : coI x w = [] := by
  by_cases hx : IsN x w
  · rw [co_step hx, (sib_par hx).1 (by omega), if_neg (by omega), co_out]
    · rfl
    · exact fun hp => h hp.2.1
  · exact co_out hx
theorem dir_up {x w : Int} (h : 0 ≤ parI x w) : directI x w = parI x w :: directI (parI x w) w := by
  rw [direct_eq, direct_eq, ← ups_step (parI_is h)]
theorem dir_end {x w : Int} (h : ¬ 0 ≤ parI x w) : directI x w = [] := by
  rw [direct_eq, ups_not]
  exact fun hp => h hp.2.1
/-- What stands beside, and the way up, go together. -/
theorem co_dir : ∀ (f : Nat) (x w : Int), (ups x w).length ≤ f → (coI x w).map (fun s => parI s w) = directI x w ∧ ∀ s ∈ coI x w, 0 ≤ s ∧ s < w := by
  intro f
  induction f with
  | zero =>
    intro x w h
    have hn : ¬ IsN x w := fun hx => by rw [ups_step hx] at h; simp at h
    have hp : ¬ 0 ≤ parI x w := by unfold parI; rw [if_neg hn]; omega
    rw [co_out hn, dir_end hp]
    exact ⟨rfl, fun s hs => by cases hs⟩
  | succ f ih =>
    intro x w h
    by_cases hp : 0 ≤ parI x w
    · obtain ⟨hx, e⟩ := co_up hp
      obtain ⟨s1, s2, s3, _⟩ := (sib_par hx).2 hp
      obtain ⟨a, b⟩ := ih (parI x w) w (by rw [ups_step hx] at h; simp at h; omega)
      rw [e, dir_up hp, List.map_cons, s3, a]
      refine ⟨rfl, fun s hs => ?_⟩
      rcases List.mem_cons.1 hs with rfl | hs
      · exact ⟨s1, s2⟩
      · exact b s hs
    · rw [co_end hp, dir_end hp]
      exact ⟨rfl, fun s hs => by cases hs⟩
theorem co_map (x w : Int) : (coI x w).map (fun s => parI s w) = directI x w := (co_dir _ x w (Nat.le_refl _)).1
theorem co_in {x w s : Int} (h : s ∈ coI x w) : 0 ≤ s ∧ s < w := (co_dir _ x w (Nat.le_refl _)).2 s h
theorem co_len (x w : Int) : (coI x w).length = (directI x w).length := by rw [← co_map, List.length_map]
theorem dir_len (x w : Int) : (directI x w).length ≤ 6 := by
  have := ups_len x w
  unfold directI
  rw [List.length_tail]; omega
end Go.Proofs.YtlehcigcaihoaaaGreatDoor.Al
