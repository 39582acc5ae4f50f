/-
  PLAIN LAWS: the filtered way; greater trees.
-/
import Derived.Test.YtlehcigcaihoaaaDoorAlJ2
import Derived.Test.YtlehcigcaihoaaaDoorAlP17
import Derived.Test.YtlehcigcaihoaaaDoorAlP10
set_option linter.unusedSimpArgs false
set_option linter.unusedVariables false
namespace Go.Proofs.YtlehcigcaihoaaaDoor.Al
open Go

theorem besI_out {t : List Node} (hs : Sane t) {i : Int} (h : i < 0 ∨ i ≥ leaves_ t) : besI t i = [] := by
  have lv := leaves_of hs
  unfold besI
  rw [known_of hs]
  rcases hs.2 with hz | hw
  · rw [hz]
    split
    · rfl
    · have hi : i = 0 := by omega
      subst hi
      rw [co_out (fun h => by have := h.2.2; omega)]; rfl
  · have := hw.odd
    rw [if_pos (by omega)]
theorem besI_in {t : List Node} (hs : Sane t) {i : Int} (h0 : 0 ≤ i) (h1 : i < leaves_ t) : besI t i = delF (fun s => decide (resI t s = [])) (coI (2 * i) t.length) := by
  have lv := leaves_of hs
  unfold besI
  rw [known_of hs, if_neg (by omega)]
theorem leaf_is {t : List Node} (hs : Sane t) {i : Int} (h0 : 0 ≤ i) (h1 : i < leaves_ t) : IsN (2 * i) t.length := by
  have lv := leaves_of hs
  have hne : ¬ t.length = 0 := by omega
  have hw : Whole t.length := hs.2.resolve_left hne
  have := hw.odd
  exact ⟨hw, by omega, by omega⟩
theorem dir_nodup {x w : Int} (h : IsN x w) : (directI x w).Nodup := by
  have := IsN.all (p := fun y n => (directI (y : Int) (n : Int)).Nodup) (by decide +kernel) h
  rwa [h.cast.1, h.cast.2] at this
theorem sib_in {x w : Int} (h : IsN x w) : 0 ≤ parI x w → 0 ≤ sibI (sibI x w) w := by
  have := IsN.all (p := fun y n => 0 ≤ parI (y : Int) (n : Int) → 0 ≤ sibI (sibI (y : Int) (n : Int)) (n : Int)) (by decide +kernel) h
  rwa [h.cast.1, h.cast.2] at this
theorem co_sib {w s : Int} : ∀ x : Int, s ∈ coI x w → 0 ≤ sibI s w :=
  ups_ind (fun x hx h => by rw [co_out hx] at h; cases h) fun x hx ih h => by
    by_cases hp : 0 ≤ parI x w
    · rw [(co_up hp).2] at h
      rcases List.mem_cons.1 h with rfl | h
      · exact sib_in hx hp
      · exact ih h
    · rw [co_end hp] at h; cases h
/-- Where one that is kept stands. -/
theorem delF_at {p : Int → Bool} {l : List Int} {j : Nat} (hj : j < l.length) (h : p l[j] = false) : ∃ hk : (delF p (l.take j)).length < (delF p l).length, (delF p l)[(delF p (l.take j)).length] = l[j] := by
  have e : delF p l = delF p (l.take j) ++ l[j] :: delF p (l.drop (j + 1)) := by
    conv => lhs; rw [← List.take_append_drop j l, List.drop_eq_getElem_cons hj]
    unfold delF
    rw [List.filter_append, List.filter_cons_of_pos (by simp [h])]
  have hl : (delF p (l.take j)).length < (delF p l).length := by rw [e]; simp
  refine ⟨hl, ?_⟩
  have h2 : (delF p l)[(delF p (l.take j)).length]? = some l[j] := by rw [e]; simp
  rw [List.getElem?_eq_getElem hl] at h2
  exact Option.some.inj h2
/-- The greater tree: the places below are as they were. -/
theorem grow_all {p : Nat → Nat → Prop} (hp : ∀ n ∈ [1, 3, 7, 15, 31, 63], ∀ y, y < n → p y n) {x w : Int} (h : IsN x w) (hw : w ≠ 127) : p x.toNat w.toNat := by
  obtain ⟨n, hn, rfl⟩ := whole_mem h.1
  have h2 := h.2.2
  have h1 := h.2.1
  refine hp n ?_ _ (by omega)
  simp only [List.mem_cons, List.not_mem_nil, or_false] at hn ⊢
  omega
theorem up_kids {x w : Int} (h : IsN x w) (hw : w ≠ 127) : leftI x (2 * w + 1) = leftI x w ∧ rightI x (2 * w + 1) = rightI x w ∧ (0 ≤ parI x w → parI x (2 * w + 1) = parI x w) := by
  have := grow_all (p := fun y n => leftI (y : Int) (2 * (n : Int) + 1) = leftI (y : Int) (n : Int) ∧ rightI (y : Int) (2 * (n : Int) + 1) = rightI (y : Int) (n : Int) ∧ (0 ≤ parI (y : Int) (n : Int) → parI (y : Int) (2 * (n : Int) + 1) = parI (y : Int) (n : Int))) (by decide +kernel) h hw
  rwa [h.cast.1, h.cast.2] at this
theorem up_co {x w : Int} (h : IsN x w) (hw : w ≠ 127) : coI x (2 * w + 1) = coI x w ++ [w + 1 + w / 2] := by
  have := grow_all (p := fun y n => coI (y : Int) (2 * (n : Int) + 1) = coI (y : Int) (n : Int) ++ [(n : Int) + 1 + (n : Int) / 2]) (by decide +kernel) h hw
  rwa [h.cast.1, h.cast.2] at this
theorem up_root {w : Int} (h : Whole w) (hw : w ≠ 127) : leftI w (2 * w + 1) = w / 2 ∧ rightI w (2 * w + 1) = w + 1 + w / 2 := by
  rcases h with h | h | h | h | h | h | h <;> subst h <;> first | decide | exact absurd rfl hw
/-- Of the right half nothing leads out. -/
theorem right_half {x w : Int} (h : IsN x (2 * w + 1)) (hw : Whole w) (hx : w < x) : (leftI x (2 * w + 1) = -1 ∨ w < leftI x (2 * w + 1)) ∧ (rightI x (2 * w + 1) = -1 ∨ w < rightI x (2 * w + 1)) := by
  have := IsN.all (p := fun y n => (n : Int) / 2 < (y : Int) → (leftI (y : Int) (n : Int) = -1 ∨ (n : Int) / 2 < leftI (y : Int) (n : Int)) ∧ (rightI (y : Int) (n : Int) = -1 ∨ (n : Int) / 2 < rightI (y : Int) (n : Int))) (by decide +kernel) h
  rw [h.cast.1, h.cast.2, show (2 * w + 1) / 2 = w by omega] at this
  exact this hx
theorem resF_grown {t : List Node} (hw : Whole t.length) (h127 : t.length ≠ 127) : ∀ (f : Nat) (x : Int), 0 ≤ x → x < t.length → resF f (grown t) x = resF f t x := by
  intro f
  induction f with
  | zero => intro x _ _; rfl
  | succ f ih =>
    intro x h0 h1
    have gl : ((grown t).length : Int) = 2 * (t.length : Int) + 1 := by rw [grown_len]; omega
    have hN : IsN x t.length := ⟨hw, h0, h1⟩
    obtain ⟨u1, u2, _⟩ := up_kids hN (by omega)
    have sub : ∀ c, (c = -1 ∨ (0 ≤ c ∧ c < (t.length : Int))) → resF f (grown t) c = resF f t c := by
      rintro c (rfl | ⟨c0, c1⟩)
      · rw [resF_out _ (by omega), resF_out _ (by omega)]
      · exact ih c c0 c1
    obtain ⟨a, b⟩ := kids hN
    unfold resF
    rw [grown_at, gl, u1, u2, sub _ (a.imp id fun h => ⟨h.1, h.2.1⟩), sub _ (b.imp id fun h => ⟨h.1, h.2.1⟩)]
    rw [if_neg (show ¬ (x < 0 ∨ x ≥ 2 * (t.length : Int) + 1) by omega), if_neg (show ¬ (x < 0 ∨ x ≥ (t.length : Int)) by omega)]
theorem resI_grown {t : List Node} (hw : Whole t.length) (h127 : t.length ≠ 127) {x : Int} (h0 : 0 ≤ x) (h1 : x < t.length) : resI (grown t) x = resI t x := resF_grown hw h127 7 x h0 h1
theorem resF_right {t : List Node} (hw : Whole t.length) (h127 : t.length ≠ 127) : ∀ (f : Nat) (x : Int), (x = -1 ∨ (t.length : Int) < x) → resF f (grown t) x = [] := by
  intro f
  induction f with
  | zero => intro x _; rfl
  | succ f ih =>
    intro x h
    have gl : ((grown t).length : Int) = 2 * (t.length : Int) + 1 := by rw [grown_len]; omega
    unfold resF
    split
    · rfl
    · rename_i hx
      rw [gl] at hx
      rcases h with rfl | h
      · omega
      have hW : Whole (2 * (t.length : Int) + 1) := by unfold Whole at hw ⊢; omega
      obtain ⟨a, b⟩ := right_half (w := t.length) ⟨hW, by omega, by omega⟩ hw h
      rw [grown_at, nodeAt_ge (by omega), gl, ih _ a, ih _ b]
      simp [Node.zero]
theorem resI_right {t : List Node} (hw : Whole t.length) (h127 : t.length ≠ 127) {x : Int} (h : (t.length : Int) < x) : resI (grown t) x = [] := resF_right hw h127 7 x (.inr h)
theorem resI_root {t : List Node} (hw : Whole t.length) (h127 : t.length ≠ 127) : resI (grown t) t.length = resI t (t.length / 2) := by
  have gl : ((grown t).length : Int) = 2 * (t.length : Int) + 1 := by rw [grown_len]; omega
  have hW : Whole ((grown t).length : Int) := by rw [gl]; unfold Whole at hw ⊢; omega
  obtain ⟨a, b⟩ := up_root hw (by omega)
  have hl := hw.le
  rw [resI_blank hW (by omega) (by rw [grown_at, nodeAt_ge (by omega)]; rfl), gl, a, b, resI_right hw h127 (x := (t.length : Int) + 1 + t.length / 2) (by omega), List.append_nil, resI_grown hw h127 (by omega) (by omega)]
theorem delF_append (p : Int → Bool) (a b : List Int) : delF p (a ++ b) = delF p a ++ delF p b := by unfold delF; exact List.filter_append ..
theorem delF_congr {p q : Int → Bool} {l : List Int} (h : ∀ x ∈ l, p x = q x) : delF p l = delF q l := by
  unfold delF
  exact List.filter_congr fun x hx => by rw [h x hx]
theorem besI_grown {t : List Node} (hs : Sane t) (hw : Whole t.length) (h127 : t.length ≠ 127) {i : Int} (h0 : 0 ≤ i) (h1 : i ≤ t.length / 2) : besI (grown t) i = besI t i ∧ filI (grown t) i = filI t i := by
  have gl : ((grown t).length : Int) = 2 * (t.length : Int) + 1 := by rw [grown_len]; omega
  have hgs : Sane (grown t) := grow_sane hs h127
  have hodd := hw.odd
  have hl := hw.le
  have hN : IsN (2 * i) t.length := ⟨hw, by omega, by omega⟩
  have e : besI (grown t) i = besI t i := by
    rw [besI_in hgs h0 (by rw [leaves_of hgs, gl]; omega), besI_in hs h0 (by rw [leaves_of hs]; omega), gl, up_co hN (by omega), delF_append]
    have e1 : delF (fun s => decide (resI (grown t) s = [])) [(t.length : Int) + 1 + t.length / 2] = [] := by
      unfold delF
      simp [resI_right hw h127 (x := (t.length : Int) + 1 + t.length / 2) (by omega)]
    rw [e1, List.append_nil]
    refine delF_congr fun s hs' => ?_
    obtain ⟨s0, s1⟩ := co_in hs'
    rw [resI_grown hw h127 s0 s1]
  refine ⟨e, ?_⟩
  unfold filI
  rw [e, gl]
  refine List.map_congr_left fun s hs' => ?_
  rw [besI_in hs h0 (by rw [leaves_of hs]; omega)] at hs'
  have hsc : s ∈ coI (2 * i) t.length := (List.mem_filter.1 hs').1
  obtain ⟨s0, s1⟩ := co_in hsc
  have hsib := co_sib _ hsc
  have hsN : IsN s t.length := ⟨hw, s0, s1⟩
  refine (up_kids hsN (by omega)).2.2 ?_
  by_cases hp : 0 ≤ parI s t.length
  · exact hp
  · have := (sib_par hsN).1 (by omega); omega
end Go.Proofs.YtlehcigcaihoaaaDoor.Al
