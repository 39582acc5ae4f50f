/-
  PLAIN LAWS: ways up; who is told below a node.
-/
import Derived.Test.YtlehcigcaihoaaaDoorAlP15
import Derived.Test.YtlehcigcaihoaaaDoorAlP16
import Derived.Test.YtlehcigcaihoaaaDoorAlP14
set_option linter.unusedSimpArgs false
set_option linter.unusedVariables false
namespace Go.Proofs.YtlehcigcaihoaaaDoor.Al
open Go

theorem ups_ind {w : Int} {P : Int → Prop} (h0 : ∀ y, ¬ IsN y w → P y) (h1 : ∀ y, IsN y w → P (parI y w) → P y) : ∀ y, P y := by
  have : ∀ (n : Nat) (y : Int), (ups y w).length ≤ n → P y := by
    intro n
    induction n with
    | zero =>
      intro y h
      refine h0 y fun hy => ?_
      rw [ups_step hy] at h; simp at h
    | succ n ih =>
      intro y h
      by_cases hy : IsN y w
      · refine h1 y hy (ih _ ?_)
        rw [ups_step hy] at h; simp at h; omega
      · exact h0 y hy
  exact fun y => this _ y (Nat.le_refl _)
theorem ups_head {y w : Int} (h : IsN y w) : y ∈ ups y w := by rw [ups_step h]; simp
theorem ups_par {w c : Int} : ∀ y : Int, c ∈ ups y w → 0 ≤ parI c w → parI c w ∈ ups y w :=
  ups_ind (fun y hy hc _ => by rw [ups_not hy] at hc; cases hc) fun y hy ih hc hp => by
    rw [ups_step hy] at hc ⊢
    rcases List.mem_cons.1 hc with rfl | hc
    · exact List.mem_cons_of_mem _ (ups_head (parI_is hp))
    · exact List.mem_cons_of_mem _ (ih hc hp)
theorem ups_sub {w b : Int} : ∀ a : Int, b ∈ ups a w → ∀ c, c ∈ ups b w → c ∈ ups a w :=
  ups_ind (fun a ha hb => by rw [ups_not ha] at hb; cases hb) fun a ha ih hb c hc => by
    rw [ups_step ha] at hb
    rcases List.mem_cons.1 hb with rfl | hb
    · exact hc
    · rw [ups_step ha]; exact List.mem_cons_of_mem _ (ih hb c hc)
theorem ups_pred {w x : Int} : ∀ y : Int, x ∈ ups y w → x ≠ y → ∃ z ∈ ups y w, parI z w = x :=
  ups_ind (fun y hy h => by rw [ups_not hy] at h; cases h) fun y hy ih h hne => by
    rw [ups_step hy] at h
    rcases List.mem_cons.1 h with rfl | h
    · exact absurd rfl hne
    · by_cases e : x = parI y w
      · exact ⟨y, ups_head hy, e.symm⟩
      · obtain ⟨z, hz, hp⟩ := ih h e
        exact ⟨z, by rw [ups_step hy]; exact List.mem_cons_of_mem _ hz, hp⟩
theorem ups_chain {w a b : Int} : ∀ y : Int, a ∈ ups y w → b ∈ ups y w → b ∈ ups a w ∨ a ∈ ups b w :=
  ups_ind (fun y hy h => by rw [ups_not hy] at h; cases h) fun y hy ih ha hb => by
    have ha0 := ha
    have hb0 := hb
    rw [ups_step hy] at ha hb
    rcases List.mem_cons.1 ha with rfl | ha
    · exact .inl hb0
    · rcases List.mem_cons.1 hb with rfl | hb
      · exact .inr ha0
      · exact ih ha hb
theorem kin {x w : Int} (h : IsN x w) : (0 ≤ parI x w → (leftI (parI x w) w = x ∨ rightI (parI x w) w = x) ∧ lev (parI x w).toNat = lev x.toNat + 1) ∧ (0 ≤ leftI x w → parI (leftI x w) w = x ∧ leftI x w < w) ∧ (0 ≤ rightI x w → parI (rightI x w) w = x ∧ rightI x w < w) ∧ (0 ≤ leftI x w → leftI x w ≠ rightI x w) := by
  have := IsN.all (p := fun y n => (0 ≤ parI (y : Int) (n : Int) → (leftI (parI (y : Int) (n : Int)) (n : Int) = (y : Int) ∨ rightI (parI (y : Int) (n : Int)) (n : Int) = (y : Int)) ∧ lev (parI (y : Int) (n : Int)).toNat = lev y + 1) ∧
    (0 ≤ leftI (y : Int) (n : Int) → parI (leftI (y : Int) (n : Int)) (n : Int) = (y : Int) ∧ leftI (y : Int) (n : Int) < (n : Int)) ∧ (0 ≤ rightI (y : Int) (n : Int) → parI (rightI (y : Int) (n : Int)) (n : Int) = (y : Int) ∧ rightI (y : Int) (n : Int) < (n : Int)) ∧ (0 ≤ leftI (y : Int) (n : Int) → leftI (y : Int) (n : Int) ≠ rightI (y : Int) (n : Int))) (by decide +kernel) h
  rwa [h.cast.1, h.cast.2] at this
theorem ups_lev {w a : Int} : ∀ y : Int, a ∈ ups y w → a ≠ y → lev y.toNat < lev a.toNat :=
  ups_ind (fun y hy h => by rw [ups_not hy] at h; cases h) fun y hy ih ha hne => by
    rw [ups_step hy] at ha
    rcases List.mem_cons.1 ha with rfl | ha
    · exact absurd rfl hne
    · have hp : 0 ≤ parI y w := by
        by_cases hp : 0 ≤ parI y w
        · exact hp
        · rw [ups_not (fun h => hp h.2.1)] at ha; cases ha
      have hl := ((kin hy).1 hp).2
      by_cases e : a = parI y w
      · rw [e]; omega
      · have := ih ha e; omega
/-- Two children of a node are not both on one way up. -/
theorem ups_two {w x y : Int} (hx : IsN x w) (h0 : 0 ≤ leftI x w) (h1 : 0 ≤ rightI x w) (ha : leftI x w ∈ ups y w) (hb : rightI x w ∈ ups y w) : False := by
  obtain ⟨_, _, _, hne⟩ := kin hx
  have hne := hne h0
  obtain ⟨a, b⟩ := kids hx
  have hl : lev (leftI x w).toNat = lev (rightI x w).toNat := by
    rcases a with a | ⟨_, _, a⟩
    · omega
    · rcases b with b | ⟨_, _, b⟩
      · omega
      · omega
  rcases ups_chain y ha hb with h | h
  · have := ups_lev _ h (Ne.symm hne); omega
  · have := ups_lev _ h hne; omega

/-- The nodes that are told below a node: not blank, below it; or leaves that do not know a node. -/
theorem resF_node {t : List Node} (hw : Whole t.length) : ∀ (f : Nat) (x : Int), ∀ z ∈ resF f t x, (0 ≤ z ∧ z < t.length ∧ (nodeAt t z.toNat).kind ≠ 0 ∧ x ∈ ups z t.length) ∨ ∃ (y i : Int), 0 ≤ y ∧ y < t.length ∧ i ∈ (nodeAt t y.toNat).inner.unmerged ∧ z = 2 * i := by
  intro f
  induction f with
  | zero => intro x z h; cases h
  | succ f ih =>
    intro x z h
    unfold resF at h
    split at h
    · cases h
    · rename_i hx
      have hN : IsN x t.length := ⟨hw, by omega, by omega⟩
      split at h
      · rename_i hk
        rcases List.mem_cons.1 h with rfl | h
        · exact .inl ⟨by omega, by omega, hk, ups_head hN⟩
        · obtain ⟨i, hi, rfl⟩ := List.mem_map.1 h
          exact .inr ⟨x, i, by omega, by omega, hi, rfl⟩
      · have up : ∀ c, z ∈ resF f t c → (0 ≤ c → parI c t.length = x) → (0 ≤ z ∧ z < t.length ∧ (nodeAt t z.toNat).kind ≠ 0 ∧ x ∈ ups z t.length) ∨ ∃ (y i : Int), 0 ≤ y ∧ y < t.length ∧ i ∈ (nodeAt t y.toNat).inner.unmerged ∧ z = 2 * i := by
          intro c hc hp
          rcases ih c z hc with ⟨a, b, d, e⟩ | r
          · refine .inl ⟨a, b, d, ?_⟩
            have h0 := (ups_is e).2.1
            have := ups_par z e (by rw [hp h0]; omega)
            rwa [hp h0] at this
          · exact .inr r
        rcases List.mem_append.1 h with h | h
        · exact up _ h fun h0 => ((kin hN).2.1 h0).1
        · exact up _ h fun h0 => ((kin hN).2.2.1 h0).1
/-- Each leaf that is not blank, below a node, is below one that is told. -/
theorem resF_cover {t : List Node} (hw : Whole t.length) {y : Int} (hy : IsN y t.length) (hk : (nodeAt t y.toNat).kind ≠ 0) : ∀ (f : Nat) (x : Int), need t x ≤ f → x ∈ ups y t.length → ∃ z ∈ resF f t x, z ∈ ups y t.length := by
  intro f
  induction f with
  | zero =>
    intro x h hx
    have hN := ups_is hx
    rw [need_in hN.2] at h; omega
  | succ f ih =>
    intro x h hx
    have hN := ups_is hx
    unfold resF
    rw [if_neg (by have := hN.2; omega)]
    by_cases hb : (nodeAt t x.toNat).kind ≠ 0
    · rw [if_pos hb]
      exact ⟨x, by simp, hx⟩
    · rw [if_neg hb]
      have hne : x ≠ y := fun e => hb (by rw [e]; exact hk)
      obtain ⟨z, hz, hp⟩ := ups_pred y hx hne
      have hzN := ups_is hz
      obtain ⟨n1, n2⟩ := need_kids hw hN.2 h
      have hpz : 0 ≤ parI z t.length := by rw [hp]; exact hN.2.1
      rcases ((kin hzN).1 hpz).1 with e | e
      · rw [hp] at e
        obtain ⟨u, hu, hu2⟩ := ih _ n1 (by rw [e]; exact hz)
        exact ⟨u, List.mem_append_left _ hu, hu2⟩
      · rw [hp] at e
        obtain ⟨u, hu, hu2⟩ := ih _ n2 (by rw [e]; exact hz)
        exact ⟨u, List.mem_append_right _ hu, hu2⟩
/-- Nobody is told twice, where nobody is unmerged. -/
theorem resF_apart {t : List Node} (hw : Whole t.length) (hu : ∀ y, 0 ≤ y → y < (t.length : Int) → (nodeAt t y.toNat).inner.unmerged = []) : ∀ (f : Nat) (x : Int), (resF f t x).Pairwise fun a b => ¬ a ∈ ups b t.length ∧ ¬ b ∈ ups a t.length := by
  intro f
  induction f with
  | zero => intro x; exact .nil
  | succ f ih =>
    intro x
    unfold resF
    split
    · exact .nil
    · rename_i hx
      have hN : IsN x t.length := ⟨hw, by omega, by omega⟩
      split
      · rw [hu x (by omega) (by omega)]
        exact List.pairwise_singleton _ _
      · refine List.pairwise_append.2 ⟨ih _, ih _, fun a ha b hb => ?_⟩
        have far : ∀ c, ∀ z ∈ resF f t c, c ∈ ups z t.length := fun c z hz => by
          rcases resF_node hw f c z hz with ⟨_, _, _, h⟩ | ⟨y, i, h1, h2, h3, _⟩
          · exact h
          · rw [hu y h1 h2] at h3; cases h3
        have h1 := far _ a ha
        have h2 := far _ b hb
        have l0 := (ups_is h1).2.1
        have r0 := (ups_is h2).2.1
        refine ⟨fun h => ?_, fun h => ?_⟩
        · exact ups_two hN l0 r0 (ups_sub b h _ h1) h2
        · exact ups_two hN l0 r0 h1 (ups_sub a h _ h2)
/-- Each leaf that is not blank is below just one. -/
theorem resF_once {t : List Node} (hw : Whole t.length) (hu : ∀ y, 0 ≤ y → y < (t.length : Int) → (nodeAt t y.toNat).inner.unmerged = []) {y : Int} (hy : IsN y t.length) (hk : (nodeAt t y.toNat).kind ≠ 0) {f : Nat} {x : Int} (hn : need t x ≤ f) (hx : x ∈ ups y t.length) :
    ((resF f t x).filter fun z => decide (z ∈ ups y t.length)).length = 1 := by
  have hp := (resF_apart hw hu f x).filter fun z => decide (z ∈ ups y t.length)
  obtain ⟨z, hz, hzy⟩ := resF_cover hw hy hk f x hn hx
  have hm : z ∈ (resF f t x).filter fun z => decide (z ∈ ups y t.length) := List.mem_filter.2 ⟨hz, by simpa using hzy⟩
  have ha : ∀ u ∈ (resF f t x).filter fun z => decide (z ∈ ups y t.length), u ∈ ups y t.length := fun u h => by simpa using (List.mem_filter.1 h).2
  generalize (resF f t x).filter (fun z => decide (z ∈ ups y t.length)) = l at *
  match l, hp, hm, ha with
  | [], _, hm, _ => cases hm
  | [_], _, _, _ => rfl
  | a :: b :: r, hp, _, ha =>
    exfalso
    have h1 := (List.pairwise_cons.1 hp).1 b (by simp)
    rcases ups_chain y (ha a (by simp)) (ha b (by simp)) with h | h
    · exact h1.2 h
    · exact h1.1 h
end Go.Proofs.YtlehcigcaihoaaaDoor.Al
