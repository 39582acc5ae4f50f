/-
  PLAIN LAWS: leaves and nodes as octets.
-/
import Derived.Test.YtlehcigcaihoaaaGreatAlM19
set_option linter.unusedSimpArgs false
set_option linter.unusedVariables false
namespace Go.Proofs.YtlehcigcaihoaaaGreat.Al

theorem gnum1_only {b r : List Int} {s : Int} (h : gnum 1 b = (s, r, 0)) : b = s :: r := by
  cases b with
  | nil => simp [gnum] at h
  | cons x t => simp [gnum, num] at h; obtain ⟨rfl, rfl⟩ := h; rfl
theorem gnum1_cons (s : Int) (r : List Int) : gnum 1 (s :: r) = (s, r, 0) := by simp [gnum, num]
theorem beK1_byte {s : Int} (h : 0 ≤ s ∧ s ≤ 255) : beK 1 s = [s] := by
  simp [beK, List.range_succ]; omega
theorem pbytes_app (b v : List Int) : pbytes b v = b ++ pbytes [] v := by
  unfold pbytes
  split
  · simp
  · simp
theorem iput_app (b : List Int) (n : Inner) : iput b n = b ++ iput [] n := by
  unfold iput pnums
  split
  · simp
  · rw [pbytes_app (pbytes (pbytes b n.enc) n.hash), pbytes_app (pbytes b n.enc), pbytes_app b, pbytes_app (pbytes (pbytes [] n.enc) n.hash), pbytes_app (pbytes [] n.enc)]
    simp only [List.append_assoc]
theorem lput_app (b : List Int) (l : Leaf) : lput b l = b ++ lput [] l := by
  unfold lput
  split
  · simp
  · split
    · rw [pbytes_app (pbytes (pbytes b l.enc) l.cred ++ beK 1 l.source), pbytes_app (pbytes b l.enc), pbytes_app b, pbytes_app (pbytes (pbytes [] l.enc) l.cred ++ beK 1 l.source), pbytes_app (pbytes [] l.enc)]
      simp only [List.append_assoc]
    · rw [pbytes_app (pbytes b l.enc), pbytes_app b, pbytes_app (pbytes [] l.enc)]
      simp only [List.append_assoc]
theorem leafCheck_ok {l : Leaf} (h : leafCheck l = 0) : l.enc.length ≠ 0 ∧ l.enc.length ≤ 200 ∧ l.cred.length ≤ 200 ∧ l.parent.length ≤ 200 ∧ 1 ≤ l.source ∧ l.source ≤ 3 ∧ (l.source ≠ 3 → l.parent = []) := by
  unfold leafCheck at h
  by_cases h1 : l.enc.length = 0
  · rw [if_pos h1] at h; cases h
  rw [if_neg h1] at h
  by_cases h2 : l.enc.length > 200 ∨ l.cred.length > 200 ∨ l.parent.length > 200
  · rw [if_pos h2] at h; cases h
  rw [if_neg h2] at h
  by_cases h3 : l.source < 1 ∨ l.source > 3
  · rw [if_pos h3] at h; cases h
  rw [if_neg h3] at h
  by_cases h4 : l.source ≠ 3 ∧ l.parent.length > 0
  · rw [if_pos h4] at h; cases h
  refine ⟨h1, by omega, by omega, by omega, by omega, by omega, fun hs => ?_⟩
  have : ¬ l.parent.length > 0 := fun hp => h4 ⟨hs, hp⟩
  exact List.eq_nil_of_length_eq_zero (by omega)
/-- A leaf's octets. -/
theorem lput_eq {l : Leaf} (h : leafCheck l = 0) : lput [] l = f1 l.enc ++ (f1 l.cred ++ (l.source :: (if l.source = 3 then f1 l.parent else []))) := by
  obtain ⟨a, b, c, d, e, f, g⟩ := leafCheck_ok h
  unfold lput
  rw [if_neg (not_not_intro h), pbytes_eq (b := []) (by omega), pbytes_eq (v := l.cred) (by omega), beK1_byte ⟨by omega, by omega⟩]
  split
  · rw [pbytes_eq (by omega)]; simp only [f1, List.nil_append, List.append_assoc, List.cons_append]
  · simp only [f1, List.nil_append, List.append_assoc, List.cons_append]
theorem srcE_zero {s e : Int} (h : srcE s e = 0) : e = 0 ∧ 1 ≤ s ∧ s ≤ 3 := by
  unfold srcE at h
  by_cases hc : e = 0 ∧ ¬ (s ≥ 1 ∧ s ≤ 3)
  · rw [if_pos hc] at h; cases h
  · rw [if_neg hc] at h
    refine ⟨h, ?_⟩
    by_cases hs : s ≥ 1 ∧ s ≤ 3
    · exact hs
    · exact absurd ⟨h, hs⟩ hc
theorem lget_only {b r : List Int} {l : Leaf} (hb : Bytes b) (h : lget b = (l, r, 0)) : leafCheck l = 0 ∧ lput [] l ++ r = b := by
  rcases h1 : gbytes b with ⟨x, r1, e1⟩
  rcases h2 : gbytes r1 with ⟨y, r2, e2⟩
  rcases h3 : gnum 1 r2 with ⟨s, r3, e3⟩
  rcases h4 : gpar s r3 with ⟨p, r4, e4⟩
  rw [lget_eq h1 h2 h3 h4] at h
  by_cases q1 : e1 = 0
  rotate_left
  · rw [if_pos q1] at h; simp only [Prod.mk.injEq] at h; exact absurd h.2.2 q1
  rw [if_neg (not_not_intro q1)] at h
  by_cases q2 : e2 = 0
  rotate_left
  · rw [if_pos q2] at h; simp only [Prod.mk.injEq] at h; exact absurd h.2.2 q2
  rw [if_neg (not_not_intro q2)] at h
  by_cases q3 : srcE s e3 = 0
  rotate_left
  · rw [if_pos q3] at h; simp only [Prod.mk.injEq] at h; exact absurd h.2.2 q3
  rw [if_neg (not_not_intro q3)] at h
  by_cases q4 : e4 = 0
  rotate_left
  · rw [if_pos q4] at h; simp only [Prod.mk.injEq] at h; exact absurd h.2.2 q4
  rw [if_neg (not_not_intro q4)] at h
  unfold lgetS at h
  by_cases q5 : leafCheck ⟨x, y, s, p⟩ = 0
  rotate_left
  · rw [if_pos q5] at h; simp only [Prod.mk.injEq] at h; exact absurd h.2.2 q5
  rw [if_neg (not_not_intro q5)] at h
  simp only [Prod.mk.injEq, and_true] at h
  obtain ⟨rfl, rfl⟩ := h
  refine ⟨q5, ?_⟩
  subst q1; subst q2; subst q4
  obtain ⟨rfl, hs⟩ := srcE_zero q3
  have b1 := gbytes_rest hb h1
  have b2 := gbytes_rest b1.2 h2
  have o1 := (gbytes_only hb h1).2
  have o2 := (gbytes_only b1.2 h2).2
  have o3 := gnum1_only h3
  have b3 : Bytes r3 := fun z hz => b2.2 z (by rw [o3]; simp [hz])
  rw [lput_eq q5]
  simp only
  unfold gpar at h4
  by_cases h33 : s = 3
  · rw [if_pos h33] at h4 ⊢
    have o4 := (gbytes_only b3 h4).2
    simp only [f1, List.append_assoc, List.cons_append] at *
    rw [o4, ← o3, o2, o1]
  · rw [if_neg h33] at h4 ⊢
    simp only [Prod.mk.injEq] at h4
    obtain ⟨rfl, rfl, _⟩ := h4
    simp only [f1, List.append_assoc, List.cons_append, List.nil_append] at *
    rw [← o3, o2, o1]
theorem gflag_only {b r : List Int} {t : Bool} (hb : Bytes b) (h : gflag b = (t, r, 0)) : b = (if t then 1 else 0) :: r := by
  unfold gflag at h
  rcases hg : gnum 1 b with ⟨v, r1, e⟩
  rw [hg] at h
  simp only at h
  by_cases he : e = 0
  rotate_left
  · rw [if_pos he] at h; simp only [Prod.mk.injEq] at h; exact absurd h.2.2 he
  rw [if_neg (not_not_intro he)] at h
  by_cases hv : v > 1
  · rw [if_pos hv] at h; simp at h
  rw [if_neg hv] at h
  simp only [Prod.mk.injEq, and_true] at h
  obtain ⟨rfl, rfl⟩ := h
  subst he
  have o := gnum1_only hg
  have := hb v (by rw [o]; simp)
  rw [o]
  by_cases h1 : v = 1
  · subst h1; rfl
  · have : v = 0 := by omega
    subst this; rfl
theorem fput_eq (f : Bool) : fput [] f = [if f then 1 else 0] := by cases f <;> rfl
theorem nodeCheck_leaf (l : Leaf) : nodeCheck ⟨1, l, .zero⟩ = leafCheck l := by simp [nodeCheck]
theorem nodeCheck_inner (n : Inner) : nodeCheck ⟨2, .zero, n⟩ = innerCheck n := by simp [nodeCheck]
theorem nput_leaf {l : Leaf} (h : leafCheck l = 0) : nput [] ⟨1, l, .zero⟩ = [1, 1] ++ lput [] l := by
  have k : knownN ⟨1, l, .zero⟩ = ⟨1, l, .zero⟩ := if_neg (by rw [nodeCheck_leaf]; exact not_not_intro h)
  unfold nput
  rw [k, if_neg (by simp), if_pos rfl, lput_app]; rfl
theorem nput_inner {n : Inner} (h : innerCheck n = 0) : nput [] ⟨2, .zero, n⟩ = [1, 2] ++ iput [] n := by
  have k : knownN ⟨2, .zero, n⟩ = ⟨2, .zero, n⟩ := if_neg (by rw [nodeCheck_inner]; exact not_not_intro h)
  unfold nput
  rw [k, if_pos rfl, iput_app]; rfl
theorem nput_zero : nput [] .zero = [0] := by decide +kernel
theorem nget_only {b r : List Int} {n : Node} (hb : Bytes b) (h : nget b = (n, r, 0)) : nodeCheck n = 0 ∧ nput [] n ++ r = b := by
  unfold nget at h
  rcases hf : gflag b with ⟨t, r1, e⟩
  rw [hf] at h
  simp only at h
  by_cases hc : e ≠ 0 ∨ t = false
  · rw [if_pos hc] at h
    simp only [Prod.mk.injEq] at h
    obtain ⟨rfl, rfl, rfl⟩ := h
    rcases hc with hc | rfl
    · exact absurd rfl hc
    · have o := gflag_only hb hf
      exact ⟨by decide, by rw [nput_zero, o]; rfl⟩
  · rw [if_neg hc] at h
    have he : e = 0 := by
      by_cases he : e = 0
      · exact he
      · exact absurd (.inl he) hc
    have ht : t = true := by
      cases t with
      | true => rfl
      | false => exact absurd (.inr rfl) hc
    subst he; subst ht
    have o := gflag_only hb hf
    have b1 : Bytes r1 := fun z hz => hb z (by rw [o]; simp [hz])
    unfold ngetK at h
    rcases hg : gnum 1 r1 with ⟨k, r2, e2⟩
    rw [hg] at h
    simp only at h
    by_cases he2 : e2 = 0
    rotate_left
    · rw [if_pos he2] at h; simp only [Prod.mk.injEq] at h; exact absurd h.2.2 he2
    rw [if_neg (not_not_intro he2)] at h
    subst he2
    have o2 := gnum1_only hg
    have b2 : Bytes r2 := fun z hz => b1 z (by rw [o2]; simp [hz])
    by_cases k1 : k = 1
    · rw [if_pos k1] at h
      rcases hl : lget r2 with ⟨l, r3, e3⟩
      rw [hl] at h
      simp only at h
      by_cases he3 : e3 = 0
      rotate_left
      · rw [if_pos he3] at h; simp only [Prod.mk.injEq] at h; exact absurd h.2.2 he3
      rw [if_neg (not_not_intro he3)] at h
      simp only [Prod.mk.injEq, and_true] at h
      obtain ⟨rfl, rfl⟩ := h
      subst he3
      obtain ⟨c1, c2⟩ := lget_only b2 hl
      exact ⟨by rw [nodeCheck_leaf]; exact c1, by rw [nput_leaf c1, List.append_assoc, c2, o, o2, k1]; rfl⟩
    rw [if_neg k1] at h
    by_cases k2 : k = 2
    · rw [if_pos k2] at h
      rcases hl : iget r2 with ⟨l, r3, e3⟩
      rw [hl] at h
      simp only at h
      by_cases he3 : e3 = 0
      rotate_left
      · rw [if_pos he3] at h; simp only [Prod.mk.injEq] at h; exact absurd h.2.2 he3
      rw [if_neg (not_not_intro he3)] at h
      simp only [Prod.mk.injEq, and_true] at h
      obtain ⟨rfl, rfl⟩ := h
      subst he3
      obtain ⟨c1, c2⟩ := iget_only b2 hl
      exact ⟨by rw [nodeCheck_inner]; exact c1, by rw [nput_inner c1, List.append_assoc, c2, o, o2, k2]; rfl⟩
    · rw [if_neg k2] at h
      simp only [Prod.mk.injEq] at h
      exact absurd h.2.2 (by decide)

theorem lget_ok {b : List Int} (hb : Oct b) : (lget b).1.Ok := by
  have ho := gbytes_oct hb
  rcases h1 : gbytes b with ⟨x, r1, e1⟩
  rw [h1] at ho
  have ho2 := gbytes_oct ho.2
  simp only at ho
  rcases h2 : gbytes r1 with ⟨y, r2, e2⟩
  rw [h2] at ho2
  simp only at ho2
  have ho3 := gnum_oct (k := 1) ho2.2
  rcases h3 : gnum 1 r2 with ⟨s, r3, e3⟩
  have hs64 : In64 s := by
    have : s = (gnum 1 r2).1 := by rw [h3]
    rw [this]
    have e1 : IntKind.i64.min = -9223372036854775808 := rfl
    have e2 : IntKind.i64.max = 9223372036854775807 := rfl
    unfold gnum
    split
    · exact In64.zero
    · have := num_bd3 (l := r2.take 1) (bytes_take (bytes_of ho2.2) 1) (by rw [List.length_take]; omega)
      simp only [In64]; omega
  rw [h3] at ho3
  simp only at ho3
  rcases h4 : gpar s r3 with ⟨p, r4, e4⟩
  have ho4 : Oct p := by
    have : p = (gpar s r3).1 := by rw [h4]
    rw [this]
    unfold gpar
    split
    · exact (gbytes_oct ho3).1
    · exact .nil
  rw [lget_eq h1 h2 h3 h4]
  split
  · exact .zero
  · split
    · exact .zero
    · split
      · exact .zero
      · split
        · exact .zero
        · unfold lgetS
          split
          · exact .zero
          · exact ⟨ho.1, ho2.1, ho4, hs64⟩
theorem nget_ok {b : List Int} (hb : Oct b) : (nget b).1.Ok := by
  unfold nget
  split
  · exact .zero
  · have ho := gnum_oct (k := 1) (gflag_oct hb)
    unfold ngetK
    split
    · exact .zero
    · split
      · split
        · exact .zero
        · exact ⟨lget_ok ho, .zero, by simp only [In64]; decide⟩
      · split
        · split
          · exact .zero
          · exact ⟨.zero, iget_ok ho, by simp only [In64]; decide⟩
        · exact .zero
theorem nget_bad {b r : List Int} {n : Node} {e : Int} (h : nget b = (n, r, e)) (he : ¬ e = 0) : n = .zero ∧ r = [] := by
  unfold nget at h
  by_cases hc : (gflag b).2.2 ≠ 0 ∨ (gflag b).1 = false
  · rw [if_pos hc] at h
    simp only [Prod.mk.injEq] at h
    obtain ⟨rfl, rfl, rfl⟩ := h
    refine ⟨rfl, ?_⟩
    unfold gflag at he ⊢
    split
    · rfl
    · split
      · rfl
      · rename_i h1 h2
        rw [if_neg h1, if_neg h2] at he
        exact absurd rfl he
  · rw [if_neg hc] at h
    unfold ngetK at h
    split at h
    · simp only [Prod.mk.injEq] at h; exact ⟨h.1.symm, h.2.1.symm⟩
    · split at h
      · split at h
        · simp only [Prod.mk.injEq] at h; exact ⟨h.1.symm, h.2.1.symm⟩
        · simp only [Prod.mk.injEq] at h; exact absurd h.2.2.symm he
      · split at h
        · split at h
          · simp only [Prod.mk.injEq] at h; exact ⟨h.1.symm, h.2.1.symm⟩
          · simp only [Prod.mk.injEq] at h; exact absurd h.2.2.symm he
        · simp only [Prod.mk.injEq] at h; exact ⟨h.1.symm, h.2.1.symm⟩
end Go.Proofs.YtlehcigcaihoaaaGreat.Al
