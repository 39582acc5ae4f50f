/-
  PLAIN LAWS: what is summed up tells all.
-/
import Derived.Test.YtilhcglckgdbcaaAlQ7
set_option linter.unusedSimpArgs false
set_option linter.unusedVariables false
namespace Go.Proofs.Ytilhcglckgdbcaa.Al

def tailL (n : Node) : List Int := if n.kind = 1 then 1 :: lput [] n.leaf else [0]
def tailI (n : Node) : List Int := if n.kind = 2 then 1 :: iput [] n.inner else [0]
theorem be4_inj {x y : Int} (hx : 0 ≤ x ∧ x ≤ 65535) (hy : 0 ≤ y ∧ y ≤ 65535) (h : be4 x = be4 y) : x = y := by
  simp only [be4, List.cons.injEq, and_true] at h
  omega
theorem fput_t (b : List Int) : fput b true = b ++ [1] := rfl
theorem fput_f (b : List Int) : fput b false = b ++ [0] := rfl
theorem beK1_1 : beK 1 1 = [1] := rfl
theorem beK1_2 : beK 1 2 = [2] := rfl
theorem ofLeaf_eq {n : Node} (h : nodeCheck n = 0) (i : Int) : ofLeaf i n = 1 :: (be4 i ++ tailL n) := by
  unfold ofLeaf laidL tailL
  rw [show knownN n = n from if_neg (not_not_intro h), beK_4]
  split
  · rw [lput_app, fput_t, beK1_1]; simp only [List.append_assoc, List.cons_append, List.nil_append]
  · rw [fput_f, beK1_1]; simp only [List.append_assoc, List.cons_append, List.nil_append]
theorem ofInner_eq {n : Node} (h : nodeCheck n = 0) {l r : List Int} (hl : l.length ≤ 1048576) (hr : r.length ≤ 1048576) : ofInner n l r = 2 :: (tailI n ++ (f1 l ++ f1 r)) := by
  unfold ofInner laidI tailI
  rw [show knownN n = n from if_neg (not_not_intro h), pbytes_eq hr, pbytes_eq hl]
  split
  · rw [iput_app, fput_t, beK1_2]; simp only [f1, List.append_assoc, List.cons_append, List.nil_append]
  · rw [fput_f, beK1_2]; simp only [f1, List.append_assoc, List.cons_append, List.nil_append]
theorem leaf_of {n : Node} (h : nodeCheck n = 0) (hk : n.kind = 1) : leafCheck n.leaf = 0 ∧ n = ⟨1, n.leaf, .zero⟩ := by
  have k : knownN n = n := if_neg (not_not_intro h)
  rcases known_cases n with e | ⟨l, hl, e⟩ | ⟨m, hm, e⟩ <;> rw [k] at e <;> rw [e] at hk ⊢
  · exact absurd hk (by decide)
  · exact ⟨hl, rfl⟩
  · exact absurd hk (by simp)
theorem inner_of {n : Node} (h : nodeCheck n = 0) (hk : n.kind = 2) : innerCheck n.inner = 0 ∧ n = ⟨2, .zero, n.inner⟩ := by
  have k : knownN n = n := if_neg (not_not_intro h)
  rcases known_cases n with e | ⟨l, hl, e⟩ | ⟨m, hm, e⟩ <;> rw [k] at e <;> rw [e] at hk ⊢
  · exact absurd hk (by decide)
  · exact absurd hk (by simp)
  · exact ⟨hm, rfl⟩
theorem tailL_eq {n m : Node} (hn : nodeCheck n = 0) (hm : nodeCheck m = 0) : tailL n = tailL m ↔ (n.kind ≠ 1 ∧ m.kind ≠ 1) ∨ n = m := by
  unfold tailL
  by_cases a : n.kind = 1 <;> by_cases b : m.kind = 1
  · rw [if_pos a, if_pos b]
    obtain ⟨c1, e1⟩ := leaf_of hn a
    obtain ⟨c2, e2⟩ := leaf_of hm b
    constructor
    · intro h
      right
      have h' : lput [] n.leaf = lput [] m.leaf := (List.cons.inj h).2
      have g1 := lget_put c1 []
      have g2 := lget_put c2 []
      rw [h', g2] at g1
      have : m.leaf = n.leaf := (Prod.mk.inj g1).1
      rw [e1, e2, this]
    · rintro (h | rfl)
      · exact absurd a h.1
      · rfl
  · rw [if_pos a, if_neg b]
    constructor
    · intro h; have := (List.cons.inj h).1; omega
    · rintro (h | rfl)
      · exact absurd a h.1
      · exact absurd a b
  · rw [if_neg a, if_pos b]
    constructor
    · intro h; have := (List.cons.inj h).1; omega
    · rintro (h | rfl)
      · exact absurd b h.2
      · exact absurd b a
  · rw [if_neg a, if_neg b]
    exact ⟨fun _ => .inl ⟨a, b⟩, fun _ => rfl⟩
theorem sides {b c : List Int} (hb : b.length ≤ 1048576) (hc : c.length ≤ 1048576) (h : f1 b ++ f1 c = f1 c ++ f1 b) : b = c := by
  have g1 := gb_put hb (f1 c)
  have g2 := gb_put hc (f1 b)
  rw [h, g2] at g1
  exact (Prod.mk.inj g1).1.symm
theorem tailI_eq {n m : Node} (hn : nodeCheck n = 0) (hm : nodeCheck m = 0) {b c : List Int} (hb : b.length ≤ 1048576) (hc : c.length ≤ 1048576) :
    tailI n ++ (f1 b ++ f1 c) = tailI m ++ (f1 c ++ f1 b) ↔ b = c ∧ ((n.kind ≠ 2 ∧ m.kind ≠ 2) ∨ n = m) := by
  unfold tailI
  by_cases p : n.kind = 2 <;> by_cases q : m.kind = 2
  · rw [if_pos p, if_pos q]
    obtain ⟨c1, e1⟩ := inner_of hn p
    obtain ⟨c2, e2⟩ := inner_of hm q
    constructor
    · intro h
      have h' : iput [] n.inner ++ (f1 b ++ f1 c) = iput [] m.inner ++ (f1 c ++ f1 b) := (List.cons.inj h).2
      have g1 := iget_put c1 (f1 b ++ f1 c)
      have g2 := iget_put c2 (f1 c ++ f1 b)
      rw [h', g2] at g1
      have g3 := Prod.mk.inj g1
      have g4 := Prod.mk.inj g3.2
      refine ⟨sides hb hc g4.1.symm, .inr ?_⟩
      rw [e1, e2, g3.1]
    · rintro ⟨rfl, h | rfl⟩
      · exact absurd p h.1
      · rfl
  · rw [if_pos p, if_neg q]
    constructor
    · intro h; have := (List.cons.inj h).1; omega
    · rintro ⟨_, h | rfl⟩
      · exact absurd p h.1
      · exact absurd p q
  · rw [if_neg p, if_pos q]
    constructor
    · intro h; have := (List.cons.inj h).1; omega
    · rintro ⟨_, h | rfl⟩
      · exact absurd q h.2
      · exact absurd q p
  · rw [if_neg p, if_neg q]
    constructor
    · intro h
      exact ⟨sides hb hc (List.cons.inj h).2, .inl ⟨p, q⟩⟩
    · rintro ⟨rfl, _⟩; rfl
theorem ofLeaf_inj {n m : Node} (hn : nodeCheck n = 0) (hm : nodeCheck m = 0) {x y : Int} (hx : 0 ≤ x ∧ x ≤ 65535) (hy : 0 ≤ y ∧ y ≤ 65535) :
    ofLeaf x n = ofLeaf y m ↔ x = y ∧ ((n.kind ≠ 1 ∧ m.kind ≠ 1) ∨ n = m) := by
  rw [ofLeaf_eq hn, ofLeaf_eq hm, ← tailL_eq hn hm]
  constructor
  · intro h
    have h1 := (List.cons.inj h).2
    have h2 := List.append_inj h1 rfl
    exact ⟨be4_inj hx hy h2.1, h2.2⟩
  · rintro ⟨rfl, h⟩; rw [h]
theorem ofInner_inj {n m : Node} (hn : nodeCheck n = 0) (hm : nodeCheck m = 0) {b c : List Int} (hb : b.length ≤ 1048576) (hc : c.length ≤ 1048576) :
    ofInner n b c = ofInner m c b ↔ b = c ∧ ((n.kind ≠ 2 ∧ m.kind ≠ 2) ∨ n = m) := by
  rw [ofInner_eq hn hb hc, ofInner_eq hm hc hb, ← tailI_eq hn hm hb hc]
  exact ⟨fun h => (List.cons.inj h).2, fun h => by rw [h]⟩
theorem of_apart {n : Node} (hn : nodeCheck n = 0) (x : Int) {b c : List Int} (hb : b.length ≤ 1048576) (hc : c.length ≤ 1048576) : ofLeaf x n ≠ ofInner n b c := by
  rw [ofLeaf_eq hn, ofInner_eq hn hb hc]
  intro h
  have := (List.cons.inj h).1
  omega
end Go.Proofs.Ytilhcglckgdbcaa.Al
