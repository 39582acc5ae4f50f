/-
  LOOPS OVER ITERATORS THAT ARE VALUES.
-/
import Derived.Test.YtihhinbjhiankaaGreatDoorAlD6
set_option linter.unusedSimpArgs false
set_option linter.unusedVariables false
namespace Go.Proofs.YtihhinbjhiankaaGreatDoor.Al
open Go
variable {S : Seat}

/-- An iterator yields some rows of values, one by one, to whatever loop. -/
def GivesL (S : Seat) (c : Nat) (cap : List AV) (xs : List (List AV)) : Prop :=
  ∀ (id : Nat) (H0 : List Entry) (J : Nat → List Entry → Prop) (Jx : List Entry → Prop), J 0 H0 →
    (∀ k (hk : k < xs.length) H1, J k H1 → AYield S id xs[k] H1 (fun r H2 => (r = .bool true ∧ J (k + 1) H2) ∨ (r = .bool false ∧ Jx H2))) →
    ACall S c ([.func (.y id) [] []] ++ cap) H0 (fun _ H' => J xs.length H' ∨ Jx H')

theorem GivesL.of {c : Nat} {cap xs : List AV} (h : Gives S c cap xs) : GivesL S c cap (xs.map fun x => [x]) := by
  intro id H0 J Jx h0 hr
  refine (h id H0 J Jx h0 fun k hk H1 hj => ?_).mono fun r H' hh => by simpa using hh
  have := hr k (by simpa using hk) H1 hj
  rwa [List.getElem_map] at this

theorem take_set_lt' {α : Type} (l : List α) (n : Nat) (x : α) : (l.set n x).take n = l.take n := by
  apply List.ext_getElem?
  intro i
  rw [List.getElem?_take, List.getElem?_take]
  split
  · rw [List.getElem?_set_ne (by omega)]
  · rfl

/-- What a round leaves: what the caller made, H2; behind it nothing is turned. -/
def RoundQ (G : Nat → List Entry) (P : Nat → Prop) (n : Nat) (Q : Exit → St → Prop) (env : Env) (k : Nat) (T : List Entry) (e : Exit) (st : St) : Prop :=
  ∃ H2 T2, st.H = H2 ++ T2 ∧ H2.length = n ∧ (∀ i, i < T.length → T2[i]? = T[i]?) ∧ match e with
    | .normal => P (k + 1) ∧ H2 = G (k + 1)
    | e => ∃ j, jumped e = some j ∧ ∀ T3, Q j.leave ⟨env, H2 ++ T3⟩

/-- A loop over an iterator. G k: what the caller made, behind k rounds; what lies behind that is the loop's. The slots are those of the loop's start in each round. -/
theorem WP.rangeL {N b : Nat} {Q : Exit → St → Prop} {H : List Entry} {env : Env} {g : Opd} {ps : List Nat} {assign body : IC} {c : Nat} {cap : List AV} (xs : List (List AV)) (hg : g.ev env = .func (.f c) [] cap) (hcb : Callable S c) (hG : GivesL S c cap xs)
    (hps : ∀ x ∈ xs, x.length = ps.length) (G : Nat → List Entry) (P : Nat → Prop) (hlen : ∀ k, (G k).length = H.length) (hP : P 0) (h0 : G 0 = H)
    (hround : ∀ k (hk : k < xs.length), P k → ∀ (l : Nat) (T : List Entry) (b : Nat), b = H.length + T.length → WP S (some l) N b assign (fun e st => e = .normal ∧ ∃ X, st.H = G k ++ (T ++ X) ∧
      ∀ T', T'.length = T.length → WP S (some l) N b body (RoundQ G P H.length Q env k T') ⟨st.env, G k ++ (T' ++ X)⟩) ⟨setPs env ps xs[k], G k ++ T⟩)
    (hend : P xs.length → ∀ T, Q .normal ⟨env, G xs.length ++ T⟩) : WP S none N b (.rangeFunc g ps assign body) Q ⟨env, H⟩ := by
  refine WP.range (first := []) hg hcb fun L hy => ?_
  have getT : ∀ (A T : List Entry), A.length = H.length → (A ++ T)[H.length]? = T[0]? := fun A T h => by
    rw [List.getElem?_append_right (by omega), h, Nat.sub_self]
  have setT : ∀ (A T : List Entry) (x : Entry), A.length = H.length → (A ++ T).set H.length x = A ++ T.set 0 x := fun A T x h => by
    rw [List.set_append_right _ _ (by omega), h, Nat.sub_self]
  refine (hG H.length _ (fun k H1 => P k ∧ ∃ T, H1 = G k ++ T ∧ T[0]? = some (L .ready)) (fun H1 => ∃ j H2 T, H1 = H2 ++ T ∧ H2.length = H.length ∧ T[0]? = some (L (.done j)) ∧ ∀ T3, Q j.leave ⟨env, H2 ++ T3⟩) ⟨hP, [L .ready], by rw [h0], rfl⟩ ?_).mono ?_
  · rintro k hk H1 ⟨hp, T, rfl, hT⟩
    have hT0 : 0 < T.length := lt_of_get hT
    refine hy _ _ _ ⟨by rw [getT _ _ (hlen k)]; exact hT, hps _ (List.getElem_mem hk), fun l => ?_⟩
    refine WP.mono (hround k hk hp l T _ (by simp [hlen])) ?_
    rintro e st ⟨rfl, X, hH, hbody⟩
    have hTX : (T ++ X)[0]? = T[0]? := List.getElem?_append_left hT0
    have hTS : ∀ x, (T ++ X).set 0 x = T.set 0 x ++ X := fun x => by rw [List.set_append_left _ _ hT0]
    refine ⟨rfl, by rw [hH, getT _ _ (hlen k), hTX]; exact hT, ?_⟩
    rw [hH, setT _ _ _ (hlen k), hTS]
    have hb := hbody (T.set 0 (L .busy)) (by simp)
    refine WP.mono hb ?_
    rintro e' st' ⟨H2, T2, h1, h2, h3, h4⟩
    have hbz : T2[0]? = some (L .busy) := by
      rw [h3 0 (by simpa using hT0), List.getElem?_set_self hT0]
    refine ⟨by rw [h1, getT _ _ h2]; exact hbz, ?_⟩
    have hl2 := lt_of_get hbz
    cases e' with
    | normal =>
      obtain ⟨h5, rfl⟩ := h4
      exact .inl ⟨rfl, h5, T2.set 0 (L .ready), by rw [h1, setT _ _ _ h2], List.getElem?_set_self hl2⟩
    | _ =>
      obtain ⟨j, h5, h6⟩ := h4
      exact ⟨j, h5, .inr ⟨rfl, j, H2, T2.set 0 (L (.done j)), by rw [h1, setT _ _ _ h2], h2, List.getElem?_set_self hl2, h6⟩⟩
  · rintro r H' (⟨hp, T, rfl, hT⟩ | ⟨j, H2, T, rfl, h2, hT, hq⟩)
    · refine .inl ⟨by rw [getT _ _ (hlen _)]; exact hT, ?_⟩
      rw [setT _ _ _ (hlen _)]
      exact hend hp _
    · refine .inr ⟨j, by rw [getT _ _ h2]; exact hT, ?_⟩
      rw [setT _ _ _ h2]
      exact hq _

end Go.Proofs.YtihhinbjhiankaaGreatDoor.Al
