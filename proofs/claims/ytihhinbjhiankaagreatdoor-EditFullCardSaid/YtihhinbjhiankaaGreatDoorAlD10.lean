/-
  ITERATORS THAT WRITE INTO A BOX OF THEIR OWN.
-/
import Derived.Test.YtihhinbjhiankaaGreatDoorAlD7
set_option linter.unusedSimpArgs false
set_option linter.unusedVariables false
namespace Go.Proofs.YtihhinbjhiankaaGreatDoor.Al
open Go
variable {S : Seat}

/-- An iterator yields some rows of values, one by one, to whatever loop; it writes into the box p, which holds 'st' at the start. -/
def GivesO (S : Seat) (c : Nat) (cap : List AV) (p : Nat) (st : Entry) (xs : List (List AV)) : Prop :=
  ∀ (id : Nat) (H0 : List Entry) (J : Nat → List Entry → Prop) (Jx : List Entry → Prop), H0[p]? = some st → J 0 H0 → (∀ k H e, J k H → J k (H.set p e)) →
    (∀ k (hk : k < xs.length) H1, J k H1 → AYield S id xs[k] H1 (fun r H2 => (r = .bool true ∧ H2[p]? = H1[p]? ∧ J (k + 1) H2) ∨ (r = .bool false ∧ Jx H2))) →
    ACall S c ([.func (.y id) [] []] ++ cap) H0 (fun _ H' => J xs.length H' ∨ Jx H')

/-- A loop over such an iterator. G k e: what the caller made, behind k rounds, with e in the iterator's box. -/
theorem WP.rangeO {N b : Nat} {Q : Exit → St → Prop} {H : List Entry} {env : Env} {g : Opd} {ps : List Nat} {assign body : IC} {c : Nat} {cap : List AV} (p : Nat) (st : Entry) (xs : List (List AV)) (hg : g.ev env = .func (.f c) [] cap) (hcb : Callable S c) (hG : GivesO S c cap p st xs)
    (hps : ∀ x ∈ xs, x.length = ps.length) (G : Nat → Entry → List Entry) (P : Nat → Prop) (hp : p < H.length) (hlen : ∀ k e, (G k e).length = H.length) (hGp : ∀ k e, (G k e)[p]? = some e) (hGs : ∀ k e e', (G k e).set p e' = G k e') (hP : P 0) (h0 : G 0 st = H)
    (hround : ∀ k (hk : k < xs.length) (e : Entry), P k → ∀ (l : Nat) (T : List Entry) (b : Nat), b = H.length + T.length → WP S (some l) N b assign (fun x s => x = .normal ∧ ∃ X, s.H = G k e ++ (T ++ X) ∧
      ∀ T', T'.length = T.length → WP S (some l) N b body (RoundQ (fun k => G k e) P H.length Q env k T') ⟨s.env, G k e ++ (T' ++ X)⟩) ⟨setPs env ps xs[k], G k e ++ T⟩)
    (hend : P xs.length → ∀ e T, Q .normal ⟨env, G xs.length e ++ T⟩) : WP S none N b (.rangeFunc g ps assign body) Q ⟨env, H⟩ := by
  refine WP.range (first := []) hg hcb fun L hy => ?_
  have getT : ∀ (A T : List Entry), A.length = H.length → (A ++ T)[H.length]? = T[0]? := fun A T h => by
    rw [List.getElem?_append_right (by omega), h, Nat.sub_self]
  have setT : ∀ (A T : List Entry) (x : Entry), A.length = H.length → (A ++ T).set H.length x = A ++ T.set 0 x := fun A T x h => by
    rw [List.set_append_right _ _ (by omega), h, Nat.sub_self]
  have getp : ∀ k e T, (G k e ++ T)[p]? = some e := fun k e T => by rw [List.getElem?_append_left (by rw [hlen]; exact hp), hGp]
  refine (hG H.length _ (fun k H1 => P k ∧ ∃ e T, H1 = G k e ++ T ∧ T[0]? = some (L .ready)) (fun H1 => ∃ j H2 T, H1 = H2 ++ T ∧ H2.length = H.length ∧ T[0]? = some (L (.done j)) ∧ ∀ T3, Q j.leave ⟨env, H2 ++ T3⟩) ?_ ⟨hP, st, [L .ready], by rw [h0], rfl⟩ ?_ ?_).mono ?_
  · rw [← h0]; exact getp 0 st _
  · rintro k _ e' ⟨a, e, T, rfl, hT⟩
    exact ⟨a, e', T, by rw [List.set_append_left _ _ (by rw [hlen]; exact hp), hGs], hT⟩
  · rintro k hk H1 ⟨hpk, e, T, rfl, hT⟩
    have hT0 : 0 < T.length := lt_of_get hT
    refine hy _ _ _ ⟨by rw [getT _ _ (hlen k e)]; exact hT, hps _ (List.getElem_mem hk), fun l => ?_⟩
    refine WP.mono (hround k hk e hpk l T _ (by simp [hlen])) ?_
    rintro x s ⟨rfl, X, hH, hbody⟩
    have hTX : (T ++ X)[0]? = T[0]? := List.getElem?_append_left hT0
    have hTS : ∀ x, (T ++ X).set 0 x = T.set 0 x ++ X := fun x => by rw [List.set_append_left _ _ hT0]
    refine ⟨rfl, by rw [hH, getT _ _ (hlen k e), hTX]; exact hT, ?_⟩
    rw [hH, setT _ _ _ (hlen k e), hTS]
    have hb := hbody (T.set 0 (L .busy)) (by simp)
    refine WP.mono hb ?_
    rintro e' st' ⟨H2, T2, h1, h2, h3, h4⟩
    have hbz : T2[0]? = some (L .busy) := by
      rw [h3 0 (by simpa using hT0), List.getElem?_set_self hT0]
    refine ⟨by rw [h1, getT _ _ h2]; exact hbz, ?_⟩
    have hl2 := lt_of_get hbz
    cases e' with
    | normal =>
      obtain ⟨h5, rfl⟩ := h4
      exact .inl ⟨rfl, by rw [h1, setT _ _ _ h2, getp, getp], h5, e, T2.set 0 (L .ready), by rw [h1, setT _ _ _ h2], List.getElem?_set_self hl2⟩
    | _ =>
      obtain ⟨j, h5, h6⟩ := h4
      exact ⟨j, h5, .inr ⟨rfl, j, H2, T2.set 0 (L (.done j)), by rw [h1, setT _ _ _ h2], h2, List.getElem?_set_self hl2, h6⟩⟩
  · rintro r H' (⟨hpe, e, T, rfl, hT⟩ | ⟨j, H2, T, rfl, h2, hT, hq⟩)
    · refine .inl ⟨by rw [getT _ _ (hlen _ _)]; exact hT, ?_⟩
      rw [setT _ _ _ (hlen _ _)]
      exact hend hpe _ _
    · refine .inr ⟨j, by rw [getT _ _ h2]; exact hT, ?_⟩
      rw [setT _ _ _ h2]
      exact hq _

end Go.Proofs.YtihhinbjhiankaaGreatDoor.Al
