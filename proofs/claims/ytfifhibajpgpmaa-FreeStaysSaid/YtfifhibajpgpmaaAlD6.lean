/-
  MORE STEPS: a row whose elements are frozen rows; calls in statements of open order.
-/
import Derived.Test.YtfifhibajpgpmaaAlD
set_option linter.unusedSimpArgs false
set_option linter.unusedVariables false
namespace Go.Proofs.Ytfifhibajpgpmaa.Al
open Go
variable {S : Seat} {m m0 : List ME} {I I0 X X0 : Nat → Prop} {w w0 : World} {H : List Entry}

theorem DR.lightC {Hs : Nat → List Entry} {K : Nat} {d : Option Nat} {f : Opd} {xs : List Opd} {g : Option (Nat × Bool)} {aft : List Nat} {l : List IOper} {labs : List Lab} {env E : Env} {k : Nat} {b : Lab} {v : AV} (hg : gdec env g = some true) (hd : ∀ j, j ≤ K → CallF S (f.ev env) (xs.map (Opd.ev env)) (Hs j) v) (h : DR S Hs K l labs (updo env d v) k E) :
    DR S Hs K (⟨d, .call f xs, g, aft⟩ :: l) (b :: labs) env k E :=
  let ⟨_, h⟩ := h; ⟨_, .light (o := ⟨d, .call f xs, g, aft⟩) hg (fun j hj => by
    obtain ⟨c, first, captured, h1, h2, h3⟩ := hd j hj
    exact .call h1 h2 h3) h⟩

/-- The elements of an owned row, frozen rows among them told by what they hold. -/
theorem Sim.derefRow (hs : Sim S m I X w H) {id sz ver : Nat} {xs : List AV} (k : Nat) (hH : H[id]? = some (.arr sz ver xs)) : Sim S m I X w (H.set id (.arr sz ver (xs.map (derefN H k)))) := by
  have hid := lt_of_get hH
  have live : ∀ {j : Nat} {e : Entry}, (H.set id (.arr sz ver (xs.map (derefN H k))))[j]? = some e → e.live = true → ∃ e', H[j]? = some e' ∧ e'.live = true := by
    intro j e hj hl
    by_cases h : j = id
    · subst h; exact ⟨_, hH, rfl⟩
    · rw [List.getElem?_set_ne (Ne.symm h)] at hj; exact ⟨e, hj, hl⟩
  refine ⟨by simp [hs.len], fun j e hj => ?_, fun j e g hj hl hg hn => ?_, fun j j' e e' g g' hj hl hj' hl' hg hg' hn hn' hb => ?_, hs.lt, hs.disj⟩
  · by_cases h : j = id
    · subst h
      rw [List.getElem?_set_self hid] at hj; cases hj
      obtain ⟨e, h1, r1, r0, r2, r3, r4, r5⟩ := hs.hok j _ hH
      refine ⟨e, h1, r1, r0, by rw [List.length_map]; omega, r3, fun x hx => ?_, ?_⟩
      · obtain ⟨x0, hx0, rfl⟩ := List.mem_map.1 hx
        rw [(derefN_cells H k x0).1]; exact r4 x0 hx0
      · rcases r5 with r5 | ⟨r5, arr, T, ha, hsz, hc⟩
        · exact .inl r5
        · refine .inr ⟨r5, arr, T, ha, hsz, fun i x hx j' y hy => ?_⟩
          rw [List.getElem?_map] at hx
          cases hx0 : xs[i]? with
          | none => rw [hx0] at hx; cases hx
          | some x0 =>
            rw [hx0] at hx; cases hx
            obtain ⟨y0, k', hy0, _, rfl⟩ := (derefN_cells H k x0).2 j' y hy
            exact derefN_sound hs k' (hc i x0 hx0 j' y0 hy0)
    · rw [List.getElem?_set_ne (Ne.symm h)] at hj
      exact hs.hok j e hj
  · obtain ⟨e', h1, h2⟩ := live hj hl
    exact hs.sep j e' g h1 h2 hg hn
  · obtain ⟨e1, h1, h2⟩ := live hj hl
    obtain ⟨e2, h3, h4⟩ := live hj' hl'
    exact hs.inj j j' e1 e2 g g' h1 h2 h3 h4 hg hg' hn hn' hb

theorem WP.derefRow {r : Option Nat} {N b : Nat} {ic : IC} {Q : Exit → St → Prop} {env : Env} (id k : Nat) {sz ver : Nat} {xs : List AV} (hH : H[id]? = some (.arr sz ver xs))
    (h : WP S r N b ic Q ⟨env, H.set id (.arr sz ver (xs.map (derefN H k)))⟩) : WP S r N b ic Q ⟨env, H⟩ := by
  refine WP.ghost ?_ h
  intro m I X w n0 a hs hfr
  exact ⟨m, I, .refl m, fun _ hb => hb, hs.derefRow k hH, hfr⟩

theorem Enc.load1_own {α : Type} (E : Enc α) {id sz ver k : Nat} {l : List α} (h : H[id]? = some (.arr sz ver (l.map E.f))) (hk : k < l.length) (hc : ∀ a, (E.f a).cells = [E.f a]) : evLoad H false 1 (.eptr id ver k 0) = some (E.f l[k]) := by
  simp [evLoad, window, h, hk, hc]
theorem Enc.loadA_own {α : Type} (E : Enc α) {id sz ver k n : Nat} {l : List α} (h : H[id]? = some (.arr sz ver (l.map E.f))) (hk : k < l.length) {F : α → List AV} (hc : ∀ a, E.f a = .agg (F a)) (hn : ∀ a, (F a).length = n) : evLoad H true n (.eptr id ver k 0) = some (E.f l[k]) := by
  simp [evLoad, window, h, hk, hc, AV.cells, hn, List.take_of_length_le]

/-- What comes behind a statement is hidden; the statement itself is not calculated. -/
theorem WP.seqV {r : Option Nat} {N b : Nat} {x y : IC} {Q : Exit → St → Prop} {st : St} (h : ∀ K : St → Prop, (∀ st', WP S r N b y Q st' → K st') → WP S r N b x (thenQ K Q) st) : WP S r N b (.seq x y) Q st :=
  WP.seqK (WP S r N b y Q) (h _ fun _ h => h) fun _ h => h

end Go.Proofs.Ytfifhibajpgpmaa.Al
