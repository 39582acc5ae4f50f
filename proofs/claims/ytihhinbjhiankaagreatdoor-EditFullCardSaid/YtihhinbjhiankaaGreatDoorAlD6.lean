/-
  MORE STEPS: a row whose elements are frozen rows; calls in statements of open order.
-/
import Derived.Test.YtihhinbjhiankaaGreatDoorAlD
set_option linter.unusedSimpArgs false
set_option linter.unusedVariables false
namespace Go.Proofs.YtihhinbjhiankaaGreatDoor.Al
open Go
variable {S : Seat} {m m0 : List ME} {I I0 X X0 : Nat → Prop} {w w0 : World} {H : List Entry}

theorem DR.lightC {Hs : Nat → List Entry} {K : Nat} {d : Option Nat} {f : Opd} {xs : List Opd} {g : Option (Nat × Bool)} {aft : List Nat} {l : List IOper} {labs : List Lab} {env E : Env} {k : Nat} {b : Lab} {v : AV} (hg : gdec env g = some true) (hd : ∀ j, j ≤ K → CallF S (f.ev env) (xs.map (Opd.ev env)) (Hs j) v) (h : DR S Hs K l labs (updo env d v) k E) :
    DR S Hs K (⟨d, .call f xs, g, aft⟩ :: l) (b :: labs) env k E :=
  let ⟨_, h⟩ := h; ⟨_, .light (o := ⟨d, .call f xs, g, aft⟩) hg (fun j hj => by
    obtain ⟨c, first, captured, h1, h2, h3⟩ := hd j hj
    exact .call h1 h2 h3) h⟩

/-- The elements of an owned row, frozen rows among them told by what they hold. -/
theorem Sim.derefRow (hs : Sim S m I X w H) {id sz ver : Nat} {xs : List AV} (k : Nat) (hH : H[id]? = some (.arr sz ver xs)) : Sim S m I X w (H.set id (.arr sz ver (xs.map (derefN H k)))) := by
  have hid := lt_of_get hH
  have live : ∀ {j : Nat} {e : Entry}, (H.set id (.arr sz ver (xs.map (derefN H k))))[j]? = some e → e.live = true → ∃ e', H[j]? = some e' ∧ e'.live = true := by
    intro j e hj hl
    by_cases h : j = id
    · subst h; exact ⟨_, hH, rfl⟩
    · rw [List.getElem?_set_ne (Ne.symm h)] at hj; exact ⟨e, hj, hl⟩
  refine ⟨by simp [hs.len], fun j e hj => ?_, fun j e g hj hl hg hn => ?_, fun j j' e e' g g' hj hl hj' hl' hg hg' hn hn' hb => ?_, hs.lt, hs.disj, hs.gl⟩
  · by_cases h : j = id
    · subst h
      rw [List.getElem?_set_self hid] at hj; cases hj
      obtain ⟨e, h1, r1, r0, r2, r3, r4, r5⟩ := hs.hok j _ hH
      refine ⟨e, h1, r1, r0, by rw [List.length_map]; omega, r3, fun x hx => ?_, ?_⟩
      · obtain ⟨x0, hx0, rfl⟩ := List.mem_map.1 hx
        rw [(derefN_cells H k x0).1]; exact r4 x0 hx0
      · rcases r5 with r5 | ⟨r5, arr, T, ha, hsz, hc⟩
        · exact .inl r5
        · refine .inr ⟨r5, arr, T, ha, hsz, fun i x hx j' y hy => ?_⟩
          rw [List.getElem?_map] at hx
          cases hx0 : xs[i]? with
          | none => rw [hx0] at hx; cases hx
          | some x0 =>
            rw [hx0] at hx; cases hx
            obtain ⟨y0, k', hy0, _, rfl⟩ := (derefN_cells H k x0).2 j' y hy
            exact derefN_sound hs k' (hc i x0 hx0 j' y0 hy0)
    · rw [List.getElem?_set_ne (Ne.symm h)] at hj
      exact hs.hok j e hj
  · obtain ⟨e', h1, h2⟩ := live hj hl
    exact hs.sep j e' g h1 h2 hg hn
  · obtain ⟨e1, h1, h2⟩ := live hj hl
    obtain ⟨e2, h3, h4⟩ := live hj' hl'
    exact hs.inj j j' e1 e2 g g' h1 h2 h3 h4 hg hg' hn hn' hb

theorem WP.derefRow {r : Option Nat} {N b : Nat} {ic : IC} {Q : Exit → St → Prop} {env : Env} (id k : Nat) {sz ver : Nat} {xs : List AV} (hH : H[id]? = some (.arr sz ver xs))
    (h : WP S r N b ic Q ⟨env, H.set id (.arr sz ver (xs.map (derefN H k)))⟩) : WP S r N b ic Q ⟨env, H⟩ := by
  refine WP.ghost ?_ h
  intro m I X w n0 a hs hfr
  exact ⟨m, I, .refl m, fun _ hb => hb, hs.derefRow k hH, hfr⟩

theorem Enc.load1_own {α : Type} (E : Enc α) {id sz ver k : Nat} {l : List α} (h : H[id]? = some (.arr sz ver (l.map E.f))) (hk : k < l.length) (hc : ∀ a, (E.f a).cells = [E.f a]) : evLoad H false 1 (.eptr id ver k 0) = some (E.f l[k]) := by
  simp [evLoad, window, h, hk, hc]
theorem Enc.loadA_own {α : Type} (E : Enc α) {id sz ver k n : Nat} {l : List α} (h : H[id]? = some (.arr sz ver (l.map E.f))) (hk : k < l.length) {F : α → List AV} (hc : ∀ a, E.f a = .agg (F a)) (hn : ∀ a, (F a).length = n) : evLoad H true n (.eptr id ver k 0) = some (E.f l[k]) := by
  simp [evLoad, window, h, hk, hc, AV.cells, hn, List.take_of_length_le]

/-- What comes behind a statement is hidden; the statement itself is not calculated. -/
theorem WP.seqV {r : Option Nat} {N b : Nat} {x y : IC} {Q : Exit → St → Prop} {st : St} (h : ∀ K : St → Prop, (∀ st', WP S r N b y Q st' → K st') → WP S r N b x (thenQ K Q) st) : WP S r N b (.seq x y) Q st :=
  WP.seqK (WP S r N b y Q) (h _ fun _ h => h) fun _ h => h

/-- What is known of a thing is told in other words. -/
theorem Sim.retell (hs : Sim S m I X w H) {id : Nat} {e0 e1 : Entry} (hH : H[id]? = some e0) (hl : e1.live = e0.live) (hok : HOk S m I w id e1) : Sim S m I X w (H.set id e1) := by
  have hid := lt_of_get hH
  have live : ∀ {j : Nat} {e : Entry}, (H.set id e1)[j]? = some e → e.live = true → ∃ e', H[j]? = some e' ∧ e'.live = true := by
    intro j e hj hv
    by_cases h : j = id
    · subst h
      rw [List.getElem?_set_self hid] at hj; cases hj
      exact ⟨_, hH, by rw [← hl]; exact hv⟩
    · rw [List.getElem?_set_ne (Ne.symm h)] at hj; exact ⟨e, hj, hv⟩
  refine ⟨by simp [hs.len], fun j e hj => ?_, fun j e g hj hl hg hn => ?_, fun j j' e e' g g' hj hl hj' hl' hg hg' hn hn' hb => ?_, hs.lt, hs.disj, hs.gl⟩
  · by_cases h : j = id
    · subst h
      rw [List.getElem?_set_self hid] at hj; cases hj
      exact hok
    · rw [List.getElem?_set_ne (Ne.symm h)] at hj
      exact hs.hok j e hj
  · obtain ⟨e', h1, h2⟩ := live hj hl
    exact hs.sep j e' g h1 h2 hg hn
  · obtain ⟨e1, h1, h2⟩ := live hj hl
    obtain ⟨e2, h3, h4⟩ := live hj' hl'
    exact hs.inj j j' e1 e2 g g' h1 h2 h3 h4 hg hg' hn hn' hb
/-- A nil slice in a box may be told as an owned row. -/
theorem WP.adoptB {r : Option Nat} {N b : Nat} {ic : IC} {Q : Exit → St → Prop} {env : Env} (id k sz : Nat) {cs : List AV} (hH : H[id]? = some (.box cs)) (hk : cs[k]? = some (.list true []))
    (h : WP S r N b ic Q ⟨env, H.set id (.box (cs.set k (.own H.length 0 0 0))) ++ [.arr sz 0 []]⟩) : WP S r N b ic Q ⟨env, H⟩ := by
  refine WP.ghost ?_ h
  intro m I X w n0 a hs hfr
  have hid := lt_of_get hH
  have hle := MLe.push m ⟨0, 0, sz, 0, true⟩
  have hget : (m ++ [(⟨0, 0, sz, 0, true⟩ : ME)])[H.length]? = some ⟨0, 0, sz, 0, true⟩ := by
    rw [← hs.len, List.getElem?_append_right (Nat.le_refl _), Nat.sub_self]; rfl
  have hp : Sim S (m ++ [⟨0, 0, sz, 0, true⟩]) I X w (H ++ [.arr sz 0 []]) := hs.push (fun _ _ => rfl) (Nat.le_refl _) (by simp) ⟨_, hget, rfl, rfl, by simp, by simp, by simp, .inl ⟨rfl, rfl⟩⟩
  have hH2 : (H ++ [Entry.arr sz 0 []])[id]? = some (.box cs) := by rw [List.getElem?_append_left hid]; exact hH
  refine ⟨m ++ [⟨0, 0, sz, 0, true⟩], I, hle, fun _ hb => hb, ?_, hfr.mono hle (fun _ hb => hb) (.refl I X w)⟩
  have := hp.retell (e1 := .box (cs.set k (.own H.length 0 0 0))) hH2 rfl ?_
  · rwa [List.set_append_left _ _ hid] at this
  · obtain ⟨e, arr, T, h1, h2, h3, h4, h5⟩ := hp.hok id _ hH2
    refine ⟨e, arr, T, h1, h2, h3, h4, by rw [List.length_set]; exact h5.1, fun i x hx => ?_⟩
    by_cases hi : i = k
    · subst hi
      rw [List.getElem?_set_self (lt_of_get hk)] at hx; cases hx
      have this := h5.2 i _ hk
      generalize arr.getD i undef = v at this
      cases this with
      | empty _ a c ht hc =>
        have := ht rfl
        subst this
        exact .own _ _ _ _ _ _ hget (Nat.le_refl _) (fun _ => ⟨Nat.le_refl _, by simp, .inl ⟨rfl, rfl, a, rfl⟩⟩)
      | list _ _ b off n c sz rd hn hnc hcm ht hI hsz hc hr =>
        simp at hn; subst hn
        have := ht rfl
        subst this
        exact .own _ _ _ _ _ _ hget (Nat.le_refl _) (fun _ => ⟨Nat.le_refl _, by simp, .inl ⟨rfl, rfl, _, rfl⟩⟩)
    · rw [List.getElem?_set_ne (Ne.symm hi)] at hx
      exact h5.2 i x hx

/-- What a box holds, frozen rows told by what they hold. -/
theorem WP.derefB {r : Option Nat} {N b : Nat} {ic : IC} {Q : Exit → St → Prop} {env : Env} (id k : Nat) {cs : List AV} (hH : H[id]? = some (.box cs))
    (h : WP S r N b ic Q ⟨env, H.set id (.box (cs.map (derefN H k)))⟩) : WP S r N b ic Q ⟨env, H⟩ := by
  refine WP.ghost ?_ h
  intro m I X w n0 a hs hfr
  refine ⟨m, I, .refl m, fun _ hb => hb, hs.retell (e1 := .box (cs.map (derefN H k))) hH rfl ?_, hfr⟩
  obtain ⟨e, arr, T, h1, h2, h3, h4, h5⟩ := hs.hok id _ hH
  refine ⟨e, arr, T, h1, h2, h3, h4, by rw [List.length_map]; exact h5.1, fun i x hx => ?_⟩
  rw [List.getElem?_map] at hx
  cases hc : cs[i]? with
  | none => rw [hc] at hx; cases hx
  | some y => rw [hc] at hx; cases hx; exact derefN_sound hs k (h5.2 i y hc)

end Go.Proofs.YtihhinbjhiankaaGreatDoor.Al
