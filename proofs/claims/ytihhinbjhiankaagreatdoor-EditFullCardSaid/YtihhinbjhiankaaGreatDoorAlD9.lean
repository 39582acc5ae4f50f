/-
  SCOPES WITH ONE LABEL TO WHICH THE CODE JUMPS BACK.
-/
import Derived.Test.YtihhinbjhiankaaGreatDoorAlD6
import Derived.ScopeJumps
import Derived.ControlIn
set_option linter.unusedSimpArgs false
set_option linter.unusedVariables false
namespace Go.Proofs.YtihhinbjhiankaaGreatDoor.Al
open Go
variable {S : Seat} {m m0 : List ME} {I I0 X X0 : Nat → Prop} {w w0 : World} {H : List Entry}

def findIC : IC → Nat → Option IC
  | .seq a b, l => (match findIC a l with
    | some r => some (.seq r b)
    | none => findIC b l)
  | .label k, l => if k == l then some .skip else none
  | _, _ => none
theorem findIC_sound {N : Nat} : ∀ {c : Code} {ic : IC} (l : Nat), trCode S N c = some ic → (∀ r, findIC ic l = some r → ∃ rest, findLabel c l = some rest ∧ trCode S N rest = some r) ∧ (findIC ic l = none → findLabel c l = none) := by
  intro c
  induction c with
  | seq a b iha ihb =>
    intro ic l h
    simp only [trCode] at h
    split at h
    · rename_i a' b' ha hb
      cases h
      obtain ⟨i1, i2⟩ := iha l ha
      obtain ⟨j1, j2⟩ := ihb l hb
      simp only [findIC, findLabel]
      cases hf : findIC a' l with
      | some r =>
        obtain ⟨rest, h1, h2⟩ := i1 r hf
        refine ⟨fun r' hr => ?_, fun h => by simp at h⟩
        simp only [Option.some.injEq] at hr; subst hr
        exact ⟨.seq rest b, by rw [h1], by simp only [trCode, h2, hb]⟩
      | none =>
        rw [i2 hf]
        exact ⟨j1, j2⟩
    · cases h
  | label k =>
    intro ic l h
    simp only [trCode] at h; cases h
    simp only [findIC, findLabel]
    by_cases e : (k == l) = true
    · rw [if_pos e, if_pos e]
      exact ⟨fun r hr => by cases hr; exact ⟨.skip, rfl, rfl⟩, fun h => by cases h⟩
    · rw [if_neg e, if_neg e]
      exact ⟨fun r hr => (by cases hr), fun _ => rfl⟩
  | _ =>
    intro ic l h
    simp only [trCode] at h
    refine ⟨fun r hr => ?_, fun _ => rfl⟩
    exfalso
    first
      | (cases h; cases hr; done)
      | (obtain ⟨y, _, rfl⟩ := Option.map_eq_some_iff.1 h; cases hr; done)
      | (repeat' split at h
         all_goals first | (cases h; done) | (cases h; cases hr; done))

def jumpQ (l : Nat) (K : St → Prop) (Q : Exit → St → Prop) : Exit → St → Prop
  | .goto l', st => l' = l ∧ K st
  | e, st => Q e st

theorem WP.scope {N b : Nat} {Q : Exit → St → Prop} {st : St} {x rest : IC} (l : Nat) (hf : findIC x l = some rest) (Inv : Nat → St → Prop) (first : WP S none N b x (jumpQ l (fun st' => ∃ k, Inv k st') Q) st)
    (pass : ∀ n st, Inv n st → WP S none N b rest (jumpQ l (fun st' => ∃ k, k < n ∧ Inv k st') Q) st) : WP S none N b (.scope x) Q st := by
  intro c hc m0 I0 X0 w0 m I X w a hb0 hfr0 hs hfr
  cases c <;> simp only [trCode] at hc <;> (try (cases hc; done)) <;> (try ((repeat' split at hc) <;> cases hc; done)) <;> obtain ⟨y, h1, hy⟩ := Option.map_eq_some_iff.1 hc <;> (try (cases hy; done))
  cases hy
  rename_i c
  obtain ⟨crest, hl1, hl2⟩ := (findIC_sound l h1).1 rest hf
  let At : Act → World → Nat → Prop := fun a w n => ∃ st m I X, Inv n st ∧ From m0 I0 X0 w0 m I X w ∧ Sim S m I X w st.H ∧ Fr S m I X w w0.heap.size N st.env a
  let μ : Act → World → Nat := fun a w => by
    classical exact if h : ∃ n, At a w n then Classical.choose (exists_least h) else 0
  have hμ : ∀ a w, (∃ n, At a w n) → At a w (μ a w) ∧ ∀ k, k < μ a w → ¬ At a w k := by
    intro a w hex
    have e : μ a w = Classical.choose (exists_least hex) := by simp only [μ]; rw [dif_pos hex]
    rw [e]; exact Classical.choose_spec (exists_least hex)
  refine wpIn_wide.2 (wp_scope_jumps l (fun a w => ∃ n, At a w n) μ hl1 (wpIn_wide.1 (wpIn_mono (first c h1 m0 I0 X0 w0 m I X w a hb0 hfr0 hs hfr) ?_)) ?_)
  · rintro e a2 w2 ⟨st2, m2, I2, X2, hq, hc2, hf2, hs2, hfr2⟩
    cases e with
    | goto l' =>
      obtain ⟨rfl, k, hi⟩ := hq
      exact ⟨rfl, k, st2, m2, I2, X2, hi, hf2, hs2, hfr2⟩
    | _ => exact ⟨st2, m2, I2, X2, hq, hc2, hf2, hs2, hfr2⟩
  · intro a1 w1 hex
    obtain ⟨⟨st1, m1, I1, X1, hi1, hf1, hs1, hfr1⟩, hleast⟩ := hμ a1 w1 hex
    refine wpIn_wide.1 (wpIn_mono (pass _ st1 hi1 _ hl2 m0 I0 X0 w0 m1 I1 X1 w1 a1 hb0 hf1 hs1 hfr1) ?_)
    rintro e a2 w2 ⟨st2, m2, I2, X2, hq, hc2, hf2, hs2, hfr2⟩
    cases e with
    | goto l' =>
      obtain ⟨rfl, k, hk, hi⟩ := hq
      have hat : At a2 w2 k := ⟨st2, m2, I2, X2, hi, hf2, hs2, hfr2⟩
      refine ⟨rfl, ⟨k, hat⟩, ?_⟩
      obtain ⟨_, hl⟩ := hμ a2 w2 ⟨k, hat⟩
      have : ¬ k < μ a2 w2 := fun hlt => hl k hlt hat
      omega
    | _ => exact ⟨st2, m2, I2, X2, hq, hc2, hf2, hs2, hfr2⟩

/-- A scope's passes, their states told by slots and a heap. -/
theorem WP.scopeG {N b : Nat} {Q : Exit → St → Prop} {st : St} {x rest : IC} {α : Type} (l : Nat) (hf : findIC x l = some rest) (P : α → Prop) (L : α → List (Nat × AV)) (G : α → List Entry) (μ : α → Nat)
    (hc : ∀ a, P a → b ≤ (G a).length ∧ (∀ p ∈ L a, Idb (G a).length p.2) ∧ ∀ e ∈ G a, EntB (G a).length e)
    (first : WP S none N b x (jumpQ l (fun st' => ∃ a, P a ∧ (∀ p ∈ L a, st'.env p.1 = p.2) ∧ st'.H.take (G a).length = G a) Q) st)
    (pass : ∀ a, P a → WP S none N b rest (jumpQ l (fun st' => ∃ a', P a' ∧ μ a' < μ a ∧ (∀ p ∈ L a', st'.env p.1 = p.2) ∧ st'.H.take (G a').length = G a') Q) ⟨envL (L a), G a⟩) : WP S none N b (.scope x) Q st := by
  refine WP.scope l hf (fun n st => ∃ a, μ a = n ∧ P a ∧ Fits ⟨envL (L a), G a⟩ st) (WP.mono first ?_) ?_
  · intro e st' hq
    cases e with
    | goto l' =>
      obtain ⟨rfl, a, h1, h2, h3⟩ := hq
      obtain ⟨c1, c2, c3⟩ := hc a h1
      exact ⟨rfl, _, a, rfl, h1, Fits.of h2 c2 h3 fun id e he => c3 e (List.mem_of_getElem? he)⟩
    | _ => exact hq
  · rintro n st ⟨a, rfl, hp, hft⟩
    refine WP.fits hft (hc a hp).1 (WP.mono (pass a hp) ?_)
    intro e st' hq
    cases e with
    | goto l' =>
      obtain ⟨rfl, a', h1, h2, h3, h4⟩ := hq
      obtain ⟨c1, c2, c3⟩ := hc a' h1
      exact ⟨rfl, _, h2, a', rfl, h1, Fits.of h3 c2 h4 fun id e he => c3 e (List.mem_of_getElem? he)⟩
    | _ => exact hq
theorem jumpQ_goto {l l' : Nat} {K : St → Prop} {Q : Exit → St → Prop} {st : St} : jumpQ l K Q (.goto l') st = (l' = l ∧ K st) := rfl
theorem jumpQ_ret {l : Nat} {K : St → Prop} {Q : Exit → St → Prop} {st : St} : jumpQ l K Q .ret st = Q .ret st := rfl
theorem jumpQ_normal {l : Nat} {K : St → Prop} {Q : Exit → St → Prop} {st : St} : jumpQ l K Q .normal st = Q .normal st := rfl
theorem jumpQ_exit {l id : Nat} {K : St → Prop} {Q : Exit → St → Prop} {st : St} : jumpQ l K Q (.exit id) st = Q (.exit id) st := rfl

end Go.Proofs.YtihhinbjhiankaaGreatDoor.Al
