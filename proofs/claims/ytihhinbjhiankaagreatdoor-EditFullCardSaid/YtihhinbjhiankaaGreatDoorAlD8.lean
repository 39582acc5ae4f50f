/-
  STATEMENTS OF OPEN ORDER IN WHICH SOMETHING IS MADE OR WRITTEN: gone through in the order of the text; labels say how each operation stands to what changes memory.
-/
import Derived.Test.YtihhinbjhiankaaGreatDoorAlD6
set_option linter.unusedSimpArgs false
set_option linter.unusedVariables false
namespace Go.Proofs.YtihhinbjhiankaaGreatDoor.Al
open Go
variable {S : Seat} {T : List (Reg S)} {H : List Entry}

def IOp.free : IOp → Bool
  | .mv _ | .pick _ _ _ | .bin _ _ _ _ | .un _ _ | .convI _ _ | .mkfunc _ _ _ | .extract _ _ | .min _ | .max _ | .lenS _ | .lenA _ | .field _ _ _ _ | .idxA _ _ _ _ _ | .mkiface _ _ | .tassert _ _ => true
  | _ => false
theorem free_ev {op : IOp} (h : op.free = true) {env : Env} {v : AV} {H' : List Entry} (he : evalOp op env H = some (v, H')) : ∀ G, evalOp op env G = some (v, G) := by
  cases op <;> first
    | (cases h; done)
    | skip
  all_goals intro G; simp only [evalOp] at he ⊢
  all_goals repeat' split at he
  all_goals (try simp only [Option.map_eq_some_iff, Prod.mk.injEq] at he ⊢)
  all_goals grind


/-- A reading that must stay as it is up to a state. -/
structure Pend where
  hi : Nat
  op : IOp
  env : Env
  v : AV
def pendOk (k : Nat) (G : List Entry) : List Pend → Prop
  | [] => True
  | r :: rs => (k ≤ r.hi → evalOp r.op r.env G = some (r.v, G)) ∧ pendOk k G rs
def pastOk (lo i : Nat) (op : IOp) (env : Env) (v : AV) : List (List Entry) → Prop
  | [] => True
  | G :: Gs => (lo ≤ i → evalOp op env G = some (v, G)) ∧ pastOk lo (i + 1) op env v Gs

def fnD (S : Seat) (a : Option Said) (f : AV) (xs : List AV) (K : AV → Prop) : Prop := match a with
  | some (.fn v) => K v
  | some (.own _ ys) => K (.list false ys)
  | none => ∃ v, (∀ G, CallF S f xs G v) ∧ K v
def callL (S : Seat) (T : List (Reg S)) (f : AV) (xs : List AV) (K : AV → Prop) : Prop := match f with
  | .func (.f c) first cap => fnD S (tab T c (first ++ xs ++ cap)) (.func (.f c) first cap) xs K
  | f => ∃ v, (∀ G, CallF S f xs G v) ∧ K v
def callH (S : Seat) (T : List (Reg S)) (f : AV) (xs : List AV) (H : List Entry) (K : AV → List Entry → Prop) : Prop := match f with
  | .func (.f c) first cap => (match tab T c (first ++ xs ++ cap) with
    | some (.own sz ys) => K (.own H.length 0 0 ys.length) (H ++ [.arr sz 0 ys])
    | _ => False)
  | _ => False
/-- An operation that leaves memory as it is, whichever it is. -/
def lightD (op : IOp) (env : Env) (r : Option (AV × List Entry)) (H : List Entry) (K : AV → Prop) : Prop := match r with
  | some (v, H') => H' = H ∧ (op.free = true ∨ ∀ G, evalOp op env G = some (v, G)) ∧ K v
  | none => False
def litE (op : IOp) (env : Env) (r : Option Entry) (K : AV → Prop) : Prop := match r with
  | some (.arr sz _ xs) => (∀ G : List Entry, evalOp op env G = some (.own G.length 0 0 xs.length, G ++ [.arr sz 0 xs])) ∧ (∀ x ∈ xs, ∀ y ∈ x.cells, Idb 0 y) ∧ K (.list false xs)
  | _ => False
def litD (op : IOp) (env : Env) (r : Option (AV × List Entry)) (H : List Entry) (K : AV → Prop) : Prop := match r with
  | some (.own _ _ _ n, H') => litE op env (H'[H.length]?) K
  | _ => False
def readD (lo hi k : Nat) (op : IOp) (env : Env) (r : Option (AV × List Entry)) (H : List Entry) (Ps : List (List Entry)) (K : AV → Pend → Prop) : Prop := match r with
  | some (v, H') => H' = H ∧ lo ≤ k ∧ k ≤ hi ∧ pastOk lo 0 op env v Ps ∧ K v ⟨hi, op, env, v⟩
  | none => False
def heavyD (r : Option (AV × List Entry)) (k : Nat) (rs : List Pend) (K : AV → List Entry → Prop) : Prop := match r with
  | some (v, H') => pendOk (k + 1) H' rs ∧ K v H'
  | none => False
/-- One step: what comes, the heap, whether it is a new one, a reading to be kept. -/
def stepL (S : Seat) (T : List (Reg S)) (op : IOp) (env : Env) (H : List Entry) (K : AV → Prop) : Prop := match op with
  | .call f xs => callL S T (f.ev env) (xs.map (Opd.ev env)) K
  | .invoke _ _ _ => False
  | .bslice esz len z parts => litD (.bslice esz len z parts) env (evalOp (.bslice esz len z parts) env H) H K
  | op => lightD op env (evalOp op env H) H K
def stepH (S : Seat) (T : List (Reg S)) (op : IOp) (env : Env) (H : List Entry) (k : Nat) (rs : List Pend) (K : AV → List Entry → Prop) : Prop := match op with
  | .call f xs => callH S T (f.ev env) (xs.map (Opd.ev env)) H fun v H' => pendOk (k + 1) H' rs ∧ K v H'
  | op => heavyD (evalOp op env H) k rs K
def drawW (S : Seat) (T : List (Reg S)) : List IOper → List Lab → Nat → List (List Entry) → List Pend → (St → Prop) → St → Prop
  | [], _, _, _, _, Q, st => Q st
  | _ :: _, [], _, _, _, _, _ => False
  | ⟨d, op, g, _⟩ :: l, b :: labs, k, Ps, rs, Q, st => match gdec st.env g with
    | some true => (match b with
      | .l => stepL S T op st.env st.H fun v => drawW S T l labs k Ps rs Q ⟨updo st.env d v, st.H⟩
      | .g lo hi => readD lo hi k op st.env (evalOp op st.env st.H) st.H Ps fun v p => drawW S T l labs k Ps (p :: rs) Q ⟨updo st.env d v, st.H⟩
      | .h r => r = k ∧ stepH S T op st.env st.H k rs fun v H' => drawW S T l labs (k + 1) (Ps ++ [st.H]) rs Q ⟨updo st.env d v, H'⟩)
    | some false => drawW S T l labs k Ps rs Q ⟨updo st.env d (.tup []), st.H⟩
    | none => False

theorem stepL_does {op : IOp} {env : Env} {K : AV → Prop} (h : stepL S T op env H K) : ∃ v, K v ∧ ∀ G, Does S op env G v G := by
  have gen : ∀ op : IOp, lightD op env (evalOp op env H) H K → ∃ v, K v ∧ ∀ G, Does S op env G v G := by
    intro op h
    unfold lightD at h
    split at h
    · rename_i v H' he
      obtain ⟨rfl, h1, h2⟩ := h
      refine ⟨v, h2, fun G => .ev ?_⟩
      rcases h1 with h1 | h1
      · exact free_ev h1 he G
      · exact h1 G
    · exact h.elim
  cases op with
  | call f xs =>
    simp only [stepL] at h
    unfold callL at h
    split at h
    · rename_i c first cap hfe
      unfold fnD at h
      split at h
      · rename_i v hv
        obtain ⟨hc, ha⟩ := tab_ok hv
        exact ⟨_, h, fun G => .call hfe hc (ha G)⟩
      · rename_i sz ys hv
        obtain ⟨hc, ha⟩ := tab_ok hv
        exact ⟨_, h, fun G => .call hfe hc (ha.2 G)⟩
      · obtain ⟨v, h1, h2⟩ := h
        exact ⟨v, h2, fun G => by
          obtain ⟨c', f', cp', e, hc, ha⟩ := h1 G
          exact .call (by rw [hfe]; exact e) hc ha⟩
    · obtain ⟨v, h1, h2⟩ := h
      exact ⟨v, h2, fun G => by
        obtain ⟨c', f', cp', e, hc, ha⟩ := h1 G
        exact .call e hc ha⟩
  | invoke f nm xs => exact h.elim
  | bslice esz len z parts =>
    simp only [stepL] at h
    unfold litD at h
    split at h
    · unfold litE at h
      split at h
      · obtain ⟨h1, h2, h3⟩ := h
        exact ⟨_, h3, fun G => .lit (h1 G) fun x hx y hy => (h2 x hx y hy).more (Nat.zero_le _)⟩
      · exact h.elim
    · exact h.elim
  | mv x0 => exact gen (.mv x0) h
  | pick x0 x1 x2 => exact gen (.pick x0 x1 x2) h
  | bin x0 x1 x2 x3 => exact gen (.bin x0 x1 x2 x3) h
  | un x0 x1 => exact gen (.un x0 x1) h
  | convI x0 x1 => exact gen (.convI x0 x1) h
  | mkfunc x0 x1 x2 => exact gen (.mkfunc x0 x1 x2) h
  | extract x0 x1 => exact gen (.extract x0 x1) h
  | min x0 => exact gen (.min x0) h
  | max x0 => exact gen (.max x0) h
  | lenS x0 => exact gen (.lenS x0) h
  | lenA x0 => exact gen (.lenA x0) h
  | field x0 x1 x2 x3 => exact gen (.field x0 x1 x2 x3) h
  | idxA x0 x1 x2 x3 x4 => exact gen (.idxA x0 x1 x2 x3 x4) h
  | mkiface x0 x1 => exact gen (.mkiface x0 x1) h
  | tassert x0 x1 => exact gen (.tassert x0 x1) h
  | alloc x0 => exact gen (.alloc x0) h
  | box x0 => exact gen (.box x0) h
  | store x0 x1 x2 => exact gen (.store x0 x1 x2) h
  | mkslice x0 x1 x2 x3 x4 => exact gen (.mkslice x0 x1 x2 x3 x4) h
  | append x0 x1 x2 x3 => exact gen (.append x0 x1 x2 x3) h
  | appendZ x0 x1 x2 x3 x4 => exact gen (.appendZ x0 x1 x2 x3 x4) h
  | copy x0 x1 x2 => exact gen (.copy x0 x1 x2) h
  | clear x0 x1 x2 => exact gen (.clear x0 x1 x2) h
  | build x0 x1 => exact gen (.build x0 x1) h
  | load x0 x1 x2 => exact gen (.load x0 x1 x2) h
  | nilck x0 => exact gen (.nilck x0) h
  | isnil x0 x1 x2 => exact gen (.isnil x0 x1 x2) h
  | convS x0 => exact gen (.convS x0) h
  | slice x0 x1 x2 x3 x4 => exact gen (.slice x0 x1 x2 x3 x4) h
  | faddr x0 x1 => exact gen (.faddr x0 x1) h
  | iaddr x0 x1 x2 => exact gen (.iaddr x0 x1 x2) h
  | iaddrA x0 x1 x2 x3 => exact gen (.iaddrA x0 x1 x2 x3) h
  | len x0 => exact gen (.len x0) h
theorem stepH_does {op : IOp} {env : Env} {k : Nat} {rs : List Pend} {K : AV → List Entry → Prop} (h : stepH S T op env H k rs K) : ∃ v H', K v H' ∧ pendOk (k + 1) H' rs ∧ Does S op env H v H' := by
  have gen : ∀ op : IOp, heavyD (evalOp op env H) k rs K → ∃ v H', K v H' ∧ pendOk (k + 1) H' rs ∧ Does S op env H v H' := by
    intro op h
    unfold heavyD at h
    split at h
    · rename_i v H' he
      exact ⟨v, H', h.2, h.1, .ev he⟩
    · exact h.elim
  cases op with
  | call f xs =>
    simp only [stepH] at h
    unfold callH at h
    split at h
    · rename_i c first cap hfe
      split at h
      · rename_i sz ys hv
        obtain ⟨hc, ha⟩ := tab_ok hv
        exact ⟨_, _, h.2, h.1, .call hfe hc (ha.1 H)⟩
      · exact h.elim
    · exact h.elim
  | invoke f nm xs => exact gen (.invoke f nm xs) h
  | mv x0 => exact gen (.mv x0) h
  | pick x0 x1 x2 => exact gen (.pick x0 x1 x2) h
  | bin x0 x1 x2 x3 => exact gen (.bin x0 x1 x2 x3) h
  | un x0 x1 => exact gen (.un x0 x1) h
  | convI x0 x1 => exact gen (.convI x0 x1) h
  | mkfunc x0 x1 x2 => exact gen (.mkfunc x0 x1 x2) h
  | extract x0 x1 => exact gen (.extract x0 x1) h
  | min x0 => exact gen (.min x0) h
  | max x0 => exact gen (.max x0) h
  | lenS x0 => exact gen (.lenS x0) h
  | lenA x0 => exact gen (.lenA x0) h
  | field x0 x1 x2 x3 => exact gen (.field x0 x1 x2 x3) h
  | idxA x0 x1 x2 x3 x4 => exact gen (.idxA x0 x1 x2 x3 x4) h
  | mkiface x0 x1 => exact gen (.mkiface x0 x1) h
  | tassert x0 x1 => exact gen (.tassert x0 x1) h
  | alloc x0 => exact gen (.alloc x0) h
  | box x0 => exact gen (.box x0) h
  | bslice x0 x1 x2 x3 => exact gen (.bslice x0 x1 x2 x3) h
  | store x0 x1 x2 => exact gen (.store x0 x1 x2) h
  | mkslice x0 x1 x2 x3 x4 => exact gen (.mkslice x0 x1 x2 x3 x4) h
  | append x0 x1 x2 x3 => exact gen (.append x0 x1 x2 x3) h
  | appendZ x0 x1 x2 x3 x4 => exact gen (.appendZ x0 x1 x2 x3 x4) h
  | copy x0 x1 x2 => exact gen (.copy x0 x1 x2) h
  | clear x0 x1 x2 => exact gen (.clear x0 x1 x2) h
  | build x0 x1 => exact gen (.build x0 x1) h
  | load x0 x1 x2 => exact gen (.load x0 x1 x2) h
  | nilck x0 => exact gen (.nilck x0) h
  | isnil x0 x1 x2 => exact gen (.isnil x0 x1 x2) h
  | convS x0 => exact gen (.convS x0) h
  | slice x0 x1 x2 x3 x4 => exact gen (.slice x0 x1 x2 x3 x4) h
  | faddr x0 x1 => exact gen (.faddr x0 x1) h
  | iaddr x0 x1 x2 => exact gen (.iaddr x0 x1 x2) h
  | iaddrA x0 x1 x2 x3 => exact gen (.iaddrA x0 x1 x2 x3) h
  | len x0 => exact gen (.len x0) h
theorem pastOk_get {lo : Nat} {op : IOp} {env : Env} {v : AV} : ∀ {Ps : List (List Entry)} {i : Nat}, pastOk lo i op env v Ps → ∀ j G, Ps[j]? = some G → lo ≤ i + j → evalOp op env G = some (v, G)
  | [], _, _, j, G, h, _ => by simp at h
  | G0 :: Ps, i, h, 0, G, hj, hl => by simp at hj; subst hj; exact h.1 (by omega)
  | G0 :: Ps, i, h, j + 1, G, hj, hl => pastOk_get (i := i + 1) h.2 j G (by simpa using hj) (by omega)
theorem pendOk_get {k : Nat} {G : List Entry} : ∀ {rs : List Pend}, pendOk k G rs → ∀ r ∈ rs, k ≤ r.hi → evalOp r.op r.env G = some (r.v, G)
  | r0 :: rs, h, r, hr, hk => by
    rcases List.mem_cons.1 hr with rfl | hr
    · exact h.1 hk
    · exact pendOk_get h.2 r hr hk

theorem drawW_run : ∀ {l : List IOper} {labs : List Lab} {k : Nat} {Ps : List (List Entry)} {rs : List Pend} {Q : St → Prop} {env : Env} {H : List Entry}, Ps.length = k → labs.length = l.length → drawW S T l labs k Ps rs Q ⟨env, H⟩ →
    ∃ (hs : List (List Entry)) (E : Env) (HK : List Entry), (H :: hs)[hs.length]? = some HK ∧ Q ⟨E, HK⟩ ∧ (∀ r ∈ rs, ∀ i G, hs[i]? = some G → k + 1 + i ≤ r.hi → evalOp r.op r.env G = some (r.v, G)) ∧
      ∀ Hs : Nat → List Entry, (∀ i G, (Ps ++ H :: hs)[i]? = some G → Hs i = G) → DR S Hs (k + hs.length) l labs env k E
  | [], [], k, Ps, rs, Q, env, H, hP, _, h => ⟨[], env, H, rfl, (by simpa only [drawW] using h), fun r _ i G hi => by simp at hi, fun Hs _ => .nil⟩
  | ⟨d, op, g, aft⟩ :: l, b :: labs, k, Ps, rs, Q, env, H, hP, hL, h => by
    have hL' : labs.length = l.length := by simpa using hL
    simp only [drawW] at h
    split at h
    · rename_i hg
      split at h
      · obtain ⟨v, hK, hd⟩ := stepL_does h
        obtain ⟨hs, E, HK, k1, k2, k3, k4⟩ := drawW_run hP hL' hK
        refine ⟨hs, E, HK, k1, k2, k3, fun Hs hh => ?_⟩
        obtain ⟨tr, ht⟩ := k4 Hs hh
        exact ⟨_, .light hg (fun j _ => hd (Hs j)) ht⟩
      · rename_i lo hi
        unfold readD at h
        split at h
        · rename_i v H' he
          obtain ⟨rfl, h1, h2, h3, hK⟩ := h
          obtain ⟨hs, E, HK, k1, k2, k3, k4⟩ := drawW_run hP hL' hK
          refine ⟨hs, E, HK, k1, k2, fun r hr => k3 r (List.mem_cons_of_mem _ hr), fun Hs hh => ?_⟩
          obtain ⟨tr, ht⟩ := k4 Hs hh
          refine ⟨_, .fixed hg h1 h2 (fun j ja jb jk => .ev ?_) ht⟩
          rcases Nat.lt_trichotomy j k with hj | hj | hj
          · have hg' : Ps[j]? = some Ps[j] := List.getElem?_eq_getElem (by omega)
            rw [hh j Ps[j] (by rw [List.getElem?_append_left (by omega)]; exact hg')]
            exact pastOk_get h3 j _ hg' (by omega)
          · subst hj
            rw [hh j _ (by rw [List.getElem?_append_right (by omega), hP, Nat.sub_self]; rfl)]
            exact he
          · have hl : j - k - 1 < hs.length := by omega
            obtain ⟨i, rfl⟩ : ∃ i, j = k + 1 + i := ⟨j - k - 1, by omega⟩
            have hg' : hs[i]? = some (hs[i]'(by omega)) := List.getElem?_eq_getElem (by omega)
            rw [hh (k + 1 + i) (hs[i]'(by omega)) (by rw [List.getElem?_append_right (by omega), hP, show k + 1 + i - k = i + 1 by omega, List.getElem?_cons_succ]; exact hg')]
            exact k3 ⟨hi, op, env, v⟩ (by simp) i _ hg' (show k + 1 + i ≤ hi by omega)
        · exact h.elim
      · rename_i r
        obtain ⟨rfl, h⟩ := h
        obtain ⟨v, H', hK, hp, hd⟩ := stepH_does h
        obtain ⟨hs, E, HK, k1, k2, k3, k4⟩ := drawW_run (by simp [hP]) hL' hK
        refine ⟨H' :: hs, E, HK, by simpa using k1, k2, fun p hp' i G hi hle => ?_, fun Hs hh => ?_⟩
        · cases i with
          | zero => simp at hi; subst hi; exact pendOk_get hp p hp' (by omega)
          | succ i => exact k3 p hp' i G (by simpa using hi) (by omega)
        · obtain ⟨tr, ht⟩ := k4 Hs fun i G hi => hh i G (by rw [List.append_assoc] at hi; exact hi)
          have h0 : Hs r = H := hh r H (by rw [List.getElem?_append_right (by omega), hP, Nat.sub_self]; rfl)
          have h1 : Hs (r + 1) = H' := hh (r + 1) H' (by rw [List.getElem?_append_right (by omega), hP, show r + 1 - r = 1 by omega]; rfl)
          rw [show r + (H' :: hs).length = r + 1 + hs.length by simp; omega]
          exact ⟨_, .heavy hg (by rw [h0, h1]; exact hd) ht⟩
    · rename_i hg
      obtain ⟨hs, E, HK, k1, k2, k3, k4⟩ := drawW_run hP hL' h
      refine ⟨hs, E, HK, k1, k2, k3, fun Hs hh => ?_⟩
      obtain ⟨tr, ht⟩ := k4 Hs hh
      exact ⟨_, .skip hg ht⟩
    · exact h.elim

theorem WP.drawQ (T : List (Reg S)) (labs : List Lab) {r : Option Nat} {N b : Nat} {Q : Exit → St → Prop} {l : List IOper} {env : Env} (hmx : S.P.follows .mixedOrders = true) (hchk : (drawOk l labs && labs.length == l.length) = true)
    (h : drawW S T l labs 0 [] [] (Q .normal) ⟨env, H⟩) : WP S r N b (.region l true) Q ⟨env, H⟩ := by
  simp only [Bool.and_eq_true, beq_iff_eq] at hchk
  obtain ⟨hs, E, HK, k1, k2, k3, k4⟩ := drawW_run (k := 0) (Ps := []) rfl hchk.2 h
  refine WP.drawE hmx labs hchk.1 (fun i => ((H :: hs)[i]?).getD []) hs.length (E := E) rfl ?_ ?_
  · rw [k1]; exact k2
  · have := k4 (fun i => ((H :: hs)[i]?).getD []) fun i G hi => by rw [List.nil_append] at hi; rw [hi]; rfl
    rwa [Nat.zero_add] at this

/-! ### Rules -/
variable {env : Env} {d : Option Nat} {op : IOp} {l : List IOper} {Q : St → Prop} {labs : List Lab} {k : Nat} {Ps : List (List Entry)} {rs : List Pend}
theorem Q_nil {st : St} : drawW S T [] labs k Ps rs Q st = Q st := by simp only [drawW]
theorem Q_l {a : List Nat} : drawW S T (⟨d, op, none, a⟩ :: l) (.l :: labs) k Ps rs Q ⟨env, H⟩ = stepL S T op env H fun v => drawW S T l labs k Ps rs Q ⟨updo env d v, H⟩ := by simp only [drawW, gdec]
theorem Q_g {a : List Nat} {lo hi : Nat} : drawW S T (⟨d, op, none, a⟩ :: l) (.g lo hi :: labs) k Ps rs Q ⟨env, H⟩ = readD lo hi k op env (evalOp op env H) H Ps fun v p => drawW S T l labs k Ps (p :: rs) Q ⟨updo env d v, H⟩ := by simp only [drawW, gdec]
theorem Q_h {a : List Nat} {r : Nat} : drawW S T (⟨d, op, none, a⟩ :: l) (.h r :: labs) k Ps rs Q ⟨env, H⟩ = (r = k ∧ stepH S T op env H k rs fun v H' => drawW S T l labs (k + 1) (Ps ++ [H]) rs Q ⟨updo env d v, H'⟩) := by simp only [drawW, gdec]
def qgrdW (S : Seat) (T : List (Reg S)) (c : AV) (want : Bool) (d : Option Nat) (op : IOp) (g : Nat) (l : List IOper) (b : Lab) (labs : List Lab) (k : Nat) (Ps : List (List Entry)) (rs : List Pend) (Q : St → Prop) (env : Env) (H : List Entry) : Prop := match c with
  | .bool v => (v = want → drawW S T (⟨d, op, none, []⟩ :: l) (b :: labs) k Ps rs Q ⟨env, H⟩) ∧ (v = !want → drawW S T l labs k Ps rs Q ⟨updo env d (.tup []), H⟩)
  | .tup [] => drawW S T l labs k Ps rs Q ⟨updo env d (.tup []), H⟩
  | _ => False
theorem Q_grd {g : Nat} {want : Bool} {a : List Nat} {b : Lab} : drawW S T (⟨d, op, some (g, want), a⟩ :: l) (b :: labs) k Ps rs Q ⟨env, H⟩ = qgrdW S T (env g) want d op g l b labs k Ps rs Q env H := by
  cases hv : env g
  case bool v =>
    simp only [qgrdW, drawW, gdec, hv]
    by_cases hw : v = want
    · subst hw; simp
    · have hw' : v = !want := by cases v <;> cases want <;> simp_all
      have hwt : (v == want) = false := by simpa using hw
      simp only [hwt]; simp [hw, hw']
  case tup l' =>
    cases l' with
    | nil => simp only [qgrdW, drawW, gdec, hv]
    | cons x xs => simp only [qgrdW, drawW, gdec, hv]
  all_goals simp only [qgrdW, drawW, gdec, hv]
theorem qgrdW_b {v want : Bool} {g : Nat} {b : Lab} : qgrdW S T (.bool v) want d op g l b labs k Ps rs Q env H = ((v = want → drawW S T (⟨d, op, none, []⟩ :: l) (b :: labs) k Ps rs Q ⟨env, H⟩) ∧ (v = !want → drawW S T l labs k Ps rs Q ⟨updo env d (.tup []), H⟩)) := rfl
theorem qgrdW_tup {want : Bool} {g : Nat} {b : Lab} : qgrdW S T (.tup []) want d op g l b labs k Ps rs Q env H = drawW S T l labs k Ps rs Q ⟨updo env d (.tup []), H⟩ := rfl
theorem lightD_some {v : AV} {H' : List Entry} {K : AV → Prop} : lightD op env (some (v, H')) H K = (H' = H ∧ (op.free = true ∨ ∀ G, evalOp op env G = some (v, G)) ∧ K v) := rfl
theorem heavyD_some {v : AV} {H' : List Entry} {K : AV → List Entry → Prop} : heavyD (some (v, H')) k rs K = (pendOk (k + 1) H' rs ∧ K v H') := rfl
theorem readD_some {v : AV} {H' : List Entry} {lo hi : Nat} {K : AV → Pend → Prop} : readD lo hi k op env (some (v, H')) H Ps K = (H' = H ∧ lo ≤ k ∧ k ≤ hi ∧ pastOk lo 0 op env v Ps ∧ K v ⟨hi, op, env, v⟩) := rfl
theorem fnD_some {v f : AV} {xs : List AV} {K : AV → Prop} : fnD S (some (.fn v)) f xs K = K v := rfl
theorem fnD_own {f : AV} {xs ys : List AV} {sz : Nat} {K : AV → Prop} : fnD S (some (.own sz ys)) f xs K = K (.list false ys) := rfl
theorem fnD_none {f : AV} {xs : List AV} {K : AV → Prop} : fnD S none f xs K = ∃ v, (∀ G, CallF S f xs G v) ∧ K v := rfl
theorem callL_f {c : Nat} {first cap xs : List AV} {K : AV → Prop} : callL S T (.func (.f c) first cap) xs K = fnD S (tab T c (first ++ xs ++ cap)) (.func (.f c) first cap) xs K := rfl
def ownH (a : Option Said) (H : List Entry) (K : AV → List Entry → Prop) : Prop := match a with
  | some (.own sz ys) => K (.own H.length 0 0 ys.length) (H ++ [.arr sz 0 ys])
  | _ => False
theorem ownH_some {sz : Nat} {ys : List AV} {K : AV → List Entry → Prop} : ownH (some (.own sz ys)) H K = K (.own H.length 0 0 ys.length) (H ++ [.arr sz 0 ys]) := rfl
theorem callH_f {c : Nat} {first cap xs : List AV} {K : AV → List Entry → Prop} : callH S T (.func (.f c) first cap) xs H K = ownH (tab T c (first ++ xs ++ cap)) H K := by
  simp only [callH, ownH]
theorem litD_some {sz i j n u v : Nat} {xs : List AV} {H' : List Entry} {K : AV → Prop} : litD op env (some (.own i j u n, H')) H K = litE op env (H'[H.length]?) K := rfl
theorem litE_some {sz v : Nat} {xs : List AV} {K : AV → Prop} : litE op env (some (.arr sz v xs)) K = ((∀ G : List Entry, evalOp op env G = some (.own G.length 0 0 xs.length, G ++ [.arr sz 0 xs])) ∧ (∀ x ∈ xs, ∀ y ∈ x.cells, Idb 0 y) ∧ K (.list false xs)) := rfl
theorem Q_call (f : Opd) (xs : List Opd) {K : AV → Prop} : stepL S T (.call f xs) env H K = callL S T (f.ev env) (xs.map (Opd.ev env)) K := rfl
theorem Q_bslice (esz len : Nat) (z : AV) (parts : List (Nat × Opd)) {K : AV → Prop} : stepL S T (.bslice esz len z parts) env H K = litD (.bslice esz len z parts) env (evalOp (.bslice esz len z parts) env H) H K := rfl
theorem H_call (f : Opd) (xs : List Opd) {K : AV → List Entry → Prop} : stepH S T (.call f xs) env H k rs K = callH S T (f.ev env) (xs.map (Opd.ev env)) H fun v H' => pendOk (k + 1) H' rs ∧ K v H' := rfl
theorem pendOk_nil {G : List Entry} : pendOk k G [] = True := rfl
theorem pendOk_cons {G : List Entry} {hi : Nat} {v : AV} : pendOk k G (⟨hi, op, env, v⟩ :: rs) = ((k ≤ hi → evalOp op env G = some (v, G)) ∧ pendOk k G rs) := rfl
theorem pastOk_nil {lo i : Nat} {v : AV} : pastOk lo i op env v [] = True := rfl
theorem pastOk_cons {lo i : Nat} {v : AV} {G : List Entry} : pastOk lo i op env v (G :: Ps) = ((lo ≤ i → evalOp op env G = some (v, G)) ∧ pastOk lo (i + 1) op env v Ps) := rfl
theorem Q_mv (x : Opd) {K : AV → Prop} : stepL S T (.mv x) env H K = lightD (.mv x) env (evalOp (.mv x) env H) H K := rfl
theorem Q_pick (c a b : Opd) {K : AV → Prop} : stepL S T (.pick c a b) env H K = lightD (.pick c a b) env (evalOp (.pick c a b) env H) H K := rfl
theorem Q_bin (isB : Bool) (op : BinOp) (x y : Opd) {K : AV → Prop} : stepL S T (.bin isB op x y) env H K = lightD (.bin isB op x y) env (evalOp (.bin isB op x y) env H) H K := rfl
theorem Q_un (op : UnOp) (x : Opd) {K : AV → Prop} : stepL S T (.un op x) env H K = lightD (.un op x) env (evalOp (.un op x) env H) H K := rfl
theorem Q_convI (k : IntKind) (x : Opd) {K : AV → Prop} : stepL S T (.convI k x) env H K = lightD (.convI k x) env (evalOp (.convI k x) env H) H K := rfl
theorem Q_mkfunc (fn : Nat) (first captured : List Opd) {K : AV → Prop} : stepL S T (.mkfunc fn first captured) env H K = lightD (.mkfunc fn first captured) env (evalOp (.mkfunc fn first captured) env H) H K := rfl
theorem Q_extract (x : Opd) (i : Nat) {K : AV → Prop} : stepL S T (.extract x i) env H K = lightD (.extract x i) env (evalOp (.extract x i) env H) H K := rfl
theorem Q_min (xs : List Opd) {K : AV → Prop} : stepL S T (.min xs) env H K = lightD (.min xs) env (evalOp (.min xs) env H) H K := rfl
theorem Q_max (xs : List Opd) {K : AV → Prop} : stepL S T (.max xs) env H K = lightD (.max xs) env (evalOp (.max xs) env H) H K := rfl
theorem Q_lenS (x : Opd) {K : AV → Prop} : stepL S T (.lenS x) env H K = lightD (.lenS x) env (evalOp (.lenS x) env H) H K := rfl
theorem Q_lenA (n : Nat) {K : AV → Prop} : stepL S T (.lenA n) env H K = lightD (.lenA n) env (evalOp (.lenA n) env H) H K := rfl
theorem Q_field (agg : Bool) (off n : Nat) (x : Opd) {K : AV → Prop} : stepL S T (.field agg off n x) env H K = lightD (.field agg off n x) env (evalOp (.field agg off n x) env H) H K := rfl
theorem Q_idxA (agg : Bool) (len esz : Nat) (x i : Opd) {K : AV → Prop} : stepL S T (.idxA agg len esz x i) env H K = lightD (.idxA agg len esz x i) env (evalOp (.idxA agg len esz x i) env H) H K := rfl
theorem Q_mkiface (t : Nat) (x : Opd) {K : AV → Prop} : stepL S T (.mkiface t x) env H K = lightD (.mkiface t x) env (evalOp (.mkiface t x) env H) H K := rfl
theorem Q_tassert (t : Nat) (x : Opd) {K : AV → Prop} : stepL S T (.tassert t x) env H K = lightD (.tassert t x) env (evalOp (.tassert t x) env H) H K := rfl
theorem Q_alloc (z : List AV) {K : AV → Prop} : stepL S T (.alloc z) env H K = lightD (.alloc z) env (evalOp (.alloc z) env H) H K := rfl
theorem Q_box (x : Opd) {K : AV → Prop} : stepL S T (.box x) env H K = lightD (.box x) env (evalOp (.box x) env H) H K := rfl
theorem Q_store (n : Nat) (x v : Opd) {K : AV → Prop} : stepL S T (.store n x v) env H K = lightD (.store n x v) env (evalOp (.store n x v) env H) H K := rfl
theorem Q_mkslice (esz bytes : Nat) (z : AV) (len cap : Opd) {K : AV → Prop} : stepL S T (.mkslice esz bytes z len cap) env H K = lightD (.mkslice esz bytes z len cap) env (evalOp (.mkslice esz bytes z len cap) env H) H K := rfl
theorem Q_append (esz bytes : Nat) (x y : Opd) {K : AV → Prop} : stepL S T (.append esz bytes x y) env H K = lightD (.append esz bytes x y) env (evalOp (.append esz bytes x y) env H) H K := rfl
theorem Q_appendZ (esz bytes : Nat) (z : AV) (x n : Opd) {K : AV → Prop} : stepL S T (.appendZ esz bytes z x n) env H K = lightD (.appendZ esz bytes z x n) env (evalOp (.appendZ esz bytes z x n) env H) H K := rfl
theorem Q_copy (esz : Nat) (x y : Opd) {K : AV → Prop} : stepL S T (.copy esz x y) env H K = lightD (.copy esz x y) env (evalOp (.copy esz x y) env H) H K := rfl
theorem Q_clear (esz : Nat) (z : AV) (x : Opd) {K : AV → Prop} : stepL S T (.clear esz z x) env H K = lightD (.clear esz z x) env (evalOp (.clear esz z x) env H) H K := rfl
theorem Q_build (z : List AV) (parts : List (Nat × Nat × Opd)) {K : AV → Prop} : stepL S T (.build z parts) env H K = lightD (.build z parts) env (evalOp (.build z parts) env H) H K := rfl
theorem Q_load (agg : Bool) (n : Nat) (x : Opd) {K : AV → Prop} : stepL S T (.load agg n x) env H K = lightD (.load agg n x) env (evalOp (.load agg n x) env H) H K := rfl
theorem Q_nilck (x : Opd) {K : AV → Prop} : stepL S T (.nilck x) env H K = lightD (.nilck x) env (evalOp (.nilck x) env H) H K := rfl
theorem Q_isnil (k : TK) (neg : Bool) (x : Opd) {K : AV → Prop} : stepL S T (.isnil k neg x) env H K = lightD (.isnil k neg x) env (evalOp (.isnil k neg x) env H) H K := rfl
theorem Q_convS (x : Opd) {K : AV → Prop} : stepL S T (.convS x) env H K = lightD (.convS x) env (evalOp (.convS x) env H) H K := rfl
theorem Q_slice (esz : Nat) (x : Opd) (lo hi mx : Option Opd) {K : AV → Prop} : stepL S T (.slice esz x lo hi mx) env H K = lightD (.slice esz x lo hi mx) env (evalOp (.slice esz x lo hi mx) env H) H K := rfl
theorem Q_faddr (off : Nat) (x : Opd) {K : AV → Prop} : stepL S T (.faddr off x) env H K = lightD (.faddr off x) env (evalOp (.faddr off x) env H) H K := rfl
theorem Q_iaddr (esz : Nat) (x i : Opd) {K : AV → Prop} : stepL S T (.iaddr esz x i) env H K = lightD (.iaddr esz x i) env (evalOp (.iaddr esz x i) env H) H K := rfl
theorem Q_iaddrA (len esz : Nat) (x i : Opd) {K : AV → Prop} : stepL S T (.iaddrA len esz x i) env H K = lightD (.iaddrA len esz x i) env (evalOp (.iaddrA len esz x i) env H) H K := rfl
theorem Q_len (x : Opd) {K : AV → Prop} : stepL S T (.len x) env H K = lightD (.len x) env (evalOp (.len x) env H) H K := rfl
theorem H_alloc (z : List AV) {K : AV → List Entry → Prop} : stepH S T (.alloc z) env H k rs K = heavyD (evalOp (.alloc z) env H) k rs K := rfl
theorem H_box (x : Opd) {K : AV → List Entry → Prop} : stepH S T (.box x) env H k rs K = heavyD (evalOp (.box x) env H) k rs K := rfl
theorem H_bslice (esz len : Nat) (z : AV) (parts : List (Nat × Opd)) {K : AV → List Entry → Prop} : stepH S T (.bslice esz len z parts) env H k rs K = heavyD (evalOp (.bslice esz len z parts) env H) k rs K := rfl
theorem H_store (n : Nat) (x v : Opd) {K : AV → List Entry → Prop} : stepH S T (.store n x v) env H k rs K = heavyD (evalOp (.store n x v) env H) k rs K := rfl
theorem H_mkslice (esz bytes : Nat) (z : AV) (len cap : Opd) {K : AV → List Entry → Prop} : stepH S T (.mkslice esz bytes z len cap) env H k rs K = heavyD (evalOp (.mkslice esz bytes z len cap) env H) k rs K := rfl
theorem H_append (esz bytes : Nat) (x y : Opd) {K : AV → List Entry → Prop} : stepH S T (.append esz bytes x y) env H k rs K = heavyD (evalOp (.append esz bytes x y) env H) k rs K := rfl
theorem H_appendZ (esz bytes : Nat) (z : AV) (x n : Opd) {K : AV → List Entry → Prop} : stepH S T (.appendZ esz bytes z x n) env H k rs K = heavyD (evalOp (.appendZ esz bytes z x n) env H) k rs K := rfl
theorem H_copy (esz : Nat) (x y : Opd) {K : AV → List Entry → Prop} : stepH S T (.copy esz x y) env H k rs K = heavyD (evalOp (.copy esz x y) env H) k rs K := rfl
theorem H_clear (esz : Nat) (z : AV) (x : Opd) {K : AV → List Entry → Prop} : stepH S T (.clear esz z x) env H k rs K = heavyD (evalOp (.clear esz z x) env H) k rs K := rfl
theorem free_mv (x : Opd) : IOp.free (.mv x) = true := rfl
theorem free_pick (c a b : Opd) : IOp.free (.pick c a b) = true := rfl
theorem free_bin (isB : Bool) (op : BinOp) (x y : Opd) : IOp.free (.bin isB op x y) = true := rfl
theorem free_un (op : UnOp) (x : Opd) : IOp.free (.un op x) = true := rfl
theorem free_convI (k : IntKind) (x : Opd) : IOp.free (.convI k x) = true := rfl
theorem free_mkfunc (fn : Nat) (first captured : List Opd) : IOp.free (.mkfunc fn first captured) = true := rfl
theorem free_extract (x : Opd) (i : Nat) : IOp.free (.extract x i) = true := rfl
theorem free_min (xs : List Opd) : IOp.free (.min xs) = true := rfl
theorem free_max (xs : List Opd) : IOp.free (.max xs) = true := rfl
theorem free_lenS (x : Opd) : IOp.free (.lenS x) = true := rfl
theorem free_lenA (n : Nat) : IOp.free (.lenA n) = true := rfl
theorem free_field (agg : Bool) (off n : Nat) (x : Opd) : IOp.free (.field agg off n x) = true := rfl
theorem free_idxA (agg : Bool) (len esz : Nat) (x i : Opd) : IOp.free (.idxA agg len esz x i) = true := rfl
theorem free_mkiface (t : Nat) (x : Opd) : IOp.free (.mkiface t x) = true := rfl
theorem free_tassert (t : Nat) (x : Opd) : IOp.free (.tassert t x) = true := rfl
theorem free_build (z : List AV) (parts : List (Nat × Nat × Opd)) : IOp.free (.build z parts) = false := rfl
theorem free_load (agg : Bool) (n : Nat) (x : Opd) : IOp.free (.load agg n x) = false := rfl
theorem free_nilck (x : Opd) : IOp.free (.nilck x) = false := rfl
theorem free_isnil (k : TK) (neg : Bool) (x : Opd) : IOp.free (.isnil k neg x) = false := rfl
theorem free_convS (x : Opd) : IOp.free (.convS x) = false := rfl
theorem free_slice (esz : Nat) (x : Opd) (lo hi mx : Option Opd) : IOp.free (.slice esz x lo hi mx) = false := rfl
theorem free_faddr (off : Nat) (x : Opd) : IOp.free (.faddr off x) = false := rfl
theorem free_iaddr (esz : Nat) (x i : Opd) : IOp.free (.iaddr esz x i) = false := rfl
theorem free_iaddrA (len esz : Nat) (x i : Opd) : IOp.free (.iaddrA len esz x i) = false := rfl
theorem free_len (x : Opd) : IOp.free (.len x) = false := rfl

end Go.Proofs.YtihhinbjhiankaaGreatDoor.Al
