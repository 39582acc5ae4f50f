/-
  JOINED: D8, R, Seat, E2, E3
-/
import Derived.Test.YtihhinbjhiankaaGreatDoorLawSetBP3
import Derived.Test.YtihhinbjhiankaaGreatDoorLawSetBP2
import Derived.Lib.TrailingZeros
import Derived.Test.YtihhinbjhiankaaGreatDoorRows
import Derived.ProofKit
import Derived.LaidMore
import Derived.OpenShut
import Derived.Stop.Joined
import Derived.MakeChecks
import Derived.Lib.LaidTab
set_option linter.unusedSimpArgs false
set_option linter.unusedVariables false
namespace Go.Proofs.YtihhinbjhiankaaGreatDoor.Al
open Go
variable {S : Seat} {T : List (Reg S)} {H : List Entry}

def IOp.free : IOp → Bool
  | .mv _ | .pick _ _ _ | .bin _ _ _ _ | .un _ _ | .convI _ _ | .mkfunc _ _ _ | .extract _ _ | .min _ | .max _ | .lenS _ | .lenA _ | .field _ _ _ _ | .idxA _ _ _ _ _ | .mkiface _ _ | .tassert _ _ => true
  | _ => false
theorem free_ev {op : IOp} (h : op.free = true) {env : Env} {v : AV} {H' : List Entry} (he : evalOp op env H = some (v, H')) : ∀ G, evalOp op env G = some (v, G) := by
  cases op <;> first
    | (cases h; done)
    | skip
  all_goals intro G; simp only [evalOp] at he ⊢
  all_goals repeat' split at he
  all_goals (try simp only [Option.map_eq_some_iff, Prod.mk.injEq] at he ⊢)
  all_goals grind

/-- A reading that must stay as it is up to a state. -/
structure Pend where
  hi : Nat
  op : IOp
  env : Env
  v : AV
def pendOk (k : Nat) (G : List Entry) : List Pend → Prop
  | [] => True
  | r :: rs => (k ≤ r.hi → evalOp r.op r.env G = some (r.v, G)) ∧ pendOk k G rs
def pastOk (lo i : Nat) (op : IOp) (env : Env) (v : AV) : List (List Entry) → Prop
  | [] => True
  | G :: Gs => (lo ≤ i → evalOp op env G = some (v, G)) ∧ pastOk lo (i + 1) op env v Gs

def fnD (S : Seat) (a : Option Said) (f : AV) (xs : List AV) (K : AV → Prop) : Prop := match a with
  | some (.fn v) => K v
  | some (.own _ ys) => K (.list false ys)
  | none => ∃ v, (∀ G, CallF S f xs G v) ∧ K v
def callL (S : Seat) (T : List (Reg S)) (f : AV) (xs : List AV) (K : AV → Prop) : Prop := match f with
  | .func (.f c) first cap => fnD S (tab T c (first ++ xs ++ cap)) (.func (.f c) first cap) xs K
  | f => ∃ v, (∀ G, CallF S f xs G v) ∧ K v
def callH (S : Seat) (T : List (Reg S)) (f : AV) (xs : List AV) (H : List Entry) (K : AV → List Entry → Prop) : Prop := match f with
  | .func (.f c) first cap => (match tab T c (first ++ xs ++ cap) with
    | some (.own sz ys) => K (.own H.length 0 0 ys.length) (H ++ [.arr sz 0 ys])
    | _ => False)
  | _ => False
/-- An operation that leaves memory as it is, whichever it is. -/
def lightD (op : IOp) (env : Env) (r : Option (AV × List Entry)) (H : List Entry) (K : AV → Prop) : Prop := match r with
  | some (v, H') => H' = H ∧ (op.free = true ∨ ∀ G, evalOp op env G = some (v, G)) ∧ K v
  | none => False
def litE (op : IOp) (env : Env) (r : Option Entry) (K : AV → Prop) : Prop := match r with
  | some (.arr sz _ xs) => (∀ G : List Entry, evalOp op env G = some (.own G.length 0 0 xs.length, G ++ [.arr sz 0 xs])) ∧ (∀ x ∈ xs, ∀ y ∈ x.cells, Idb 0 y) ∧ K (.list false xs)
  | _ => False
def litD (op : IOp) (env : Env) (r : Option (AV × List Entry)) (H : List Entry) (K : AV → Prop) : Prop := match r with
  | some (.own _ _ _ n, H') => litE op env (H'[H.length]?) K
  | _ => False
def readD (lo hi k : Nat) (op : IOp) (env : Env) (r : Option (AV × List Entry)) (H : List Entry) (Ps : List (List Entry)) (K : AV → Pend → Prop) : Prop := match r with
  | some (v, H') => H' = H ∧ lo ≤ k ∧ k ≤ hi ∧ pastOk lo 0 op env v Ps ∧ K v ⟨hi, op, env, v⟩
  | none => False
def heavyD (r : Option (AV × List Entry)) (k : Nat) (rs : List Pend) (K : AV → List Entry → Prop) : Prop := match r with
  | some (v, H') => pendOk (k + 1) H' rs ∧ K v H'
  | none => False
/-- One step: what comes, the heap, whether it is a new one, a reading to be kept. -/
def stepL (S : Seat) (T : List (Reg S)) (op : IOp) (env : Env) (H : List Entry) (K : AV → Prop) : Prop := match op with
  | .call f xs => callL S T (f.ev env) (xs.map (Opd.ev env)) K
  | .invoke _ _ _ => False
  | .bslice esz len z parts => litD (.bslice esz len z parts) env (evalOp (.bslice esz len z parts) env H) H K
  | op => lightD op env (evalOp op env H) H K
def stepH (S : Seat) (T : List (Reg S)) (op : IOp) (env : Env) (H : List Entry) (k : Nat) (rs : List Pend) (K : AV → List Entry → Prop) : Prop := match op with
  | .call f xs => callH S T (f.ev env) (xs.map (Opd.ev env)) H fun v H' => pendOk (k + 1) H' rs ∧ K v H'
  | op => heavyD (evalOp op env H) k rs K
def drawW (S : Seat) (T : List (Reg S)) : List IOper → List Lab → Nat → List (List Entry) → List Pend → (St → Prop) → St → Prop
  | [], _, _, _, _, Q, st => Q st
  | _ :: _, [], _, _, _, _, _ => False
  | ⟨d, op, g, _⟩ :: l, b :: labs, k, Ps, rs, Q, st => match gdec st.env g with
    | some true => (match b with
      | .l => stepL S T op st.env st.H fun v => drawW S T l labs k Ps rs Q ⟨updo st.env d v, st.H⟩
      | .g lo hi => readD lo hi k op st.env (evalOp op st.env st.H) st.H Ps fun v p => drawW S T l labs k Ps (p :: rs) Q ⟨updo st.env d v, st.H⟩
      | .h r => r = k ∧ stepH S T op st.env st.H k rs fun v H' => drawW S T l labs (k + 1) (Ps ++ [st.H]) rs Q ⟨updo st.env d v, H'⟩)
    | some false => drawW S T l labs k Ps rs Q ⟨updo st.env d (.tup []), st.H⟩
    | none => False

theorem stepL_does {op : IOp} {env : Env} {K : AV → Prop} (h : stepL S T op env H K) : ∃ v, K v ∧ ∀ G, Does S op env G v G := by
  have gen : ∀ op : IOp, lightD op env (evalOp op env H) H K → ∃ v, K v ∧ ∀ G, Does S op env G v G := by
    intro op h
    unfold lightD at h
    split at h
    · rename_i v H' he
      obtain ⟨rfl, h1, h2⟩ := h
      refine ⟨v, h2, fun G => .ev ?_⟩
      rcases h1 with h1 | h1
      · exact free_ev h1 he G
      · exact h1 G
    · exact h.elim
  cases op with
  | call f xs =>
    simp only [stepL] at h
    unfold callL at h
    split at h
    · rename_i c first cap hfe
      unfold fnD at h
      split at h
      · rename_i v hv
        obtain ⟨hc, ha⟩ := tab_ok hv
        exact ⟨_, h, fun G => .call hfe hc (ha G)⟩
      · rename_i sz ys hv
        obtain ⟨hc, ha⟩ := tab_ok hv
        exact ⟨_, h, fun G => .call hfe hc (ha.2 G)⟩
      · obtain ⟨v, h1, h2⟩ := h
        exact ⟨v, h2, fun G => by
          obtain ⟨c', f', cp', e, hc, ha⟩ := h1 G
          exact .call (by rw [hfe]; exact e) hc ha⟩
    · obtain ⟨v, h1, h2⟩ := h
      exact ⟨v, h2, fun G => by
        obtain ⟨c', f', cp', e, hc, ha⟩ := h1 G
        exact .call e hc ha⟩
  | invoke f nm xs => exact h.elim
  | bslice esz len z parts =>
    simp only [stepL] at h
    unfold litD at h
    split at h
    · unfold litE at h
      split at h
      · obtain ⟨h1, h2, h3⟩ := h
        exact ⟨_, h3, fun G => .lit (h1 G) fun x hx y hy => (h2 x hx y hy).more (Nat.zero_le _)⟩
      · exact h.elim
    · exact h.elim
  | mv x0 => exact gen (.mv x0) h
  | pick x0 x1 x2 => exact gen (.pick x0 x1 x2) h
  | bin x0 x1 x2 x3 => exact gen (.bin x0 x1 x2 x3) h
  | un x0 x1 => exact gen (.un x0 x1) h
  | convI x0 x1 => exact gen (.convI x0 x1) h
  | mkfunc x0 x1 x2 => exact gen (.mkfunc x0 x1 x2) h
  | extract x0 x1 => exact gen (.extract x0 x1) h
  | min x0 => exact gen (.min x0) h
  | max x0 => exact gen (.max x0) h
  | lenS x0 => exact gen (.lenS x0) h
  | lenA x0 => exact gen (.lenA x0) h
  | field x0 x1 x2 x3 => exact gen (.field x0 x1 x2 x3) h
  | idxA x0 x1 x2 x3 x4 => exact gen (.idxA x0 x1 x2 x3 x4) h
  | mkiface x0 x1 => exact gen (.mkiface x0 x1) h
  | tassert x0 x1 => exact gen (.tassert x0 x1) h
  | alloc x0 => exact gen (.alloc x0) h
  | box x0 => exact gen (.box x0) h
  | store x0 x1 x2 => exact gen (.store x0 x1 x2) h
  | mkslice x0 x1 x2 x3 x4 => exact gen (.mkslice x0 x1 x2 x3 x4) h
  | append x0 x1 x2 x3 => exact gen (.append x0 x1 x2 x3) h
  | appendZ x0 x1 x2 x3 x4 => exact gen (.appendZ x0 x1 x2 x3 x4) h
  | copy x0 x1 x2 => exact gen (.copy x0 x1 x2) h
  | clear x0 x1 x2 => exact gen (.clear x0 x1 x2) h
  | build x0 x1 => exact gen (.build x0 x1) h
  | load x0 x1 x2 => exact gen (.load x0 x1 x2) h
  | nilck x0 => exact gen (.nilck x0) h
  | isnil x0 x1 x2 => exact gen (.isnil x0 x1 x2) h
  | convS x0 => exact gen (.convS x0) h
  | slice x0 x1 x2 x3 x4 => exact gen (.slice x0 x1 x2 x3 x4) h
  | faddr x0 x1 => exact gen (.faddr x0 x1) h
  | iaddr x0 x1 x2 => exact gen (.iaddr x0 x1 x2) h
  | iaddrA x0 x1 x2 x3 => exact gen (.iaddrA x0 x1 x2 x3) h
  | len x0 => exact gen (.len x0) h
theorem stepH_does {op : IOp} {env : Env} {k : Nat} {rs : List Pend} {K : AV → List Entry → Prop} (h : stepH S T op env H k rs K) : ∃ v H', K v H' ∧ pendOk (k + 1) H' rs ∧ Does S op env H v H' := by
  have gen : ∀ op : IOp, heavyD (evalOp op env H) k rs K → ∃ v H', K v H' ∧ pendOk (k + 1) H' rs ∧ Does S op env H v H' := by
    intro op h
    unfold heavyD at h
    split at h
    · rename_i v H' he
      exact ⟨v, H', h.2, h.1, .ev he⟩
    · exact h.elim
  cases op with
  | call f xs =>
    simp only [stepH] at h
    unfold callH at h
    split at h
    · rename_i c first cap hfe
      split at h
      · rename_i sz ys hv
        obtain ⟨hc, ha⟩ := tab_ok hv
        exact ⟨_, _, h.2, h.1, .call hfe hc (ha.1 H)⟩
      · exact h.elim
    · exact h.elim
  | invoke f nm xs => exact gen (.invoke f nm xs) h
  | mv x0 => exact gen (.mv x0) h
  | pick x0 x1 x2 => exact gen (.pick x0 x1 x2) h
  | bin x0 x1 x2 x3 => exact gen (.bin x0 x1 x2 x3) h
  | un x0 x1 => exact gen (.un x0 x1) h
  | convI x0 x1 => exact gen (.convI x0 x1) h
  | mkfunc x0 x1 x2 => exact gen (.mkfunc x0 x1 x2) h
  | extract x0 x1 => exact gen (.extract x0 x1) h
  | min x0 => exact gen (.min x0) h
  | max x0 => exact gen (.max x0) h
  | lenS x0 => exact gen (.lenS x0) h
  | lenA x0 => exact gen (.lenA x0) h
  | field x0 x1 x2 x3 => exact gen (.field x0 x1 x2 x3) h
  | idxA x0 x1 x2 x3 x4 => exact gen (.idxA x0 x1 x2 x3 x4) h
  | mkiface x0 x1 => exact gen (.mkiface x0 x1) h
  | tassert x0 x1 => exact gen (.tassert x0 x1) h
  | alloc x0 => exact gen (.alloc x0) h
  | box x0 => exact gen (.box x0) h
  | bslice x0 x1 x2 x3 => exact gen (.bslice x0 x1 x2 x3) h
  | store x0 x1 x2 => exact gen (.store x0 x1 x2) h
  | mkslice x0 x1 x2 x3 x4 => exact gen (.mkslice x0 x1 x2 x3 x4) h
  | append x0 x1 x2 x3 => exact gen (.append x0 x1 x2 x3) h
  | appendZ x0 x1 x2 x3 x4 => exact gen (.appendZ x0 x1 x2 x3 x4) h
  | copy x0 x1 x2 => exact gen (.copy x0 x1 x2) h
  | clear x0 x1 x2 => exact gen (.clear x0 x1 x2) h
  | build x0 x1 => exact gen (.build x0 x1) h
  | load x0 x1 x2 => exact gen (.load x0 x1 x2) h
  | nilck x0 => exact gen (.nilck x0) h
  | isnil x0 x1 x2 => exact gen (.isnil x0 x1 x2) h
  | convS x0 => exact gen (.convS x0) h
  | slice x0 x1 x2 x3 x4 => exact gen (.slice x0 x1 x2 x3 x4) h
  | faddr x0 x1 => exact gen (.faddr x0 x1) h
  | iaddr x0 x1 x2 => exact gen (.iaddr x0 x1 x2) h
  | iaddrA x0 x1 x2 x3 => exact gen (.iaddrA x0 x1 x2 x3) h
  | len x0 => exact gen (.len x0) h
theorem pastOk_get {lo : Nat} {op : IOp} {env : Env} {v : AV} : ∀ {Ps : List (List Entry)} {i : Nat}, pastOk lo i op env v Ps → ∀ j G, Ps[j]? = some G → lo ≤ i + j → evalOp op env G = some (v, G)
  | [], _, _, j, G, h, _ => by simp at h
  | G0 :: Ps, i, h, 0, G, hj, hl => by simp at hj; subst hj; exact h.1 (by omega)
  | G0 :: Ps, i, h, j + 1, G, hj, hl => pastOk_get (i := i + 1) h.2 j G (by simpa using hj) (by omega)
theorem pendOk_get {k : Nat} {G : List Entry} : ∀ {rs : List Pend}, pendOk k G rs → ∀ r ∈ rs, k ≤ r.hi → evalOp r.op r.env G = some (r.v, G)
  | r0 :: rs, h, r, hr, hk => by
    rcases List.mem_cons.1 hr with rfl | hr
    · exact h.1 hk
    · exact pendOk_get h.2 r hr hk

theorem drawW_run : ∀ {l : List IOper} {labs : List Lab} {k : Nat} {Ps : List (List Entry)} {rs : List Pend} {Q : St → Prop} {env : Env} {H : List Entry}, Ps.length = k → labs.length = l.length → drawW S T l labs k Ps rs Q ⟨env, H⟩ →
    ∃ (hs : List (List Entry)) (E : Env) (HK : List Entry), (H :: hs)[hs.length]? = some HK ∧ Q ⟨E, HK⟩ ∧ (∀ r ∈ rs, ∀ i G, hs[i]? = some G → k + 1 + i ≤ r.hi → evalOp r.op r.env G = some (r.v, G)) ∧
      ∀ Hs : Nat → List Entry, (∀ i G, (Ps ++ H :: hs)[i]? = some G → Hs i = G) → DR S Hs (k + hs.length) l labs env k E
  | [], [], k, Ps, rs, Q, env, H, hP, _, h => ⟨[], env, H, rfl, (by simpa only [drawW] using h), fun r _ i G hi => by simp at hi, fun Hs _ => .nil⟩
  | ⟨d, op, g, aft⟩ :: l, b :: labs, k, Ps, rs, Q, env, H, hP, hL, h => by
    have hL' : labs.length = l.length := by simpa using hL
    simp only [drawW] at h
    split at h
    · rename_i hg
      split at h
      · obtain ⟨v, hK, hd⟩ := stepL_does h
        obtain ⟨hs, E, HK, k1, k2, k3, k4⟩ := drawW_run hP hL' hK
        refine ⟨hs, E, HK, k1, k2, k3, fun Hs hh => ?_⟩
        obtain ⟨tr, ht⟩ := k4 Hs hh
        exact ⟨_, .light hg (fun j _ => hd (Hs j)) ht⟩
      · rename_i lo hi
        unfold readD at h
        split at h
        · rename_i v H' he
          obtain ⟨rfl, h1, h2, h3, hK⟩ := h
          obtain ⟨hs, E, HK, k1, k2, k3, k4⟩ := drawW_run hP hL' hK
          refine ⟨hs, E, HK, k1, k2, fun r hr => k3 r (List.mem_cons_of_mem _ hr), fun Hs hh => ?_⟩
          obtain ⟨tr, ht⟩ := k4 Hs hh
          refine ⟨_, .fixed hg h1 h2 (fun j ja jb jk => .ev ?_) ht⟩
          rcases Nat.lt_trichotomy j k with hj | hj | hj
          · have hg' : Ps[j]? = some Ps[j] := List.getElem?_eq_getElem (by omega)
            rw [hh j Ps[j] (by rw [List.getElem?_append_left (by omega)]; exact hg')]
            exact pastOk_get h3 j _ hg' (by omega)
          · subst hj
            rw [hh j _ (by rw [List.getElem?_append_right (by omega), hP, Nat.sub_self]; rfl)]
            exact he
          · have hl : j - k - 1 < hs.length := by omega
            obtain ⟨i, rfl⟩ : ∃ i, j = k + 1 + i := ⟨j - k - 1, by omega⟩
            have hg' : hs[i]? = some (hs[i]'(by omega)) := List.getElem?_eq_getElem (by omega)
            rw [hh (k + 1 + i) (hs[i]'(by omega)) (by rw [List.getElem?_append_right (by omega), hP, show k + 1 + i - k = i + 1 by omega, List.getElem?_cons_succ]; exact hg')]
            exact k3 ⟨hi, op, env, v⟩ (by simp) i _ hg' (show k + 1 + i ≤ hi by omega)
        · exact h.elim
      · rename_i r
        obtain ⟨rfl, h⟩ := h
        obtain ⟨v, H', hK, hp, hd⟩ := stepH_does h
        obtain ⟨hs, E, HK, k1, k2, k3, k4⟩ := drawW_run (by simp [hP]) hL' hK
        refine ⟨H' :: hs, E, HK, by simpa using k1, k2, fun p hp' i G hi hle => ?_, fun Hs hh => ?_⟩
        · cases i with
          | zero => simp at hi; subst hi; exact pendOk_get hp p hp' (by omega)
          | succ i => exact k3 p hp' i G (by simpa using hi) (by omega)
        · obtain ⟨tr, ht⟩ := k4 Hs fun i G hi => hh i G (by rw [List.append_assoc] at hi; exact hi)
          have h0 : Hs r = H := hh r H (by rw [List.getElem?_append_right (by omega), hP, Nat.sub_self]; rfl)
          have h1 : Hs (r + 1) = H' := hh (r + 1) H' (by rw [List.getElem?_append_right (by omega), hP, show r + 1 - r = 1 by omega]; rfl)
          rw [show r + (H' :: hs).length = r + 1 + hs.length by simp; omega]
          exact ⟨_, .heavy hg (by rw [h0, h1]; exact hd) ht⟩
    · rename_i hg
      obtain ⟨hs, E, HK, k1, k2, k3, k4⟩ := drawW_run hP hL' h
      refine ⟨hs, E, HK, k1, k2, k3, fun Hs hh => ?_⟩
      obtain ⟨tr, ht⟩ := k4 Hs hh
      exact ⟨_, .skip hg ht⟩
    · exact h.elim

theorem WP.drawQ (T : List (Reg S)) (labs : List Lab) {r : Option Nat} {N b : Nat} {Q : Exit → St → Prop} {l : List IOper} {env : Env} (hmx : S.P.follows .mixedOrders = true) (hchk : (drawOk l labs && labs.length == l.length) = true)
    (h : drawW S T l labs 0 [] [] (Q .normal) ⟨env, H⟩) : WP S r N b (.region l true) Q ⟨env, H⟩ := by
  simp only [Bool.and_eq_true, beq_iff_eq] at hchk
  obtain ⟨hs, E, HK, k1, k2, k3, k4⟩ := drawW_run (k := 0) (Ps := []) rfl hchk.2 h
  refine WP.drawE hmx labs hchk.1 (fun i => ((H :: hs)[i]?).getD []) hs.length (E := E) rfl ?_ ?_
  · rw [k1]; exact k2
  · have := k4 (fun i => ((H :: hs)[i]?).getD []) fun i G hi => by rw [List.nil_append] at hi; rw [hi]; rfl
    rwa [Nat.zero_add] at this

/-! ### Rules -/
variable {env : Env} {d : Option Nat} {op : IOp} {l : List IOper} {Q : St → Prop} {labs : List Lab} {k : Nat} {Ps : List (List Entry)} {rs : List Pend}
theorem Q_nil {st : St} : drawW S T [] labs k Ps rs Q st = Q st := by simp only [drawW]
theorem Q_l {a : List Nat} : drawW S T (⟨d, op, none, a⟩ :: l) (.l :: labs) k Ps rs Q ⟨env, H⟩ = stepL S T op env H fun v => drawW S T l labs k Ps rs Q ⟨updo env d v, H⟩ := by simp only [drawW, gdec]
theorem Q_g {a : List Nat} {lo hi : Nat} : drawW S T (⟨d, op, none, a⟩ :: l) (.g lo hi :: labs) k Ps rs Q ⟨env, H⟩ = readD lo hi k op env (evalOp op env H) H Ps fun v p => drawW S T l labs k Ps (p :: rs) Q ⟨updo env d v, H⟩ := by simp only [drawW, gdec]
theorem Q_h {a : List Nat} {r : Nat} : drawW S T (⟨d, op, none, a⟩ :: l) (.h r :: labs) k Ps rs Q ⟨env, H⟩ = (r = k ∧ stepH S T op env H k rs fun v H' => drawW S T l labs (k + 1) (Ps ++ [H]) rs Q ⟨updo env d v, H'⟩) := by simp only [drawW, gdec]
def qgrdW (S : Seat) (T : List (Reg S)) (c : AV) (want : Bool) (d : Option Nat) (op : IOp) (g : Nat) (l : List IOper) (b : Lab) (labs : List Lab) (k : Nat) (Ps : List (List Entry)) (rs : List Pend) (Q : St → Prop) (env : Env) (H : List Entry) : Prop := match c with
  | .bool v => (v = want → drawW S T (⟨d, op, none, []⟩ :: l) (b :: labs) k Ps rs Q ⟨env, H⟩) ∧ (v = !want → drawW S T l labs k Ps rs Q ⟨updo env d (.tup []), H⟩)
  | .tup [] => drawW S T l labs k Ps rs Q ⟨updo env d (.tup []), H⟩
  | _ => False
theorem Q_grd {g : Nat} {want : Bool} {a : List Nat} {b : Lab} : drawW S T (⟨d, op, some (g, want), a⟩ :: l) (b :: labs) k Ps rs Q ⟨env, H⟩ = qgrdW S T (env g) want d op g l b labs k Ps rs Q env H := by
  cases hv : env g
  case bool v =>
    simp only [qgrdW, drawW, gdec, hv]
    by_cases hw : v = want
    · subst hw; simp
    · have hw' : v = !want := by cases v <;> cases want <;> simp_all
      have hwt : (v == want) = false := by simpa using hw
      simp only [hwt]; simp [hw, hw']
  case tup l' =>
    cases l' with
    | nil => simp only [qgrdW, drawW, gdec, hv]
    | cons x xs => simp only [qgrdW, drawW, gdec, hv]
  all_goals simp only [qgrdW, drawW, gdec, hv]
theorem qgrdW_b {v want : Bool} {g : Nat} {b : Lab} : qgrdW S T (.bool v) want d op g l b labs k Ps rs Q env H = ((v = want → drawW S T (⟨d, op, none, []⟩ :: l) (b :: labs) k Ps rs Q ⟨env, H⟩) ∧ (v = !want → drawW S T l labs k Ps rs Q ⟨updo env d (.tup []), H⟩)) := rfl
theorem qgrdW_tup {want : Bool} {g : Nat} {b : Lab} : qgrdW S T (.tup []) want d op g l b labs k Ps rs Q env H = drawW S T l labs k Ps rs Q ⟨updo env d (.tup []), H⟩ := rfl
theorem lightD_some {v : AV} {H' : List Entry} {K : AV → Prop} : lightD op env (some (v, H')) H K = (H' = H ∧ (op.free = true ∨ ∀ G, evalOp op env G = some (v, G)) ∧ K v) := rfl
theorem heavyD_some {v : AV} {H' : List Entry} {K : AV → List Entry → Prop} : heavyD (some (v, H')) k rs K = (pendOk (k + 1) H' rs ∧ K v H') := rfl
theorem readD_some {v : AV} {H' : List Entry} {lo hi : Nat} {K : AV → Pend → Prop} : readD lo hi k op env (some (v, H')) H Ps K = (H' = H ∧ lo ≤ k ∧ k ≤ hi ∧ pastOk lo 0 op env v Ps ∧ K v ⟨hi, op, env, v⟩) := rfl
theorem fnD_some {v f : AV} {xs : List AV} {K : AV → Prop} : fnD S (some (.fn v)) f xs K = K v := rfl
theorem fnD_own {f : AV} {xs ys : List AV} {sz : Nat} {K : AV → Prop} : fnD S (some (.own sz ys)) f xs K = K (.list false ys) := rfl
theorem fnD_none {f : AV} {xs : List AV} {K : AV → Prop} : fnD S none f xs K = ∃ v, (∀ G, CallF S f xs G v) ∧ K v := rfl
theorem callL_f {c : Nat} {first cap xs : List AV} {K : AV → Prop} : callL S T (.func (.f c) first cap) xs K = fnD S (tab T c (first ++ xs ++ cap)) (.func (.f c) first cap) xs K := rfl
def ownH (a : Option Said) (H : List Entry) (K : AV → List Entry → Prop) : Prop := match a with
  | some (.own sz ys) => K (.own H.length 0 0 ys.length) (H ++ [.arr sz 0 ys])
  | _ => False
theorem ownH_some {sz : Nat} {ys : List AV} {K : AV → List Entry → Prop} : ownH (some (.own sz ys)) H K = K (.own H.length 0 0 ys.length) (H ++ [.arr sz 0 ys]) := rfl
theorem litD_some {sz i j n u v : Nat} {xs : List AV} {H' : List Entry} {K : AV → Prop} : litD op env (some (.own i j u n, H')) H K = litE op env (H'[H.length]?) K := rfl
theorem litE_some {sz v : Nat} {xs : List AV} {K : AV → Prop} : litE op env (some (.arr sz v xs)) K = ((∀ G : List Entry, evalOp op env G = some (.own G.length 0 0 xs.length, G ++ [.arr sz 0 xs])) ∧ (∀ x ∈ xs, ∀ y ∈ x.cells, Idb 0 y) ∧ K (.list false xs)) := rfl
theorem Q_call (f : Opd) (xs : List Opd) {K : AV → Prop} : stepL S T (.call f xs) env H K = callL S T (f.ev env) (xs.map (Opd.ev env)) K := rfl
theorem Q_bslice (esz len : Nat) (z : AV) (parts : List (Nat × Opd)) {K : AV → Prop} : stepL S T (.bslice esz len z parts) env H K = litD (.bslice esz len z parts) env (evalOp (.bslice esz len z parts) env H) H K := rfl
theorem H_call (f : Opd) (xs : List Opd) {K : AV → List Entry → Prop} : stepH S T (.call f xs) env H k rs K = callH S T (f.ev env) (xs.map (Opd.ev env)) H fun v H' => pendOk (k + 1) H' rs ∧ K v H' := rfl
theorem pendOk_nil {G : List Entry} : pendOk k G [] = True := rfl
theorem pendOk_cons {G : List Entry} {hi : Nat} {v : AV} : pendOk k G (⟨hi, op, env, v⟩ :: rs) = ((k ≤ hi → evalOp op env G = some (v, G)) ∧ pendOk k G rs) := rfl
theorem pastOk_nil {lo i : Nat} {v : AV} : pastOk lo i op env v [] = True := rfl
theorem pastOk_cons {lo i : Nat} {v : AV} {G : List Entry} : pastOk lo i op env v (G :: Ps) = ((lo ≤ i → evalOp op env G = some (v, G)) ∧ pastOk lo (i + 1) op env v Ps) := rfl
theorem Q_mv (x : Opd) {K : AV → Prop} : stepL S T (.mv x) env H K = lightD (.mv x) env (evalOp (.mv x) env H) H K := rfl
theorem Q_pick (c a b : Opd) {K : AV → Prop} : stepL S T (.pick c a b) env H K = lightD (.pick c a b) env (evalOp (.pick c a b) env H) H K := rfl
theorem Q_bin (isB : Bool) (op : BinOp) (x y : Opd) {K : AV → Prop} : stepL S T (.bin isB op x y) env H K = lightD (.bin isB op x y) env (evalOp (.bin isB op x y) env H) H K := rfl
theorem Q_un (op : UnOp) (x : Opd) {K : AV → Prop} : stepL S T (.un op x) env H K = lightD (.un op x) env (evalOp (.un op x) env H) H K := rfl
theorem Q_convI (k : IntKind) (x : Opd) {K : AV → Prop} : stepL S T (.convI k x) env H K = lightD (.convI k x) env (evalOp (.convI k x) env H) H K := rfl
theorem Q_mkfunc (fn : Nat) (first captured : List Opd) {K : AV → Prop} : stepL S T (.mkfunc fn first captured) env H K = lightD (.mkfunc fn first captured) env (evalOp (.mkfunc fn first captured) env H) H K := rfl
theorem Q_extract (x : Opd) (i : Nat) {K : AV → Prop} : stepL S T (.extract x i) env H K = lightD (.extract x i) env (evalOp (.extract x i) env H) H K := rfl
theorem Q_min (xs : List Opd) {K : AV → Prop} : stepL S T (.min xs) env H K = lightD (.min xs) env (evalOp (.min xs) env H) H K := rfl
theorem Q_max (xs : List Opd) {K : AV → Prop} : stepL S T (.max xs) env H K = lightD (.max xs) env (evalOp (.max xs) env H) H K := rfl
theorem Q_lenS (x : Opd) {K : AV → Prop} : stepL S T (.lenS x) env H K = lightD (.lenS x) env (evalOp (.lenS x) env H) H K := rfl
theorem Q_lenA (n : Nat) {K : AV → Prop} : stepL S T (.lenA n) env H K = lightD (.lenA n) env (evalOp (.lenA n) env H) H K := rfl
theorem Q_field (agg : Bool) (off n : Nat) (x : Opd) {K : AV → Prop} : stepL S T (.field agg off n x) env H K = lightD (.field agg off n x) env (evalOp (.field agg off n x) env H) H K := rfl
theorem Q_idxA (agg : Bool) (len esz : Nat) (x i : Opd) {K : AV → Prop} : stepL S T (.idxA agg len esz x i) env H K = lightD (.idxA agg len esz x i) env (evalOp (.idxA agg len esz x i) env H) H K := rfl
theorem Q_mkiface (t : Nat) (x : Opd) {K : AV → Prop} : stepL S T (.mkiface t x) env H K = lightD (.mkiface t x) env (evalOp (.mkiface t x) env H) H K := rfl
theorem Q_tassert (t : Nat) (x : Opd) {K : AV → Prop} : stepL S T (.tassert t x) env H K = lightD (.tassert t x) env (evalOp (.tassert t x) env H) H K := rfl
theorem Q_alloc (z : List AV) {K : AV → Prop} : stepL S T (.alloc z) env H K = lightD (.alloc z) env (evalOp (.alloc z) env H) H K := rfl
theorem Q_box (x : Opd) {K : AV → Prop} : stepL S T (.box x) env H K = lightD (.box x) env (evalOp (.box x) env H) H K := rfl
theorem Q_store (n : Nat) (x v : Opd) {K : AV → Prop} : stepL S T (.store n x v) env H K = lightD (.store n x v) env (evalOp (.store n x v) env H) H K := rfl
theorem Q_mkslice (esz bytes : Nat) (z : AV) (len cap : Opd) {K : AV → Prop} : stepL S T (.mkslice esz bytes z len cap) env H K = lightD (.mkslice esz bytes z len cap) env (evalOp (.mkslice esz bytes z len cap) env H) H K := rfl
theorem Q_append (esz bytes : Nat) (x y : Opd) {K : AV → Prop} : stepL S T (.append esz bytes x y) env H K = lightD (.append esz bytes x y) env (evalOp (.append esz bytes x y) env H) H K := rfl
theorem Q_appendZ (esz bytes : Nat) (z : AV) (x n : Opd) {K : AV → Prop} : stepL S T (.appendZ esz bytes z x n) env H K = lightD (.appendZ esz bytes z x n) env (evalOp (.appendZ esz bytes z x n) env H) H K := rfl
theorem Q_copy (esz : Nat) (x y : Opd) {K : AV → Prop} : stepL S T (.copy esz x y) env H K = lightD (.copy esz x y) env (evalOp (.copy esz x y) env H) H K := rfl
theorem Q_clear (esz : Nat) (z : AV) (x : Opd) {K : AV → Prop} : stepL S T (.clear esz z x) env H K = lightD (.clear esz z x) env (evalOp (.clear esz z x) env H) H K := rfl
theorem Q_build (z : List AV) (parts : List (Nat × Nat × Opd)) {K : AV → Prop} : stepL S T (.build z parts) env H K = lightD (.build z parts) env (evalOp (.build z parts) env H) H K := rfl
theorem Q_load (agg : Bool) (n : Nat) (x : Opd) {K : AV → Prop} : stepL S T (.load agg n x) env H K = lightD (.load agg n x) env (evalOp (.load agg n x) env H) H K := rfl
theorem Q_nilck (x : Opd) {K : AV → Prop} : stepL S T (.nilck x) env H K = lightD (.nilck x) env (evalOp (.nilck x) env H) H K := rfl
theorem Q_isnil (k : TK) (neg : Bool) (x : Opd) {K : AV → Prop} : stepL S T (.isnil k neg x) env H K = lightD (.isnil k neg x) env (evalOp (.isnil k neg x) env H) H K := rfl
theorem Q_convS (x : Opd) {K : AV → Prop} : stepL S T (.convS x) env H K = lightD (.convS x) env (evalOp (.convS x) env H) H K := rfl
theorem Q_slice (esz : Nat) (x : Opd) (lo hi mx : Option Opd) {K : AV → Prop} : stepL S T (.slice esz x lo hi mx) env H K = lightD (.slice esz x lo hi mx) env (evalOp (.slice esz x lo hi mx) env H) H K := rfl
theorem Q_faddr (off : Nat) (x : Opd) {K : AV → Prop} : stepL S T (.faddr off x) env H K = lightD (.faddr off x) env (evalOp (.faddr off x) env H) H K := rfl
theorem Q_iaddr (esz : Nat) (x i : Opd) {K : AV → Prop} : stepL S T (.iaddr esz x i) env H K = lightD (.iaddr esz x i) env (evalOp (.iaddr esz x i) env H) H K := rfl
theorem Q_iaddrA (len esz : Nat) (x i : Opd) {K : AV → Prop} : stepL S T (.iaddrA len esz x i) env H K = lightD (.iaddrA len esz x i) env (evalOp (.iaddrA len esz x i) env H) H K := rfl
theorem Q_len (x : Opd) {K : AV → Prop} : stepL S T (.len x) env H K = lightD (.len x) env (evalOp (.len x) env H) H K := rfl
theorem H_alloc (z : List AV) {K : AV → List Entry → Prop} : stepH S T (.alloc z) env H k rs K = heavyD (evalOp (.alloc z) env H) k rs K := rfl
theorem H_box (x : Opd) {K : AV → List Entry → Prop} : stepH S T (.box x) env H k rs K = heavyD (evalOp (.box x) env H) k rs K := rfl
theorem H_bslice (esz len : Nat) (z : AV) (parts : List (Nat × Opd)) {K : AV → List Entry → Prop} : stepH S T (.bslice esz len z parts) env H k rs K = heavyD (evalOp (.bslice esz len z parts) env H) k rs K := rfl
theorem H_store (n : Nat) (x v : Opd) {K : AV → List Entry → Prop} : stepH S T (.store n x v) env H k rs K = heavyD (evalOp (.store n x v) env H) k rs K := rfl
theorem H_mkslice (esz bytes : Nat) (z : AV) (len cap : Opd) {K : AV → List Entry → Prop} : stepH S T (.mkslice esz bytes z len cap) env H k rs K = heavyD (evalOp (.mkslice esz bytes z len cap) env H) k rs K := rfl
theorem H_append (esz bytes : Nat) (x y : Opd) {K : AV → List Entry → Prop} : stepH S T (.append esz bytes x y) env H k rs K = heavyD (evalOp (.append esz bytes x y) env H) k rs K := rfl
theorem H_appendZ (esz bytes : Nat) (z : AV) (x n : Opd) {K : AV → List Entry → Prop} : stepH S T (.appendZ esz bytes z x n) env H k rs K = heavyD (evalOp (.appendZ esz bytes z x n) env H) k rs K := rfl
theorem H_copy (esz : Nat) (x y : Opd) {K : AV → List Entry → Prop} : stepH S T (.copy esz x y) env H k rs K = heavyD (evalOp (.copy esz x y) env H) k rs K := rfl
theorem H_clear (esz : Nat) (z : AV) (x : Opd) {K : AV → List Entry → Prop} : stepH S T (.clear esz z x) env H k rs K = heavyD (evalOp (.clear esz z x) env H) k rs K := rfl
theorem free_mv (x : Opd) : IOp.free (.mv x) = true := rfl
theorem free_pick (c a b : Opd) : IOp.free (.pick c a b) = true := rfl
theorem free_bin (isB : Bool) (op : BinOp) (x y : Opd) : IOp.free (.bin isB op x y) = true := rfl
theorem free_un (op : UnOp) (x : Opd) : IOp.free (.un op x) = true := rfl
theorem free_convI (k : IntKind) (x : Opd) : IOp.free (.convI k x) = true := rfl
theorem free_mkfunc (fn : Nat) (first captured : List Opd) : IOp.free (.mkfunc fn first captured) = true := rfl
theorem free_extract (x : Opd) (i : Nat) : IOp.free (.extract x i) = true := rfl
theorem free_min (xs : List Opd) : IOp.free (.min xs) = true := rfl
theorem free_max (xs : List Opd) : IOp.free (.max xs) = true := rfl
theorem free_lenS (x : Opd) : IOp.free (.lenS x) = true := rfl
theorem free_lenA (n : Nat) : IOp.free (.lenA n) = true := rfl
theorem free_field (agg : Bool) (off n : Nat) (x : Opd) : IOp.free (.field agg off n x) = true := rfl
theorem free_idxA (agg : Bool) (len esz : Nat) (x i : Opd) : IOp.free (.idxA agg len esz x i) = true := rfl
theorem free_mkiface (t : Nat) (x : Opd) : IOp.free (.mkiface t x) = true := rfl
theorem free_tassert (t : Nat) (x : Opd) : IOp.free (.tassert t x) = true := rfl
theorem free_build (z : List AV) (parts : List (Nat × Nat × Opd)) : IOp.free (.build z parts) = false := rfl
theorem free_load (agg : Bool) (n : Nat) (x : Opd) : IOp.free (.load agg n x) = false := rfl
theorem free_nilck (x : Opd) : IOp.free (.nilck x) = false := rfl
theorem free_isnil (k : TK) (neg : Bool) (x : Opd) : IOp.free (.isnil k neg x) = false := rfl
theorem free_convS (x : Opd) : IOp.free (.convS x) = false := rfl
theorem free_slice (esz : Nat) (x : Opd) (lo hi mx : Option Opd) : IOp.free (.slice esz x lo hi mx) = false := rfl
theorem free_faddr (off : Nat) (x : Opd) : IOp.free (.faddr off x) = false := rfl
theorem free_iaddr (esz : Nat) (x i : Opd) : IOp.free (.iaddr esz x i) = false := rfl
theorem free_iaddrA (len esz : Nat) (x i : Opd) : IOp.free (.iaddrA len esz x i) = false := rfl
theorem free_len (x : Opd) : IOp.free (.len x) = false := rfl

end Go.Proofs.YtihhinbjhiankaaGreatDoor.Al

set_option linter.unusedSimpArgs false
set_option linter.unusedVariables false
namespace Go.Proofs.YtihhinbjhiankaaGreatDoor.Al
open Go
variable {S : Seat}

/-- What is told by x may be told by y. -/
def Weak (x y : AV) : Prop := ∀ (S : Seat) (m : List ME) (I : Nat → Prop) (w : World) (v : Value), Rel S m I w x v → Rel S m I w y v
inductive Weaks : List AV → List AV → Prop
  | nil : Weaks [] []
  | cons {x y : AV} {xs ys : List AV} (h : Weak x y) (t : Weaks xs ys) : Weaks (x :: xs) (y :: ys)
theorem Weak.refl (x : AV) : Weak x x := fun _ _ _ _ _ h => h
theorem Weak.of_eq {x y : AV} (h : x = y) : Weak x y := by rw [h]; exact .refl y
theorem Weaks.get {xs ys : List AV} (h : Weaks xs ys) : xs.length = ys.length ∧ ∀ (i : Nat) (y : AV), ys[i]? = some y → ∃ x, xs[i]? = some x ∧ Weak x y := by
  induction h with
  | nil => exact ⟨rfl, fun i y h => by simp at h⟩
  | @cons x y xs ys h t ih =>
    refine ⟨by simp [ih.1], fun i z hz => ?_⟩
    cases i with
    | zero => simp at hz; subst hz; exact ⟨x, rfl, h⟩
    | succ i => simp at hz; obtain ⟨u, h1, h2⟩ := ih.2 i z hz; exact ⟨u, by simpa using h1, h2⟩
theorem Weaks.rels {xs ys : List AV} (h : Weaks xs ys) {m : List ME} {I : Nat → Prop} {w : World} {vs : Array Value} (hv : Rels S m I w xs vs) : Rels S m I w ys vs := by
  refine ⟨by rw [hv.1, h.get.1], fun i y hy => ?_⟩
  obtain ⟨x, h1, h2⟩ := h.get.2 i y hy
  exact h2 _ _ _ _ _ (hv.2 i x h1)
theorem Weak.agg {xs ys : List AV} (h : Weaks xs ys) : Weak (.agg xs) (.agg ys) := by
  intro S m I w v hv
  cases hv with
  | agg _ vs hs hh =>
    have := h.rels (S := S) (m := m) (I := I) (w := w) (vs := vs) ⟨hs, hh⟩
    exact .agg ys vs this.1 this.2
theorem Weak.list (t : Bool) (xs : List AV) : Weak (.list t xs) (.list false xs) := by
  intro S m I w v hv
  cases hv with
  | empty _ a c ht hc => exact .empty false a c (fun h => by cases h) hc
  | list _ _ b off n c sz rd hn hnc hcm ht hI hsz hc hr => exact .list false xs b off n c sz rd hn hnc hcm (fun h => by cases h) hI hsz hc hr
theorem ACall.weak {c : Nat} {args args' : List AV} {H : List Entry} {R : AV → List Entry → Prop} (hw : Weaks args args') (h : ACall S c args' H R) : ACall S c args H R :=
  fun m I X w vs hs hv => h m I X w vs hs (hw.rels hv)
theorem Fun.weak {c : Nat} {args args' : List AV} {r : AV} (hw : Weaks args args') (h : Fun S c args' r) : Fun S c args r := fun H => (h H).weak hw
theorem FunOwn.weak {c : Nat} {args args' : List AV} {sz : Nat} {xs : List AV} (hw : Weaks args args') (h : FunOwn S c args' sz xs) : FunOwn S c args sz xs := fun H => (h H).weak hw

structure Patch where
  len : Int
  x : List Int
  n : List Node
deriving DecidableEq
def patchA (p : Patch) : AV := .agg [.int .i64 p.len, ints p.x, nodes p.n]
def Patch.zero : Patch := ⟨0, [], []⟩

theorem Weak.undef (x : AV) : Weak x .undef := fun _ _ _ _ v _ => .undef v
theorem WP.weakE {r : Option Nat} {N b : Nat} {ic : IC} {Q : Exit → St → Prop} {env env' : Env} {H : List Entry} (hw : ∀ j, Weak (env j) (env' j)) (h : WP S r N b ic Q ⟨env', H⟩) : WP S r N b ic Q ⟨env, H⟩ := by
  refine WP.ghost ?_ h
  intro m I X w n0 a hs hfr
  exact ⟨m, I, .refl m, fun _ hb => hb, hs, ⟨fun j => hw j _ _ _ _ _ (hfr.env j), hfr.size, hfr.marks⟩⟩
theorem envL_weak {env : Env} : ∀ {l : List (Nat × AV)}, (∀ p ∈ l, Weak (env p.1) p.2) → ∀ j, Weak (env j) (envL l j)
  | [], _, j => .undef _
  | (k, v) :: l, h, j => by
    rw [envL_cons]
    split
    · rename_i e; subst e; exact h (_, v) (by simp)
    · exact envL_weak (fun p hp => h p (by simp [hp])) j
theorem WP.weakL {r : Option Nat} {N b : Nat} {ic : IC} {Q : Exit → St → Prop} {st : St} (l : List (Nat × AV)) (hw : ∀ p ∈ l, Weak (st.env p.1) p.2) (h : WP S r N b ic Q ⟨envL l, st.H⟩) : WP S r N b ic Q st :=
  WP.weakE (envL_weak hw) h
theorem weak_refl (x : AV) : Weak x x = True := eq_true (.refl x)
/-! ### Values read back -/
def dI : AV → Int
  | .int _ n => n
  | _ => 0
def dB : AV → Bool
  | .bool b => b
  | _ => false
def dRow {α : Type} (d : AV → α) : AV → List α
  | .list _ xs => xs.map d
  | _ => []
def dO (x : AV) : List Int := dRow dI x
def dOs (x : AV) : List (List Int) := dRow dO x
def dLf : AV → Leaf
  | .agg [e, c, s, p] => ⟨dO e, dO c, dI s, dO p⟩
  | _ => .zero
def dIn : AV → Inner
  | .agg [e, c, s] => ⟨dO e, dO c, dO s⟩
  | _ => .zero
def dN : AV → Node
  | .agg [k, a, b, c, d, e, f, g] => ⟨dI k, ⟨dO a, dO b, dI c, dO d⟩, ⟨dO e, dO f, dO g⟩⟩
  | _ => .zero
def dNs (x : AV) : List Node := dRow dN x
def dP : AV → Patch
  | .agg [a, b, c] => ⟨dI a, dO b, dNs c⟩
  | _ => .zero

def isI (x : AV) : Prop := x = .int .i64 (dI x)
def isB (x : AV) : Prop := x = .bool (dB x)
def isO (x : AV) : Prop := ∃ t, x = .list t ((dO x).map (AV.int .u8))
def isS (x : AV) : Prop := ∃ t, x = .list t ((dO x).map (AV.int .i64))
def isNs (x : AV) : Prop := ∃ t, x = .list t ((dNs x).map nodeA)
def isLf : AV → Prop
  | .agg [e, c, s, p] => isO e ∧ isO c ∧ isI s ∧ isO p
  | _ => False
def isIn : AV → Prop
  | .agg [e, c, s] => isO e ∧ isO c ∧ isS s
  | _ => False
def isN : AV → Prop
  | .agg [k, a, b, c, d, e, f, g] => isI k ∧ isO a ∧ isO b ∧ isI c ∧ isO d ∧ isO e ∧ isO f ∧ isS g
  | _ => False
def isP : AV → Prop
  | .agg [a, b, c] => isI a ∧ isS b ∧ isNs c
  | _ => False

theorem isI.weak {x : AV} (h : isI x) : Weak x (.int .i64 (dI x)) := by rw [← h]; exact .refl x
theorem isB.weak {x : AV} (h : isB x) : Weak x (.bool (dB x)) := by rw [← h]; exact .refl x
theorem isO.weak {x : AV} (h : isO x) : Weak x (octs (dO x)) := by
  obtain ⟨t, h⟩ := h
  have := Weak.list t ((dO x).map (AV.int .u8))
  rw [← h] at this; exact this
theorem isS.weak {x : AV} (h : isS x) : Weak x (ints (dO x)) := by
  obtain ⟨t, h⟩ := h
  have := Weak.list t ((dO x).map (AV.int .i64))
  rw [← h] at this; exact this
theorem isNs.weak {x : AV} (h : isNs x) : Weak x (nodes (dNs x)) := by
  obtain ⟨t, h⟩ := h
  have := Weak.list t ((dNs x).map nodeA)
  rw [← h] at this; exact this
theorem isLf.weak {x : AV} (h : isLf x) : Weak x (leafA (dLf x)) := by
  unfold isLf at h
  split at h
  · exact .agg (.cons h.1.weak (.cons h.2.1.weak (.cons h.2.2.1.weak (.cons h.2.2.2.weak .nil))))
  · exact h.elim
theorem isIn.weak {x : AV} (h : isIn x) : Weak x (innerA (dIn x)) := by
  unfold isIn at h
  split at h
  · exact .agg (.cons h.1.weak (.cons h.2.1.weak (.cons h.2.2.weak .nil)))
  · exact h.elim
theorem isN.weak {x : AV} (h : isN x) : Weak x (nodeA (dN x)) := by
  unfold isN at h
  split at h
  · obtain ⟨h1, h2, h3, h4, h5, h6, h7, h8⟩ := h
    exact .agg (.cons h1.weak (.cons h2.weak (.cons h3.weak (.cons h4.weak (.cons h5.weak (.cons h6.weak (.cons h7.weak (.cons h8.weak .nil))))))))
  · exact h.elim
theorem map_dI (k : IntKind) (l : List Int) : (l.map (AV.int k)).map dI = l := by
  induction l with
  | nil => rfl
  | cons x l ih => rw [List.map_cons, List.map_cons, ih]; rfl
theorem dI_int (k : IntKind) (n : Int) : dI (.int k n) = n := (rfl)
theorem dB_bool (b : Bool) : dB (.bool b) = b := (rfl)
theorem dO_octs (l : List Int) : dO (octs l) = l := map_dI _ l
theorem dO_ints (l : List Int) : dO (ints l) = l := map_dI _ l
theorem dO_list (t : Bool) (k : IntKind) (l : List Int) : dO (.list t (l.map (AV.int k))) = l := map_dI _ l
theorem dO_nil (t : Bool) : dO (.list t []) = [] := (rfl)
theorem dOs_nil (t : Bool) : dOs (.list t []) = [] := (rfl)
theorem dN_nodeA (l : Node) : dN (nodeA l) = l := by simp only [nodeA, Node.cells, dN, dO_octs, dO_ints, dI_int]
theorem dLf_agg (e c s p : AV) : dLf (.agg [e, c, s, p]) = ⟨dO e, dO c, dI s, dO p⟩ := (rfl)
theorem dIn_agg (e c s : AV) : dIn (.agg [e, c, s]) = ⟨dO e, dO c, dO s⟩ := (rfl)
theorem dN_agg (k a b c d e f g : AV) : dN (.agg [k, a, b, c, d, e, f, g]) = ⟨dI k, ⟨dO a, dO b, dI c, dO d⟩, ⟨dO e, dO f, dO g⟩⟩ := (rfl)
theorem dNs_nodes (l : List Node) : dNs (nodes l) = l := by
  simp only [dNs, dRow, nodes, List.map_map]
  exact (List.map_congr_left fun a _ => dN_nodeA a).trans (List.map_id _)
theorem dNs_nil (t : Bool) : dNs (.list t []) = [] := (rfl)
theorem isI_int (n : Int) : isI (.int .i64 n) = True := eq_true rfl
theorem isB_bool (n : Bool) : isB (.bool n) = True := eq_true rfl
theorem isO_octs (l : List Int) : isO (octs l) = True := eq_true ⟨false, by rw [dO_octs]; rfl⟩
theorem isO_nil (t : Bool) : isO (.list t []) = True := eq_true ⟨t, rfl⟩
theorem isO_list (t : Bool) (l : List Int) : isO (.list t (l.map (AV.int .u8))) = True := eq_true ⟨t, by rw [dO_list]⟩
theorem isS_ints (l : List Int) : isS (ints l) = True := eq_true ⟨false, by rw [dO_ints]; rfl⟩
theorem isS_nil (t : Bool) : isS (.list t []) = True := eq_true ⟨t, rfl⟩
theorem isNs_nodes (l : List Node) : isNs (nodes l) = True := eq_true ⟨false, by rw [dNs_nodes]; rfl⟩
theorem isNs_nil (t : Bool) : isNs (.list t []) = True := eq_true ⟨t, rfl⟩
theorem isN_nodeA (l : Node) : isN (nodeA l) = True := by simp only [nodeA, Node.cells, isN, isO_octs, isS_ints, isI_int, and_self]
theorem isLf_agg (e c s p : AV) : isLf (.agg [e, c, s, p]) = (isO e ∧ isO c ∧ isI s ∧ isO p) := (rfl)
theorem isIn_agg (e c s : AV) : isIn (.agg [e, c, s]) = (isO e ∧ isO c ∧ isS s) := (rfl)
theorem isN_agg (k a b c d e f g : AV) : isN (.agg [k, a, b, c, d, e, f, g]) = (isI k ∧ isO a ∧ isO b ∧ isI c ∧ isO d ∧ isO e ∧ isO f ∧ isS g) := (rfl)
theorem dP_agg (a b c : AV) : dP (.agg [a, b, c]) = ⟨dI a, dO b, dNs c⟩ := (rfl)
theorem isP_agg (a b c : AV) : isP (.agg [a, b, c]) = (isI a ∧ isS b ∧ isNs c) := (rfl)
theorem patch_eta (p : Patch) : Patch.mk p.len p.x p.n = p := (rfl)
theorem idb_patchA (n : Nat) (p : Patch) : Idb n (patchA p) = True := by
  simp [patchA, idb_agg, idb_ints, idb_nodes, idb_int]
theorem leaf_eta (l : Leaf) : Leaf.mk l.enc l.cred l.source l.parent = l := (rfl)
theorem inner_eta (l : Inner) : Inner.mk l.enc l.hash l.unmerged = l := (rfl)
theorem node_eta (n : Node) : Node.mk n.kind n.leaf n.inner = n := (rfl)
theorem leaf_zero : Leaf.mk [] [] 0 [] = .zero := (rfl)
theorem inner_zero : Inner.mk [] [] [] = .zero := (rfl)
theorem node_zero : Node.mk 0 .zero .zero = .zero := (rfl)

theorem ldI (H : List Entry) (n : Nat) (cs : List AV) (o : Nat) : evLoad H false n (.iptr cs o) = cs[o]? := by simp [evLoad, window]
theorem ldIA (H : List Entry) (n : Nat) (cs : List AV) (o : Nat) : evLoad H true n (.iptr cs o) = if o + n ≤ cs.length then some (.agg ((cs.drop o).take n)) else none := by simp [evLoad, window]
theorem adI (H : List Entry) (off : Nat) (cs : List AV) (o : Nat) : evAddr H off (.iptr cs o) = some (.iptr cs (o + off)) := rfl
theorem ix_nodes (H : List Entry) (l : List Node) (k : Nat) (h : k < l.length) : evIndex H 8 (nodes l) (.int .i64 (k : Int)) = some (.iptr [.int .i64 l[k].kind, octs l[k].leaf.enc, octs l[k].leaf.cred, .int .i64 l[k].leaf.source, octs l[k].leaf.parent, octs l[k].inner.enc, octs l[k].inner.hash, ints l[k].inner.unmerged] 0) := encNode.index H l k h
theorem wrap64s (n : Int) (h : -9223372036854775808 ≤ n ∧ n ≤ 9223372036854775807) : IntKind.i64.wrap n = n := wrap64 n h.1 h.2
theorem inj_map {α : Type} {f : α → AV} (d : AV → α) (hd : ∀ a, d (f a) = a) {l r : List α} (h : AV.list false (l.map f) = AV.list false (r.map f)) : l = r := by
  have := congrArg (dRow d) h
  simpa only [dRow, List.map_map, Function.comp_def, hd, List.map_id'] using this
theorem nodes_inj (a b : List Node) : (nodes a = nodes b) = (a = b) := propext ⟨inj_map dN dN_nodeA, fun h => by rw [h]⟩
theorem octs_inj (a b : List Int) : (octs a = octs b) = (a = b) := propext ⟨inj_map dI (dI_int _), fun h => by rw [h]⟩
theorem ints_inj (a b : List Int) : (ints a = ints b) = (a = b) := propext ⟨inj_map dI (dI_int _), fun h => by rw [h]⟩
theorem nil_nodes (b : List Node) : (AV.list false [] = nodes b) = (b = []) := propext ⟨fun h => (nodes_inj [] b).mp h |>.symm, fun h => by rw [h]; rfl⟩
theorem nil_octs (b : List Int) : (AV.list false [] = octs b) = (b = []) := propext ⟨fun h => (octs_inj [] b).mp h |>.symm, fun h => by rw [h]; rfl⟩
theorem nil_ints (b : List Int) : (AV.list false [] = ints b) = (b = []) := propext ⟨fun h => (ints_inj [] b).mp h |>.symm, fun h => by rw [h]; rfl⟩
theorem canon_nilL (H : List Entry) (k : Nat) (t : Bool) : canon H (k + 1) (.list t []) = .list false [] := rfl

theorem quo2 (n : Int) (h : 0 ≤ n ∧ n ≤ 9223372036854775807) : IntKind.i64.wrap (n.tdiv 2) = n / 2 := by
  rw [Int.tdiv_eq_ediv_of_nonneg h.1, wrap64 _ (by omega) (by omega)]
/-- One place more is looked at. -/
theorem scanS {n k : Nat} {p : ∀ j, j < n → Prop} (hno : ∀ j (h : j < n), j < k → p j h) (hk : ∀ h : k < n, p k h) : ∀ j (h : j < n), j < k + 1 → p j h := by
  intro j h hj
  rcases Nat.lt_or_ge j k with h1 | h1
  · exact hno j h h1
  · obtain rfl : j = k := by omega
    exact hk h
theorem scanE {n : Nat} {p : ∀ j, j < n → Prop} {k : Nat} (hno : ∀ j (h : j < n), j < k → p j h) (hk : ¬ (k : Int) < n) : ∀ j (h : j < n), p j h := fun j h => hno j h (by omega)
theorem two_ne : ((2 : Int) = 0) = False := by simp
theorem four_ne : ((4 : Int) = 0) = False := by simp
/-- A box of a node is written whole. -/
theorem st_node {H : List Entry} {id : Nat} {cs : List AV} (n : Node) (h : H[id]? = some (.box cs)) (hc : cs.length = 8) : evStore H 8 (.ptr id 0) (nodeA n) = some (H.set id (.box (nodeA n).cells)) := by
  have h1 : (nodeA n).cells.length = 8 := rfl
  have h2 : (nodeA n).cells.all (AV.oneIn H) = true := encNode.one n H
  have h3 : splice cs 0 (nodeA n).cells = (nodeA n).cells := by
    simp only [splice, List.take_zero, List.nil_append, Nat.zero_add, h1]
    rw [List.drop_of_length_le (by omega), List.append_nil]
  simp only [evStore, h1, h2, h, hc, h3, true_and, and_self, if_true, show (0 : Nat) < 8 by decide, show 0 + 8 ≤ 8 by decide]
theorem ld_node {H : List Entry} {id : Nat} {n : Node} (h : H[id]? = some (.box (nodeA n).cells)) : evLoad H true 8 (.ptr id 0) = some (nodeA n) := by
  simp only [evLoad, window, h]; rfl
theorem tail_get {G : List Entry} {e : Entry} (T : List Entry) (x : Entry) : (e :: (T ++ [x]))[T.length + 1]? = some x := by simp
theorem tail_set {G : List Entry} {e : Entry} (T : List Entry) (x y : Entry) : (e :: (T ++ [x])).set (T.length + 1) y = e :: (T ++ [y]) := by simp

theorem ixo_nodes {H : List Entry} {id ver k : Nat} {l : List Node} (h : H[id]? = some (.arr 8 ver (l.map nodeA))) (hk : k < l.length) : evIndex H 8 (.own id ver 0 l.length) (.int .i64 (k : Int)) = some (.eptr id ver k 0) := encNode.index_own h hk
theorem canon_rowI {H : List Entry} {id ver k : Nat} {l : List Int} (h : H[id]? = some (.arr 1 ver (l.map (AV.int .i64)))) : canon H (k + 1) (.own id ver 0 l.length) = ints l := encI64.canon_own_all h k
theorem canon_rowO {H : List Entry} {id ver k : Nat} {l : List Int} (h : H[id]? = some (.arr 1 ver (l.map (AV.int .u8)))) : canon H (k + 1) (.own id ver 0 l.length) = octs l := encU8.canon_own_all h k

def evR (v : Option AV) (R : AV → List Entry → Prop) (H : List Entry) : Prop := match v with
  | some v => R v H
  | none => False
theorem evR_some {v : AV} {R : AV → List Entry → Prop} {H : List Entry} : evR (some v) R H = R v H := rfl
theorem leaves_r {rs : List IRes} {R : AV → List Entry → Prop} {env : Env} {H : List Entry} : leaves rs R .ret ⟨env, H⟩ = evR (evRess env H rs) R H := by
  simp only [leaves, evR, or_true, true_and]
  cases evRess env H rs <;> simp
theorem evRess1 (env : Env) (H : List Entry) (x : IRes) : evRess env H [x] = evRes env H x := rfl
theorem evRess2 (env : Env) (H : List Entry) (x y : IRes) : evRess env H [x, y] = (evRes env H x).bind fun a => (evRes env H y).map fun b => .tup [a, b] := by
  simp only [evRess, List.mapM_cons, List.mapM_nil]
  cases evRes env H x <;> cases evRes env H y <;> rfl
theorem evRess3 (env : Env) (H : List Entry) (x y z : IRes) : evRess env H [x, y, z] = (evRes env H x).bind fun a => (evRes env H y).bind fun b => (evRes env H z).map fun c => .tup [a, b, c] := by
  simp only [evRess, List.mapM_cons, List.mapM_nil]
  cases evRes env H x <;> cases evRes env H y <;> cases evRes env H z <;> rfl
theorem evRes_t (env : Env) (H : List Entry) (s : Nat) : evRes env H (.t s) = some (env s) := rfl
theorem evRes_c (env : Env) (H : List Entry) (s : Nat) (agg : Bool) (n : Nat) : evRes env H (.cell s agg n) = evLoad H agg n (env s) := rfl

theorem nz_kind : Node.zero.kind = 0 := (rfl)
theorem nz_enc : Node.zero.leaf.enc = [] := (rfl)
theorem nz_cred : Node.zero.leaf.cred = [] := (rfl)
theorem nz_source : Node.zero.leaf.source = 0 := (rfl)
theorem nz_parent : Node.zero.leaf.parent = [] := (rfl)
theorem nz_ienc : Node.zero.inner.enc = [] := (rfl)
theorem nz_hash : Node.zero.inner.hash = [] := (rfl)
theorem nz_un : Node.zero.inner.unmerged = [] := (rfl)

theorem bsl_node (H : List Entry) (n : Node) : evBslice H 8 1 (.agg [.int .i64 0, .list true [], .list true [], .int .i64 0, .list true [], .list true [], .list true [], .list true []])
    [(0, .agg [.int .i64 n.kind, octs n.leaf.enc, octs n.leaf.cred, .int .i64 n.leaf.source, octs n.leaf.parent, octs n.inner.enc, octs n.inner.hash, ints n.inner.unmerged])] = some (.own H.length 0 0 1, H ++ [.arr 8 0 [.agg [.int .i64 n.kind, octs n.leaf.enc, octs n.leaf.cred, .int .i64 n.leaf.source, octs n.leaf.parent, octs n.inner.enc, octs n.inner.hash, ints n.inner.unmerged]]]) := rfl
theorem appI {H : List Entry} {id ver : Nat} {l : List Int} {n : Int} (h : H[id]? = some (.arr 1 ver (l.map (AV.int .i64)))) (hl : l.length + 1 ≤ maxRow) :
    evAppend H 1 8 (.own id ver 0 l.length) [.int .i64 n] = some (.own id (ver + 1) 0 (l ++ [n]).length, H.set id (.arr 1 (ver + 1) ((l ++ [n]).map (AV.int .i64)))) := encI64.app_own h hl (by decide)
theorem appO {H : List Entry} {id ver : Nat} {l : List Int} {n : Int} (h : H[id]? = some (.arr 1 ver (l.map (AV.int .u8)))) (hl : l.length + 1 ≤ maxRow) :
    evAppend H 1 1 (.own id ver 0 l.length) [.int .u8 n] = some (.own id (ver + 1) 0 (l ++ [n]).length, H.set id (.arr 1 (ver + 1) ((l ++ [n]).map (AV.int .u8)))) := encU8.app_own h hl (by decide)

theorem frz_rowN {H : List Entry} {id ver k : Nat} {l : List Node} (h : H[id]? = some (.frz 8 ver (l.map nodeA))) : derefN H (k + 1) (.own id ver 0 l.length) = nodes l := by
  simp only [derefN, h, List.length_map, Nat.le_refl, and_self, if_true, List.drop_zero]
  rw [List.take_of_length_le (by simp), List.map_map, nodes]
  congr 1
  exact List.map_congr_left fun x _ => encNode.norm H k x

theorem wrapU8 (n : Int) : IntKind.u8.wrap n = n % 256 := by
  simp only [IntKind.wrap, IntKind.bits, IntKind.signed]
  simp

/-! Boxes and rows at whatever place of a heap -/
def ldE (e : Option Entry) (agg : Bool) (n off : Nat) : Option AV := match e with
  | some (.box cs) => if agg then (if off + n ≤ cs.length then some (.agg ((cs.drop off).take n)) else none) else cs[off]?
  | _ => none
theorem ldP (H : List Entry) (agg : Bool) (n id off : Nat) : evLoad H agg n (.ptr id off) = ldE (H[id]?) agg n off := by
  simp only [evLoad, window, ldE]
  split <;> rename_i h
  · split at h
    · rename_i cs hh; cases h; rw [hh]
    · cases h
  · split at h
    · cases h
    · rename_i hh
      split
      · rename_i cs hc; exact absurd hc (hh cs)
      · rfl
theorem ldE_a (cs : List AV) (n off : Nat) : ldE (some (.box cs)) true n off = if off + n ≤ cs.length then some (.agg ((cs.drop off).take n)) else none := rfl
theorem ldE_c (cs : List AV) (n off : Nat) : ldE (some (.box cs)) false n off = cs[off]? := rfl
def adE (e : Option Entry) (id off : Nat) : Option AV := match e with
  | some (.box _) => some (.ptr id off)
  | _ => none
theorem adP (H : List Entry) (k id off : Nat) : evAddr H k (.ptr id off) = adE (H[id]?) id (off + k) := by
  simp only [evAddr, adE]
  rcases H[id]? with _ | e
  · rfl
  · cases e <;> rfl
theorem adE_b (cs : List AV) (id off : Nat) : adE (some (.box cs)) id off = some (.ptr id off) := rfl
def stE (e : Option Entry) (H : List Entry) (n id off : Nat) (v : AV) : Option (List Entry) := match e with
  | some (.box cs) => if v.cells.length = n ∧ 0 < n ∧ v.cells.all (AV.oneIn H) = true then (if off + n ≤ cs.length then some (H.set id (.box (splice cs off v.cells))) else none) else none
  | _ => none
theorem stP (H : List Entry) (n id off : Nat) (v : AV) : evStore H n (.ptr id off) v = stE (H[id]?) H n id off v := by
  simp only [evStore, stE]
  split <;> split <;> simp_all
theorem stE_b (cs : List AV) (H : List Entry) (n id off : Nat) (v : AV) : stE (some (.box cs)) H n id off v = if v.cells.length = n ∧ 0 < n ∧ v.cells.all (AV.oneIn H) = true then (if off + n ≤ cs.length then some (H.set id (.box (splice cs off v.cells))) else none) else none := rfl
def onE (e : Option Entry) (ver : Nat) : Bool := match e with
  | some (.arr _ v _) => v == ver
  | some (.frz _ v _) => v == ver
  | _ => false
theorem onO (H : List Entry) (id ver lo hi : Nat) : AV.oneIn H (.own id ver lo hi) = onE (H[id]?) ver := rfl
theorem onE_a (sz v ver : Nat) (xs : List AV) : onE (some (.arr sz v xs)) ver = (v == ver) := rfl
def onP (e : Option Entry) : Bool := match e with
  | some (.box _) => true
  | _ => false
theorem onPt (H : List Entry) (id off : Nat) : AV.oneIn H (.ptr id off) = onP (H[id]?) := rfl
theorem onP_b (cs : List AV) : onP (some (.box cs)) = true := rfl

/-- What a box holds may be told more weakly. -/
theorem WP.weakB {r : Option Nat} {N b : Nat} {ic : IC} {Q : Exit → St → Prop} {env : Env} {H : List Entry} (id : Nat) {cs : List AV} (cs' : List AV) (hH : H[id]? = some (.box cs)) (hw : Weaks cs cs') (h : WP S r N b ic Q ⟨env, H.set id (.box cs')⟩) : WP S r N b ic Q ⟨env, H⟩ := by
  refine WP.ghost ?_ h
  intro m I X w n0 a hs hfr
  refine ⟨m, I, .refl m, fun _ hb => hb, hs.retell (e1 := .box cs') hH rfl ?_, hfr⟩
  obtain ⟨e, arr, T, h1, h2, h3, h4, h5⟩ := hs.hok id _ hH
  exact ⟨e, arr, T, h1, h2, h3, h4, hw.rels h5⟩
theorem bsl_zero (H : List Entry) : evBslice H 8 1 (.agg [.int .i64 0, .list true [], .list true [], .int .i64 0, .list true [], .list true [], .list true [], .list true []])
    [(0, .agg [.int .i64 0, octs [], octs [], .int .i64 0, octs [], octs [], octs [], ints []])] = some (.own H.length 0 0 1, H ++ [.arr 8 0 [.agg [.int .i64 0, octs [], octs [], .int .i64 0, octs [], octs [], octs [], ints []]]]) := rfl
/-! ### Contracts laid into a table -/
noncomputable def Reg.of {c : Nat} {f : IFn} (ht : trFn S c = some f) (ask : List AV → Option Said) (ok : ∀ args r, ask args = some r → SaidOk S c args r) : Reg S := ⟨c, ask, fun a r h => ⟨Callable.of ht, ok a r h⟩⟩
open Classical in
noncomputable def ask0 (r : Said) : List AV → Option Said
  | [] => some r
  | _ => none
open Classical in
noncomputable def ask1 (p : AV → Prop) (r : AV → Said) : List AV → Option Said
  | [a] => if p a then some (r a) else none
  | _ => none
open Classical in
noncomputable def ask2 (p : AV → AV → Prop) (r : AV → AV → Said) : List AV → Option Said
  | [a, b] => if p a b then some (r a b) else none
  | _ => none
open Classical in
noncomputable def ask3 (p : AV → AV → AV → Prop) (r : AV → AV → AV → Said) : List AV → Option Said
  | [a, b, c] => if p a b c then some (r a b c) else none
  | _ => none
open Classical in
noncomputable def ask4 (p : AV → AV → AV → AV → Prop) (r : AV → AV → AV → AV → Said) : List AV → Option Said
  | [a, b, c, d] => if p a b c d then some (r a b c d) else none
  | _ => none
variable {c : Nat} {args : List AV} {x : Said}
theorem ask0_ok {r : Said} (h : SaidOk S c [] r) : ∀ args x, ask0 r args = some x → SaidOk S c args x := by
  intro args x hx
  unfold ask0 at hx
  split at hx
  · cases hx; exact h
  · cases hx
theorem ask1_ok {p : AV → Prop} {r : AV → Said} (h : ∀ a, p a → SaidOk S c [a] (r a)) : ∀ args x, ask1 p r args = some x → SaidOk S c args x := by
  intro args x hx
  unfold ask1 at hx
  split at hx
  · split at hx
    · rename_i hp; cases hx; exact h _ hp
    · cases hx
  · cases hx
theorem ask2_ok {p : AV → AV → Prop} {r : AV → AV → Said} (h : ∀ a b, p a b → SaidOk S c [a, b] (r a b)) : ∀ args x, ask2 p r args = some x → SaidOk S c args x := by
  intro args x hx
  unfold ask2 at hx
  split at hx
  · split at hx
    · rename_i hp; cases hx; exact h _ _ hp
    · cases hx
  · cases hx
theorem ask3_ok {p : AV → AV → AV → Prop} {r : AV → AV → AV → Said} (h : ∀ a b d, p a b d → SaidOk S c [a, b, d] (r a b d)) : ∀ args x, ask3 p r args = some x → SaidOk S c args x := by
  intro args x hx
  unfold ask3 at hx
  split at hx
  · split at hx
    · rename_i hp; cases hx; exact h _ _ _ hp
    · cases hx
  · cases hx
theorem ask4_ok {p : AV → AV → AV → AV → Prop} {r : AV → AV → AV → AV → Said} (h : ∀ a b d e, p a b d e → SaidOk S c [a, b, d, e] (r a b d e)) : ∀ args x, ask4 p r args = some x → SaidOk S c args x := by
  intro args x hx
  unfold ask4 at hx
  split at hx
  · split at hx
    · rename_i hp; cases hx; exact h _ _ _ _ hp
    · cases hx
  · cases hx
theorem ite_cl {α : Type} {p : Prop} {a b : α} {i : Decidable p} {j : Decidable p} : @ite α p i a b = @ite α p j a b := by cases Subsingleton.elim i j; rfl
theorem SaidOk.fn {v : AV} (h : Fun S c args v) : SaidOk S c args (.fn v) := h
theorem SaidOk.own {sz : Nat} {xs : List AV} (h : FunOwn S c args sz xs) (hx : ∀ x ∈ xs, ∀ y ∈ x.cells, Idb 0 y) : SaidOk S c args (.own sz xs) := ⟨h, h.val hx⟩

end Go.Proofs.YtihhinbjhiankaaGreatDoor.Al

namespace Go.Proofs.YtihhinbjhiankaaGreatDoor.Al
open Go
def fnT : List Nat := [0, 1, 2, 1000000, 1000000, 1000000, 1000000, 1000000, 1000000, 1000000, 1000000, 1000000, 1000000, 1000000, 115, 1000000, 1000000, 1000000, 1000000, 1000000, 1000000, 1000000, 1000000, 1000000, 153, 154, 155, 1000000, 1000000, 1000000, 1000000, 1000000, 1000000, 1000000, 1000000, 42, 1000000, 1000000, 1000000, 1000000, 98, 197, 198, 1000000, 1000000, 1000000, 1000000, 152, 217, 218, 229, 230, 231, 232, 233, 234, 145, 235, 236, 237, 238, 246, 247, 248, 249, 250, 195, 253, 256, 257, 258, 259, 260, 261, 262, 263, 264, 265, 266, 267, 268, 1000000, 269, 270, 1000000, 1000000, 1000000, 1000000, 1000000, 272, 1000000, 1000000, 1000000, 1000000, 1000000, 1000000, 1000000, 1000000, 1000000, 1000000, 13, 14, 38, 28, 29, 1000000, 23, 31, 35, 30, 12, 1000000, 40, 1000000, 41, 1000000, 19, 1000000, 1000000, 39, 1000000, 89, 43, 44, 45, 46, 73, 75, 74, 76, 61, 82, 83, 90, 88, 87, 1000000, 66, 1000000, 112, 91, 1000000, 94, 95, 92, 93, 96, 97, 129, 109, 110, 138, 60, 166, 167, 146, 86, 147, 148, 149, 150, 151, 63, 99, 163, 165, 196, 111, 271, 1000000, 1000000, 1000000, 1000000, 1000000, 1000000, 1000000, 1000000, 1000000, 1000000, 1000000, 1000000, 160, 108, 177, 127, 51, 79, 1000000, 68, 103, 242, 243, 56, 205, 58, 164, 121, 206, 69, 72, 179, 100, 131, 132, 78, 193, 116, 117, 118, 119, 120, 157, 158, 159, 176, 101, 219, 104, 106, 122, 128, 125, 130, 174, 175, 178, 199, 200, 201, 202, 203, 204, 156, 239, 161, 162, 1000000, 59, 71, 1000000, 1000000, 1000000, 105, 107, 123, 124, 126, 1000000, 1000000, 1000000, 1000000, 1000000, 1000000, 1000000, 53, 34, 1000000, 136, 182, 180, 181, 139, 140, 50, 189, 144, 81, 1000000, 209, 186, 184, 207, 208, 137, 187, 188, 194, 135, 220, 212, 185, 221, 240, 241, 274, 275, 276, 277, 278, 1000000, 1000000, 1000000, 1000000, 1000000, 1000000, 1000000, 1000000, 70, 1000000, 1000000, 1000000, 170, 1000000, 1000000, 1000000, 114, 1000000, 1000000, 1000000, 168, 171, 172, 173, 3, 4, 5, 6, 7, 8, 9, 10, 11, 15, 16, 17, 18, 20, 21, 22, 24, 25, 26, 27, 32, 33, 36, 37, 47, 48, 49, 52, 54, 55, 57, 62, 64, 65, 67, 77, 80, 84, 85, 102, 113, 133, 134, 141, 142, 143, 169, 183, 190, 191, 192, 210, 211, 213, 214, 215, 216, 222, 223, 224, 225, 226, 227, 228, 244, 245, 251, 252, 254, 255, 273]
def cfT : List Nat := [0, 1, 2, 313, 314, 315, 316, 317, 318, 319, 320, 321, 110, 100, 101, 322, 323, 324, 325, 116, 326, 327, 328, 106, 329, 330, 331, 332, 103, 104, 109, 107, 333, 334, 255, 108, 335, 336, 102, 119, 112, 114, 35, 122, 123, 124, 125, 337, 338, 339, 263, 185, 340, 254, 341, 342, 192, 343, 194, 237, 152, 130, 344, 162, 345, 346, 137, 347, 188, 198, 297, 238, 199, 126, 128, 127, 129, 348, 204, 186, 349, 266, 131, 132, 350, 351, 156, 135, 134, 121, 133, 140, 144, 145, 142, 143, 146, 147, 40, 163, 201, 215, 352, 189, 217, 242, 218, 243, 182, 149, 150, 167, 139, 353, 305, 14, 206, 207, 208, 209, 210, 196, 219, 244, 245, 221, 246, 184, 220, 148, 222, 202, 203, 354, 355, 277, 257, 273, 151, 261, 262, 356, 357, 358, 265, 56, 155, 157, 158, 159, 160, 161, 47, 24, 25, 26, 232, 211, 212, 213, 181, 234, 235, 164, 195, 165, 153, 154, 309, 359, 301, 310, 311, 312, 223, 224, 214, 183, 225, 200, 259, 260, 258, 360, 270, 280, 269, 274, 275, 264, 361, 362, 363, 205, 276, 66, 166, 41, 42, 226, 227, 228, 229, 230, 231, 193, 197, 271, 272, 268, 364, 365, 279, 366, 367, 368, 369, 48, 49, 216, 278, 281, 370, 371, 372, 373, 374, 375, 376, 50, 51, 52, 53, 54, 55, 57, 58, 59, 60, 233, 282, 283, 190, 191, 377, 378, 61, 62, 63, 64, 65, 379, 380, 67, 381, 382, 68, 69, 70, 71, 72, 73, 74, 75, 76, 77, 78, 79, 80, 82, 83, 168, 89, 383, 284, 285, 286, 287, 288]
def tyT : List Nat := [0, 1, 2, 3, 4, 5, 6, 7, 8, 9, 10, 11, 12, 13, 14, 15, 16, 17, 18, 19, 20, 21, 35, 26, 1000000, 1000000, 1000000, 1000000, 1000000, 1000000, 1000000, 1000000, 89, 1000000, 1000000, 1000000, 64, 1000000, 101, 1000000, 110, 1000000, 71, 34, 1000000, 1000000, 1000000, 109, 91, 92, 151, 1000000, 1000000, 1000000, 1000000, 1000000, 1000000, 1000000, 1000000, 1000000, 1000000, 90, 163, 67, 1000000, 1000000, 226, 1000000, 1000000, 1000000, 1000000, 1000000, 1000000, 150, 178, 179, 147, 55, 191, 192, 193, 194, 195, 196, 197, 172, 198, 199, 206, 207, 208, 209, 210, 211, 216, 217, 218, 220, 221, 222, 223, 224, 225, 227, 228, 229, 230, 231, 232, 233, 234, 235, 22, 23, 24, 25, 27, 42, 46, 47, 48, 49, 28, 31, 1000000, 53, 39, 1000000, 45, 52, 43, 58, 59, 100, 61, 62, 63, 36, 1000000, 60, 1000000, 81, 1000000, 139, 1000000, 65, 66, 86, 87, 88, 94, 99, 1000000, 102, 1000000, 1000000, 105, 106, 103, 104, 107, 108, 136, 140, 98, 148, 149, 95, 82, 162, 122, 120, 121, 135, 1000000, 1000000, 1000000, 84, 79, 80, 1000000, 201, 202, 1000000, 1000000, 74, 75, 153, 154, 129, 155, 85, 138, 161, 124, 125, 126, 127, 128, 115, 116, 111, 117, 118, 119, 133, 112, 180, 181, 182, 130, 137, 132, 134, 164, 165, 166, 167, 152, 1000000, 131, 32, 1000000, 51, 141, 123, 70, 93, 1000000, 168, 157, 158, 159, 212, 205, 29, 30, 33, 37, 38, 40, 41, 44, 50, 54, 56, 57, 68, 69, 72, 73, 76, 77, 78, 83, 96, 97, 113, 114, 142, 143, 144, 145, 146, 156, 160, 169, 170, 171, 173, 174, 175, 176, 177, 183, 184, 185, 186, 187, 188, 189, 190, 200, 203, 204, 213, 214, 215, 219]
def ctT : List Nat := [0, 1, 2, 3, 4, 5, 6, 7, 8, 9, 10, 11, 12, 13, 14, 15, 16, 17, 18, 19, 20, 21, 112, 113, 114, 115, 23, 116, 122, 235, 236, 123, 221, 237, 43, 22, 137, 238, 239, 126, 240, 241, 117, 130, 242, 128, 118, 119, 120, 121, 243, 223, 129, 125, 244, 77, 245, 246, 131, 132, 139, 134, 135, 136, 36, 145, 146, 63, 247, 248, 226, 42, 249, 250, 185, 186, 251, 252, 253, 178, 179, 141, 168, 254, 177, 191, 147, 148, 149, 32, 61, 48, 49, 227, 150, 167, 255, 256, 164, 151, 133, 38, 153, 158, 159, 156, 157, 160, 161, 47, 40, 201, 206, 257, 258, 199, 200, 202, 203, 204, 171, 172, 170, 225, 194, 195, 196, 197, 198, 189, 210, 220, 212, 205, 213, 173, 162, 211, 192, 143, 163, 224, 259, 260, 261, 262, 263, 76, 165, 166, 73, 50, 218, 187, 188, 190, 264, 230, 231, 232, 265, 193, 169, 62, 214, 215, 216, 217, 229, 266, 267, 268, 85, 269, 270, 271, 272, 273, 74, 75, 207, 208, 209, 274, 275, 276, 277, 278, 279, 280, 281, 78, 79, 80, 81, 82, 83, 84, 86, 87, 282, 181, 182, 283, 284, 234, 88, 89, 90, 91, 92, 93, 233, 285, 286, 287, 94, 95, 96, 288, 97, 98, 99, 100, 101, 102, 66, 103, 104, 105, 106, 107, 108, 109, 110, 111]
noncomputable def seat : Seat := { P := Tryz.prog, fn := fun c => fnT.getD c 1000000, ty := fun c => tyT.getD c 1000000, cf := fun c => cfT.getD c 1000000, ct := fun c => ctT.getD c 1000000, gl := [(1, Lib.deBruijn64tab)] }
end Go.Proofs.YtihhinbjhiankaaGreatDoor.Al

namespace Go.Proofs.YtihhinbjhiankaaGreatDoor.Al
open Go
theorem Shape.map {S : Seat} {t : TypeId} {α β : Type} {E : α → AV} {W : α → Prop} {F : β → AV} {V : β → Prop} (h : Shape S t E W) (f : α → β) (h1 : ∀ a, (F (f a)).cells = (E a).cells) (h2 : ∀ a, W a → V (f a)) : Shape S t F V := by
  intro H enc w base sp held fuel cs x hx hsz
  obtain ⟨a, ha, ht⟩ := h hx hsz
  exact ⟨f a, h2 a ha, by rw [h1]; exact ht⟩

theorem shapeInt : Shape seat 3 (AV.int .i64) In64 := Shape.int (k := .i64) (t := 3) (by kernel_rfl)
theorem shapeU8 : Shape seat 5 (AV.int .u8) (fun n => IntKind.u8.min ≤ n ∧ n ≤ IntKind.u8.max) := Shape.int (k := .u8) (t := 5) (by kernel_rfl)
theorem shapeOct : Shape seat 23 octs Oct := Shape.slice (t := 23) (e := 5) (sz := 1) (by kernel_rfl) (by kernel_rfl) (by decide) (fun _ => rfl) shapeU8
theorem shapeNums : Shape seat 35 ints Nums := Shape.slice (t := 35) (e := 3) (sz := 1) (by kernel_rfl) (by kernel_rfl) (by decide) (fun _ => rfl) shapeInt
theorem shapeLeaf : Shape seat 25 leafA Leaf.Ok := Shape.map (Shape.struct (t := 25) (fs := #[⟨"Enc", 23, 0, false, "", "", 0⟩, ⟨"Cred", 23, 1, false, "", "", 24⟩, ⟨"Source", 3, 2, false, "", "", 48⟩, ⟨"Parent", 23, 3, false, "", "", 56⟩]) (n := 4) (by kernel_rfl) (by kernel_rfl) (fun _ => rfl) (.cons (sz := 1) rfl (by kernel_rfl) (fun _ => rfl) shapeOct (.cons (sz := 1) rfl (by kernel_rfl) (fun _ => rfl) shapeOct (.cons (sz := 1) rfl (by kernel_rfl) (fun _ => rfl) shapeInt (.cons (sz := 1) rfl (by kernel_rfl) (fun _ => rfl) shapeOct (.nil _)))))) (fun p => ⟨p.1, p.2.1, p.2.2.1, p.2.2.2.1⟩) (fun _ => rfl) (fun _ h => ⟨h.1, h.2.1, h.2.2.2.1, h.2.2.1⟩)
theorem shapeInner : Shape seat 47 innerA Inner.Ok := Shape.map (Shape.struct (t := 47) (fs := #[⟨"Enc", 23, 0, false, "", "", 0⟩, ⟨"Hash", 23, 1, false, "", "", 24⟩, ⟨"Unmerged", 35, 2, false, "", "", 48⟩]) (n := 3) (by kernel_rfl) (by kernel_rfl) (fun _ => rfl) (.cons (sz := 1) rfl (by kernel_rfl) (fun _ => rfl) shapeOct (.cons (sz := 1) rfl (by kernel_rfl) (fun _ => rfl) shapeOct (.cons (sz := 1) rfl (by kernel_rfl) (fun _ => rfl) shapeNums (.nil _))))) (fun p => ⟨p.1, p.2.1, p.2.2.1⟩) (fun _ => rfl) (fun _ h => ⟨h.1, h.2.1, h.2.2.1⟩)
theorem shapeNode : Shape seat 49 nodeA Node.Ok := Shape.map (Shape.struct (t := 49) (fs := #[⟨"Kind", 3, 0, false, "", "", 0⟩, ⟨"Leaf", 25, 1, false, "", "", 8⟩, ⟨"Inner", 47, 5, false, "", "", 88⟩]) (n := 8) (by kernel_rfl) (by kernel_rfl) (fun _ => rfl) (.cons (sz := 1) rfl (by kernel_rfl) (fun _ => rfl) shapeInt (.cons (sz := 4) rfl (by kernel_rfl) (fun _ => rfl) shapeLeaf (.cons (sz := 3) rfl (by kernel_rfl) (fun _ => rfl) shapeInner (.nil _))))) (fun p => ⟨p.1, p.2.1, p.2.2.1⟩) (fun _ => rfl) (fun _ h => ⟨h.2.1, h.2.2.1, h.1⟩)
theorem shapeNodes : Shape seat 22 nodes Tree.Ok := Shape.slice (t := 22) (e := 49) (sz := 8) (by kernel_rfl) (by kernel_rfl) (by decide) (fun _ => rfl) shapeNode
end Go.Proofs.YtihhinbjhiankaaGreatDoor.Al

namespace Go.Proofs.YtihhinbjhiankaaGreatDoor.Al
open Go Go.RowKit
theorem g64_at : Tryz.prog.globalNamed "math/bits.deBruijn64tab" = some 1 := by kernel_rfl
theorem t64_at : (Tryz.prog.globals[1]?).map (·.type) = some 205 := by kernel_rfl
theorem tab64_eq : (Rows.laid_math_bits_deBruijn64tab : DataW Unit) = Lib.tabData .u8 (Lib.deBruijn64tab.map Int.ofNat) := by kernel_rfl
def laidL : List (String × DataW Unit) := [("math/bits.deBruijn32tab", Rows.laid_math_bits_deBruijn32tab), ("math/bits.deBruijn64tab", Rows.laid_math_bits_deBruijn64tab)]
theorem laid_gl {W : World} (h : laidMetH Tryz.prog laidL W) : GlOk seat (fun b => b < W.heap.size) W := by
  rw [MakeChecks.laidMetH_plain _ _ _ (by kernel_rfl)] at h
  obtain ⟨ps, ⟨g0, t0, cs0, f0, p0, q0, hg0, ht0, hv0, hd0, ⟨g1, t1, cs1, f1, p1, q1, hg1, ht1, hv1, hd1, _, _⟩, _⟩, _, _⟩ := h
  obtain rfl := Option.some.inj (g64_at.symm.trans hg1)
  obtain rfl := Option.some.inj (t64_at.symm.trans ht1)
  rw [tab64_eq] at hd1
  have hc := Lib.cells_of_tab (n := 64) (e := 5) (by kernel_rfl) (by kernel_rfl) (by kernel_rfl) (by kernel_rfl) hd1
  have hcell : ∀ j, j < Lib.deBruijn64tab.length → W.cell? ⟨1, j, none⟩ = some (.int .u8 (Lib.deBruijn64tab.getD j 0 : Nat)) := by
    intro j hj
    have := World.var?_cell hg1 hv1 j
    rw [this]
    have e : cs1.toList = (Lib.deBruijn64tab.map Int.ofNat).map fun z => Value.int .u8 z := hc
    rw [← Array.getElem?_toList, e]
    simp [List.getD_eq_getElem?_getD, hj]
  intro p hp
  have hp' : p = (1, Lib.deBruijn64tab) := by simpa [seat] using hp
  subst hp'
  refine ⟨?_, hcell⟩
  have h0 := hcell 0 (by decide)
  by_cases hlt : 1 < W.heap.size
  · exact hlt
  · exfalso
    have : W.heap[1]? = none := Array.getElem?_eq_none (by omega)
    simp [World.cell?, this] at h0
theorem door_met (os : Os) (args : Array Value) : laidMetH Tryz.prog laidL ((World.doorLaid Tryz.prog 400 os).forCall (fun _ _ => 0) ⟨#[], args, []⟩).memory :=
  laidMetH_of_parts3 (fuel := 8) (laidMet_of_run' 8 (by kernel_rfl) (by kernel_rfl)) (by kernel_rfl) (by kernel_rfl)
end Go.Proofs.YtihhinbjhiankaaGreatDoor.Al
