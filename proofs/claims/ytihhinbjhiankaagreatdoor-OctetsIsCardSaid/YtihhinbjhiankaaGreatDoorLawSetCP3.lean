/-
  JOINED: P5, D6, D7, D8, R, Seat, E2, E3, Ils, Lay, V1, N1, N2
-/
import Derived.Test.YtihhinbjhiankaaGreatDoorLawSetCP2
import Derived.Lib.TrailingZeros
import Derived.Test.YtihhinbjhiankaaGreatDoorRows
import Derived.ProofKit
import Derived.LaidMore
import Derived.OpenShut
import Derived.Stop.Joined
import Derived.MakeChecks
import Derived.Lib.LaidTab
import Derived.Shelf.Lays
import Derived.Shelf.Lays2
import Derived.Shelf.Lays7
set_option linter.unusedSimpArgs false
set_option linter.unusedVariables false
namespace Go.Proofs.YtihhinbjhiankaaGreatDoor.Al

def Small {α : Type} (l : List α) : Prop := l.length ≤ 140737488355328
def Oct (l : List Int) : Prop := Small l ∧ ∀ x ∈ l, IntKind.u8.min ≤ x ∧ x ≤ IntKind.u8.max
def Nums (l : List Int) : Prop := Small l ∧ ∀ x ∈ l, IntKind.i64.min ≤ x ∧ x ≤ IntKind.i64.max
def In64 (n : Int) : Prop := IntKind.i64.min ≤ n ∧ n ≤ IntKind.i64.max
structure Leaf.Ok (l : Leaf) : Prop where
  enc : Oct l.enc
  cred : Oct l.cred
  parent : Oct l.parent
  source : In64 l.source
structure Inner.Ok (l : Inner) : Prop where
  enc : Oct l.enc
  hash : Oct l.hash
  unmerged : Nums l.unmerged
structure Node.Ok (n : Node) : Prop where
  leaf : n.leaf.Ok
  inner : n.inner.Ok
  kind : In64 n.kind
def Tree.Ok (t : List Node) : Prop := Small t ∧ ∀ n ∈ t, n.Ok
def Leaf.zero : Leaf := ⟨[], [], 0, []⟩
def Inner.zero : Inner := ⟨[], [], []⟩
def Node.zero : Node := ⟨0, .zero, .zero⟩
theorem Oct.nil : Oct [] := ⟨Nat.zero_le _, fun _ h => by simp at h⟩
theorem Nums.nil : Nums [] := ⟨Nat.zero_le _, fun _ h => by simp at h⟩
theorem In64.zero : In64 0 := ⟨by decide, by decide⟩
theorem Oct.len {l : List Int} (h : Oct l) : l.length ≤ 140737488355328 := h.1
theorem Nums.len {l : List Int} (h : Nums l) : l.length ≤ 140737488355328 := h.1
theorem Leaf.Ok.zero : Leaf.zero.Ok := ⟨.nil, .nil, .nil, .zero⟩
theorem Inner.Ok.zero : Inner.zero.Ok := ⟨.nil, .nil, .nil⟩
theorem Node.Ok.zero : Node.zero.Ok := ⟨.zero, .zero, .zero⟩
theorem Tree.Ok.nil : Tree.Ok [] := ⟨Nat.zero_le _, fun _ h => by simp at h⟩
theorem Tree.Ok.len {t : List Node} (h : Tree.Ok t) : t.length ≤ 140737488355328 := h.1
theorem Tree.Ok.at {t : List Node} (h : Tree.Ok t) {k : Nat} (hk : k < t.length) : (t[k]).Ok := h.2 _ (List.getElem_mem hk)

def leafCheck (l : Leaf) : Int :=
  if l.enc.length = 0 then 5 else if l.enc.length > 200 ∨ l.cred.length > 200 ∨ l.parent.length > 200 then 4
  else if l.source < 1 ∨ l.source > 3 then 7 else if l.source ≠ 3 ∧ l.parent.length > 0 then 2 else 0
def innerCheck (n : Inner) : Int :=
  if n.enc.length = 0 then 5 else if n.enc.length > 200 ∨ n.hash.length > 200 ∨ n.unmerged.length > 64 then 4
  else if ∃ i ∈ n.unmerged, i < 0 ∨ i > 63 then 3 else if rise n.unmerged ≠ n.unmerged then 8 else 0
def nodeCheck (n : Node) : Int :=
  if n.kind < 0 ∨ n.kind > 2 then 7 else if n.kind ≠ 1 ∧ n.leaf ≠ .zero ∨ n.kind ≠ 2 ∧ n.inner ≠ .zero then 2
  else if n.kind = 1 then leafCheck n.leaf else if n.kind = 2 then innerCheck n.inner else 0

def idxF {α : Type} (p : α → Bool) (l : List α) : Int := if l.any p then (l.findIdx p : Int) else -1
theorem idxF_ge {α : Type} (p : α → Bool) (l : List α) : decide (idxF p l ≥ 0) = l.any p := by
  unfold idxF
  split
  · rename_i h; rw [h]; simp
  · rename_i h; simp at h; simp; exact h
theorem findIdx_at {α : Type} {p : α → Bool} {l : List α} {k : Nat} (hk : k < l.length) (h : p l[k] = true) (hno : ∀ j (hj : j < k), p (l[j]'(by omega)) = false) : idxF p l = k := by
  have ha : l.any p = true := List.any_eq_true.2 ⟨l[k], List.getElem_mem hk, h⟩
  unfold idxF
  rw [if_pos ha]
  congr 1
  rw [List.findIdx_eq hk]
  exact ⟨h, fun j hj => hno j hj⟩
theorem idxF_none {α : Type} {p : α → Bool} {l : List α} (hno : ∀ j (hj : j < l.length), p l[j] = false) : idxF p l = -1 := by
  unfold idxF
  rw [if_neg]
  intro h
  obtain ⟨x, hx, hp⟩ := List.any_eq_true.1 h
  obtain ⟨j, hj, rfl⟩ := List.getElem_of_mem hx
  rw [hno j hj] at hp; cases hp

theorem rises_iff_step {l : List Int} : Rises l ↔ ∀ j (h : j + 1 < l.length), l[j] < l[j + 1] := by
  constructor
  · intro h j hj
    exact List.pairwise_iff_getElem.1 h j (j + 1) (by omega) hj (by omega)
  · intro h
    refine List.pairwise_iff_getElem.2 fun i j hi hj hij => ?_
    induction j with
    | zero => omega
    | succ j ih =>
      have := h j hj
      rcases Nat.lt_or_ge i j with h1 | h1
      · have := ih (by omega) h1; omega
      · obtain rfl : i = j := by omega
        exact this
theorem rise_eq_iff {l : List Int} : rise l = l ↔ Rises l := ⟨fun h => by rw [← h]; exact rises_rise l, rise_of_rises⟩

end Go.Proofs.YtihhinbjhiankaaGreatDoor.Al

set_option linter.unusedSimpArgs false
set_option linter.unusedVariables false
namespace Go.Proofs.YtihhinbjhiankaaGreatDoor.Al
open Go
variable {S : Seat} {m m0 : List ME} {I I0 X X0 : Nat → Prop} {w w0 : World} {H : List Entry}

theorem Sim.retell (hs : Sim S m I X w H) {id : Nat} {e0 e1 : Entry} (hH : H[id]? = some e0) (hl : e1.live = e0.live) (hok : HOk S m I w id e1) : Sim S m I X w (H.set id e1) := by
  have hid := lt_of_get hH
  have live : ∀ {j : Nat} {e : Entry}, (H.set id e1)[j]? = some e → e.live = true → ∃ e', H[j]? = some e' ∧ e'.live = true := by
    intro j e hj hv
    by_cases h : j = id
    · subst h
      rw [List.getElem?_set_self hid] at hj; cases hj
      exact ⟨_, hH, by rw [← hl]; exact hv⟩
    · rw [List.getElem?_set_ne (Ne.symm h)] at hj; exact ⟨e, hj, hv⟩
  refine ⟨by simp [hs.len], fun j e hj => ?_, fun j e g hj hl hg hn => ?_, fun j j' e e' g g' hj hl hj' hl' hg hg' hn hn' hb => ?_, hs.lt, hs.disj, hs.gl⟩
  · by_cases h : j = id
    · subst h
      rw [List.getElem?_set_self hid] at hj; cases hj
      exact hok
    · rw [List.getElem?_set_ne (Ne.symm h)] at hj
      exact hs.hok j e hj
  · obtain ⟨e', h1, h2⟩ := live hj hl
    exact hs.sep j e' g h1 h2 hg hn
  · obtain ⟨e1, h1, h2⟩ := live hj hl
    obtain ⟨e2, h3, h4⟩ := live hj' hl'
    exact hs.inj j j' e1 e2 g g' h1 h2 h3 h4 hg hg' hn hn' hb
theorem WP.adoptB {r : Option Nat} {N b : Nat} {ic : IC} {Q : Exit → St → Prop} {env : Env} (id k sz : Nat) {cs : List AV} (hH : H[id]? = some (.box cs)) (hk : cs[k]? = some (.list true []))
    (h : WP S r N b ic Q ⟨env, H.set id (.box (cs.set k (.own H.length 0 0 0))) ++ [.arr sz 0 []]⟩) : WP S r N b ic Q ⟨env, H⟩ := by
  refine WP.ghost ?_ h
  intro m I X w n0 a hs hfr
  have hid := lt_of_get hH
  have hle := MLe.push m ⟨0, 0, sz, 0, true⟩
  have hget : (m ++ [(⟨0, 0, sz, 0, true⟩ : ME)])[H.length]? = some ⟨0, 0, sz, 0, true⟩ := by
    rw [← hs.len, List.getElem?_append_right (Nat.le_refl _), Nat.sub_self]; rfl
  have hp : Sim S (m ++ [⟨0, 0, sz, 0, true⟩]) I X w (H ++ [.arr sz 0 []]) := hs.push (fun _ _ => rfl) (Nat.le_refl _) (by simp) ⟨_, hget, rfl, rfl, by simp, by simp, by simp, .inl ⟨rfl, rfl⟩⟩
  have hH2 : (H ++ [Entry.arr sz 0 []])[id]? = some (.box cs) := by rw [List.getElem?_append_left hid]; exact hH
  refine ⟨m ++ [⟨0, 0, sz, 0, true⟩], I, hle, fun _ hb => hb, ?_, hfr.mono hle (fun _ hb => hb) (.refl I X w)⟩
  have := hp.retell (e1 := .box (cs.set k (.own H.length 0 0 0))) hH2 rfl ?_
  · rwa [List.set_append_left _ _ hid] at this
  · obtain ⟨e, arr, T, h1, h2, h3, h4, h5⟩ := hp.hok id _ hH2
    refine ⟨e, arr, T, h1, h2, h3, h4, by rw [List.length_set]; exact h5.1, fun i x hx => ?_⟩
    by_cases hi : i = k
    · subst hi
      rw [List.getElem?_set_self (lt_of_get hk)] at hx; cases hx
      have this := h5.2 i _ hk
      generalize arr.getD i undef = v at this
      cases this with
      | empty _ a c ht hc =>
        have := ht rfl
        subst this
        exact .own _ _ _ _ _ _ hget (Nat.le_refl _) (fun _ => ⟨Nat.le_refl _, by simp, .inl ⟨rfl, rfl, a, rfl⟩⟩)
      | list _ _ b off n c sz rd hn hnc hcm ht hI hsz hc hr =>
        simp at hn; subst hn
        have := ht rfl
        subst this
        exact .own _ _ _ _ _ _ hget (Nat.le_refl _) (fun _ => ⟨Nat.le_refl _, by simp, .inl ⟨rfl, rfl, _, rfl⟩⟩)
    · rw [List.getElem?_set_ne (Ne.symm hi)] at hx
      exact h5.2 i x hx

theorem WP.derefB {r : Option Nat} {N b : Nat} {ic : IC} {Q : Exit → St → Prop} {env : Env} (id k : Nat) {cs : List AV} (hH : H[id]? = some (.box cs))
    (h : WP S r N b ic Q ⟨env, H.set id (.box (cs.map (derefN H k)))⟩) : WP S r N b ic Q ⟨env, H⟩ := by
  refine WP.ghost ?_ h
  intro m I X w n0 a hs hfr
  refine ⟨m, I, .refl m, fun _ hb => hb, hs.retell (e1 := .box (cs.map (derefN H k))) hH rfl ?_, hfr⟩
  obtain ⟨e, arr, T, h1, h2, h3, h4, h5⟩ := hs.hok id _ hH
  refine ⟨e, arr, T, h1, h2, h3, h4, by rw [List.length_map]; exact h5.1, fun i x hx => ?_⟩
  rw [List.getElem?_map] at hx
  cases hc : cs[i]? with
  | none => rw [hc] at hx; cases hx
  | some y => rw [hc] at hx; cases hx; exact derefN_sound hs k (h5.2 i y hc)

end Go.Proofs.YtihhinbjhiankaaGreatDoor.Al

set_option linter.unusedSimpArgs false
set_option linter.unusedVariables false
namespace Go.Proofs.YtihhinbjhiankaaGreatDoor.Al
open Go
variable {S : Seat}

def GivesL (S : Seat) (c : Nat) (cap : List AV) (xs : List (List AV)) : Prop :=
  ∀ (id : Nat) (H0 : List Entry) (J : Nat → List Entry → Prop) (Jx : List Entry → Prop), J 0 H0 →
    (∀ k (hk : k < xs.length) H1, J k H1 → AYield S id xs[k] H1 (fun r H2 => (r = .bool true ∧ J (k + 1) H2) ∨ (r = .bool false ∧ Jx H2))) →
    ACall S c ([.func (.y id) [] []] ++ cap) H0 (fun _ H' => J xs.length H' ∨ Jx H')

theorem GivesL.of {c : Nat} {cap xs : List AV} (h : Gives S c cap xs) : GivesL S c cap (xs.map fun x => [x]) := by
  intro id H0 J Jx h0 hr
  refine (h id H0 J Jx h0 fun k hk H1 hj => ?_).mono fun r H' hh => by simpa using hh
  have := hr k (by simpa using hk) H1 hj
  rwa [List.getElem_map] at this

def RoundQ (G : Nat → List Entry) (P : Nat → Prop) (n : Nat) (Q : Exit → St → Prop) (env : Env) (k : Nat) (T : List Entry) (e : Exit) (st : St) : Prop :=
  ∃ H2 T2, st.H = H2 ++ T2 ∧ H2.length = n ∧ (∀ i, i < T.length → T2[i]? = T[i]?) ∧ match e with
    | .normal => P (k + 1) ∧ H2 = G (k + 1)
    | e => ∃ j, jumped e = some j ∧ ∀ T3, Q j.leave ⟨env, H2 ++ T3⟩

theorem WP.rangeL {N b : Nat} {Q : Exit → St → Prop} {H : List Entry} {env : Env} {g : Opd} {ps : List Nat} {assign body : IC} {c : Nat} {cap : List AV} (xs : List (List AV)) (hg : g.ev env = .func (.f c) [] cap) (hcb : Callable S c) (hG : GivesL S c cap xs)
    (hps : ∀ x ∈ xs, x.length = ps.length) (G : Nat → List Entry) (P : Nat → Prop) (hlen : ∀ k, (G k).length = H.length) (hP : P 0) (h0 : G 0 = H)
    (hround : ∀ k (hk : k < xs.length), P k → ∀ (l : Nat) (T : List Entry) (b : Nat), b = H.length + T.length → WP S (some l) N b assign (fun e st => e = .normal ∧ ∃ X, st.H = G k ++ (T ++ X) ∧
      ∀ T', T'.length = T.length → WP S (some l) N b body (RoundQ G P H.length Q env k T') ⟨st.env, G k ++ (T' ++ X)⟩) ⟨setPs env ps xs[k], G k ++ T⟩)
    (hend : P xs.length → ∀ T, Q .normal ⟨env, G xs.length ++ T⟩) : WP S none N b (.rangeFunc g ps assign body) Q ⟨env, H⟩ := by
  refine WP.range (first := []) hg hcb fun L hy => ?_
  have getT : ∀ (A T : List Entry), A.length = H.length → (A ++ T)[H.length]? = T[0]? := fun A T h => by
    rw [List.getElem?_append_right (by omega), h, Nat.sub_self]
  have setT : ∀ (A T : List Entry) (x : Entry), A.length = H.length → (A ++ T).set H.length x = A ++ T.set 0 x := fun A T x h => by
    rw [List.set_append_right _ _ (by omega), h, Nat.sub_self]
  refine (hG H.length _ (fun k H1 => P k ∧ ∃ T, H1 = G k ++ T ∧ T[0]? = some (L .ready)) (fun H1 => ∃ j H2 T, H1 = H2 ++ T ∧ H2.length = H.length ∧ T[0]? = some (L (.done j)) ∧ ∀ T3, Q j.leave ⟨env, H2 ++ T3⟩) ⟨hP, [L .ready], by rw [h0], rfl⟩ ?_).mono ?_
  · rintro k hk H1 ⟨hp, T, rfl, hT⟩
    have hT0 : 0 < T.length := lt_of_get hT
    refine hy _ _ _ ⟨by rw [getT _ _ (hlen k)]; exact hT, hps _ (List.getElem_mem hk), fun l => ?_⟩
    refine WP.mono (hround k hk hp l T _ (by simp [hlen])) ?_
    rintro e st ⟨rfl, X, hH, hbody⟩
    have hTX : (T ++ X)[0]? = T[0]? := List.getElem?_append_left hT0
    have hTS : ∀ x, (T ++ X).set 0 x = T.set 0 x ++ X := fun x => by rw [List.set_append_left _ _ hT0]
    refine ⟨rfl, by rw [hH, getT _ _ (hlen k), hTX]; exact hT, ?_⟩
    rw [hH, setT _ _ _ (hlen k), hTS]
    have hb := hbody (T.set 0 (L .busy)) (by simp)
    refine WP.mono hb ?_
    rintro e' st' ⟨H2, T2, h1, h2, h3, h4⟩
    have hbz : T2[0]? = some (L .busy) := by
      rw [h3 0 (by simpa using hT0), List.getElem?_set_self hT0]
    refine ⟨by rw [h1, getT _ _ h2]; exact hbz, ?_⟩
    have hl2 := lt_of_get hbz
    cases e' with
    | normal =>
      obtain ⟨h5, rfl⟩ := h4
      exact .inl ⟨rfl, h5, T2.set 0 (L .ready), by rw [h1, setT _ _ _ h2], List.getElem?_set_self hl2⟩
    | _ =>
      obtain ⟨j, h5, h6⟩ := h4
      exact ⟨j, h5, .inr ⟨rfl, j, H2, T2.set 0 (L (.done j)), by rw [h1, setT _ _ _ h2], h2, List.getElem?_set_self hl2, h6⟩⟩
  · rintro r H' (⟨hp, T, rfl, hT⟩ | ⟨j, H2, T, rfl, h2, hT, hq⟩)
    · refine .inl ⟨by rw [getT _ _ (hlen _)]; exact hT, ?_⟩
      rw [setT _ _ _ (hlen _)]
      exact hend hp _
    · refine .inr ⟨j, by rw [getT _ _ h2]; exact hT, ?_⟩
      rw [setT _ _ _ h2]
      exact hq _

end Go.Proofs.YtihhinbjhiankaaGreatDoor.Al

set_option linter.unusedSimpArgs false
set_option linter.unusedVariables false
namespace Go.Proofs.YtihhinbjhiankaaGreatDoor.Al
open Go
variable {S : Seat} {T : List (Reg S)} {H : List Entry}

def IOp.free : IOp → Bool
  | .mv _ | .pick _ _ _ | .bin _ _ _ _ | .un _ _ | .convI _ _ | .mkfunc _ _ _ | .extract _ _ | .min _ | .max _ | .lenS _ | .lenA _ | .field _ _ _ _ | .idxA _ _ _ _ _ | .mkiface _ _ | .tassert _ _ => true
  | _ => false
theorem free_ev {op : IOp} (h : op.free = true) {env : Env} {v : AV} {H' : List Entry} (he : evalOp op env H = some (v, H')) : ∀ G, evalOp op env G = some (v, G) := by
  cases op <;> first
    | (cases h; done)
    | skip
  all_goals intro G; simp only [evalOp] at he ⊢
  all_goals repeat' split at he
  all_goals (try simp only [Option.map_eq_some_iff, Prod.mk.injEq] at he ⊢)
  all_goals grind

structure Pend where
  hi : Nat
  op : IOp
  env : Env
  v : AV
def pendOk (k : Nat) (G : List Entry) : List Pend → Prop
  | [] => True
  | r :: rs => (k ≤ r.hi → evalOp r.op r.env G = some (r.v, G)) ∧ pendOk k G rs
def pastOk (lo i : Nat) (op : IOp) (env : Env) (v : AV) : List (List Entry) → Prop
  | [] => True
  | G :: Gs => (lo ≤ i → evalOp op env G = some (v, G)) ∧ pastOk lo (i + 1) op env v Gs

def fnD (S : Seat) (a : Option Said) (f : AV) (xs : List AV) (K : AV → Prop) : Prop := match a with
  | some (.fn v) => K v
  | some (.own _ ys) => K (.list false ys)
  | none => ∃ v, (∀ G, CallF S f xs G v) ∧ K v
def callL (S : Seat) (T : List (Reg S)) (f : AV) (xs : List AV) (K : AV → Prop) : Prop := match f with
  | .func (.f c) first cap => fnD S (tab T c (first ++ xs ++ cap)) (.func (.f c) first cap) xs K
  | f => ∃ v, (∀ G, CallF S f xs G v) ∧ K v
def callH (S : Seat) (T : List (Reg S)) (f : AV) (xs : List AV) (H : List Entry) (K : AV → List Entry → Prop) : Prop := match f with
  | .func (.f c) first cap => (match tab T c (first ++ xs ++ cap) with
    | some (.own sz ys) => K (.own H.length 0 0 ys.length) (H ++ [.arr sz 0 ys])
    | _ => False)
  | _ => False
def lightD (op : IOp) (env : Env) (r : Option (AV × List Entry)) (H : List Entry) (K : AV → Prop) : Prop := match r with
  | some (v, H') => H' = H ∧ (op.free = true ∨ ∀ G, evalOp op env G = some (v, G)) ∧ K v
  | none => False
def litE (op : IOp) (env : Env) (r : Option Entry) (K : AV → Prop) : Prop := match r with
  | some (.arr sz _ xs) => (∀ G : List Entry, evalOp op env G = some (.own G.length 0 0 xs.length, G ++ [.arr sz 0 xs])) ∧ (∀ x ∈ xs, ∀ y ∈ x.cells, Idb 0 y) ∧ K (.list false xs)
  | _ => False
def litD (op : IOp) (env : Env) (r : Option (AV × List Entry)) (H : List Entry) (K : AV → Prop) : Prop := match r with
  | some (.own _ _ _ n, H') => litE op env (H'[H.length]?) K
  | _ => False
def readD (lo hi k : Nat) (op : IOp) (env : Env) (r : Option (AV × List Entry)) (H : List Entry) (Ps : List (List Entry)) (K : AV → Pend → Prop) : Prop := match r with
  | some (v, H') => H' = H ∧ lo ≤ k ∧ k ≤ hi ∧ pastOk lo 0 op env v Ps ∧ K v ⟨hi, op, env, v⟩
  | none => False
def heavyD (r : Option (AV × List Entry)) (k : Nat) (rs : List Pend) (K : AV → List Entry → Prop) : Prop := match r with
  | some (v, H') => pendOk (k + 1) H' rs ∧ K v H'
  | none => False
def stepL (S : Seat) (T : List (Reg S)) (op : IOp) (env : Env) (H : List Entry) (K : AV → Prop) : Prop := match op with
  | .call f xs => callL S T (f.ev env) (xs.map (Opd.ev env)) K
  | .invoke _ _ _ => False
  | .bslice esz len z parts => litD (.bslice esz len z parts) env (evalOp (.bslice esz len z parts) env H) H K
  | op => lightD op env (evalOp op env H) H K
def stepH (S : Seat) (T : List (Reg S)) (op : IOp) (env : Env) (H : List Entry) (k : Nat) (rs : List Pend) (K : AV → List Entry → Prop) : Prop := match op with
  | .call f xs => callH S T (f.ev env) (xs.map (Opd.ev env)) H fun v H' => pendOk (k + 1) H' rs ∧ K v H'
  | op => heavyD (evalOp op env H) k rs K
def drawW (S : Seat) (T : List (Reg S)) : List IOper → List Lab → Nat → List (List Entry) → List Pend → (St → Prop) → St → Prop
  | [], _, _, _, _, Q, st => Q st
  | _ :: _, [], _, _, _, _, _ => False
  | ⟨d, op, g, _⟩ :: l, b :: labs, k, Ps, rs, Q, st => match gdec st.env g with
    | some true => (match b with
      | .l => stepL S T op st.env st.H fun v => drawW S T l labs k Ps rs Q ⟨updo st.env d v, st.H⟩
      | .g lo hi => readD lo hi k op st.env (evalOp op st.env st.H) st.H Ps fun v p => drawW S T l labs k Ps (p :: rs) Q ⟨updo st.env d v, st.H⟩
      | .h r => r = k ∧ stepH S T op st.env st.H k rs fun v H' => drawW S T l labs (k + 1) (Ps ++ [st.H]) rs Q ⟨updo st.env d v, H'⟩)
    | some false => drawW S T l labs k Ps rs Q ⟨updo st.env d (.tup []), st.H⟩
    | none => False

theorem stepL_does {op : IOp} {env : Env} {K : AV → Prop} (h : stepL S T op env H K) : ∃ v, K v ∧ ∀ G, Does S op env G v G := by
  have gen : ∀ op : IOp, lightD op env (evalOp op env H) H K → ∃ v, K v ∧ ∀ G, Does S op env G v G := by
    intro op h
    unfold lightD at h
    split at h
    · rename_i v H' he
      obtain ⟨rfl, h1, h2⟩ := h
      refine ⟨v, h2, fun G => .ev ?_⟩
      rcases h1 with h1 | h1
      · exact free_ev h1 he G
      · exact h1 G
    · exact h.elim
  cases op with
  | call f xs =>
    simp only [stepL] at h
    unfold callL at h
    split at h
    · rename_i c first cap hfe
      unfold fnD at h
      split at h
      · rename_i v hv
        obtain ⟨hc, ha⟩ := tab_ok hv
        exact ⟨_, h, fun G => .call hfe hc (ha G)⟩
      · rename_i sz ys hv
        obtain ⟨hc, ha⟩ := tab_ok hv
        exact ⟨_, h, fun G => .call hfe hc (ha.2 G)⟩
      · obtain ⟨v, h1, h2⟩ := h
        exact ⟨v, h2, fun G => by
          obtain ⟨c', f', cp', e, hc, ha⟩ := h1 G
          exact .call (by rw [hfe]; exact e) hc ha⟩
    · obtain ⟨v, h1, h2⟩ := h
      exact ⟨v, h2, fun G => by
        obtain ⟨c', f', cp', e, hc, ha⟩ := h1 G
        exact .call e hc ha⟩
  | invoke f nm xs => exact h.elim
  | bslice esz len z parts =>
    simp only [stepL] at h
    unfold litD at h
    split at h
    · unfold litE at h
      split at h
      · obtain ⟨h1, h2, h3⟩ := h
        exact ⟨_, h3, fun G => .lit (h1 G) fun x hx y hy => (h2 x hx y hy).more (Nat.zero_le _)⟩
      · exact h.elim
    · exact h.elim
  | mv x0 => exact gen (.mv x0) h
  | pick x0 x1 x2 => exact gen (.pick x0 x1 x2) h
  | bin x0 x1 x2 x3 => exact gen (.bin x0 x1 x2 x3) h
  | un x0 x1 => exact gen (.un x0 x1) h
  | convI x0 x1 => exact gen (.convI x0 x1) h
  | mkfunc x0 x1 x2 => exact gen (.mkfunc x0 x1 x2) h
  | extract x0 x1 => exact gen (.extract x0 x1) h
  | min x0 => exact gen (.min x0) h
  | max x0 => exact gen (.max x0) h
  | lenS x0 => exact gen (.lenS x0) h
  | lenA x0 => exact gen (.lenA x0) h
  | field x0 x1 x2 x3 => exact gen (.field x0 x1 x2 x3) h
  | idxA x0 x1 x2 x3 x4 => exact gen (.idxA x0 x1 x2 x3 x4) h
  | mkiface x0 x1 => exact gen (.mkiface x0 x1) h
  | tassert x0 x1 => exact gen (.tassert x0 x1) h
  | alloc x0 => exact gen (.alloc x0) h
  | box x0 => exact gen (.box x0) h
  | store x0 x1 x2 => exact gen (.store x0 x1 x2) h
  | mkslice x0 x1 x2 x3 x4 => exact gen (.mkslice x0 x1 x2 x3 x4) h
  | append x0 x1 x2 x3 => exact gen (.append x0 x1 x2 x3) h
  | appendZ x0 x1 x2 x3 x4 => exact gen (.appendZ x0 x1 x2 x3 x4) h
  | copy x0 x1 x2 => exact gen (.copy x0 x1 x2) h
  | clear x0 x1 x2 => exact gen (.clear x0 x1 x2) h
  | build x0 x1 => exact gen (.build x0 x1) h
  | load x0 x1 x2 => exact gen (.load x0 x1 x2) h
  | nilck x0 => exact gen (.nilck x0) h
  | isnil x0 x1 x2 => exact gen (.isnil x0 x1 x2) h
  | convS x0 => exact gen (.convS x0) h
  | slice x0 x1 x2 x3 x4 => exact gen (.slice x0 x1 x2 x3 x4) h
  | faddr x0 x1 => exact gen (.faddr x0 x1) h
  | iaddr x0 x1 x2 => exact gen (.iaddr x0 x1 x2) h
  | iaddrA x0 x1 x2 x3 => exact gen (.iaddrA x0 x1 x2 x3) h
  | len x0 => exact gen (.len x0) h
theorem stepH_does {op : IOp} {env : Env} {k : Nat} {rs : List Pend} {K : AV → List Entry → Prop} (h : stepH S T op env H k rs K) : ∃ v H', K v H' ∧ pendOk (k + 1) H' rs ∧ Does S op env H v H' := by
  have gen : ∀ op : IOp, heavyD (evalOp op env H) k rs K → ∃ v H', K v H' ∧ pendOk (k + 1) H' rs ∧ Does S op env H v H' := by
    intro op h
    unfold heavyD at h
    split at h
    · rename_i v H' he
      exact ⟨v, H', h.2, h.1, .ev he⟩
    · exact h.elim
  cases op with
  | call f xs =>
    simp only [stepH] at h
    unfold callH at h
    split at h
    · rename_i c first cap hfe
      split at h
      · rename_i sz ys hv
        obtain ⟨hc, ha⟩ := tab_ok hv
        exact ⟨_, _, h.2, h.1, .call hfe hc (ha.1 H)⟩
      · exact h.elim
    · exact h.elim
  | invoke f nm xs => exact gen (.invoke f nm xs) h
  | mv x0 => exact gen (.mv x0) h
  | pick x0 x1 x2 => exact gen (.pick x0 x1 x2) h
  | bin x0 x1 x2 x3 => exact gen (.bin x0 x1 x2 x3) h
  | un x0 x1 => exact gen (.un x0 x1) h
  | convI x0 x1 => exact gen (.convI x0 x1) h
  | mkfunc x0 x1 x2 => exact gen (.mkfunc x0 x1 x2) h
  | extract x0 x1 => exact gen (.extract x0 x1) h
  | min x0 => exact gen (.min x0) h
  | max x0 => exact gen (.max x0) h
  | lenS x0 => exact gen (.lenS x0) h
  | lenA x0 => exact gen (.lenA x0) h
  | field x0 x1 x2 x3 => exact gen (.field x0 x1 x2 x3) h
  | idxA x0 x1 x2 x3 x4 => exact gen (.idxA x0 x1 x2 x3 x4) h
  | mkiface x0 x1 => exact gen (.mkiface x0 x1) h
  | tassert x0 x1 => exact gen (.tassert x0 x1) h
  | alloc x0 => exact gen (.alloc x0) h
  | box x0 => exact gen (.box x0) h
  | bslice x0 x1 x2 x3 => exact gen (.bslice x0 x1 x2 x3) h
  | store x0 x1 x2 => exact gen (.store x0 x1 x2) h
  | mkslice x0 x1 x2 x3 x4 => exact gen (.mkslice x0 x1 x2 x3 x4) h
  | append x0 x1 x2 x3 => exact gen (.append x0 x1 x2 x3) h
  | appendZ x0 x1 x2 x3 x4 => exact gen (.appendZ x0 x1 x2 x3 x4) h
  | copy x0 x1 x2 => exact gen (.copy x0 x1 x2) h
  | clear x0 x1 x2 => exact gen (.clear x0 x1 x2) h
  | build x0 x1 => exact gen (.build x0 x1) h
  | load x0 x1 x2 => exact gen (.load x0 x1 x2) h
  | nilck x0 => exact gen (.nilck x0) h
  | isnil x0 x1 x2 => exact gen (.isnil x0 x1 x2) h
  | convS x0 => exact gen (.convS x0) h
  | slice x0 x1 x2 x3 x4 => exact gen (.slice x0 x1 x2 x3 x4) h
  | faddr x0 x1 => exact gen (.faddr x0 x1) h
  | iaddr x0 x1 x2 => exact gen (.iaddr x0 x1 x2) h
  | iaddrA x0 x1 x2 x3 => exact gen (.iaddrA x0 x1 x2 x3) h
  | len x0 => exact gen (.len x0) h
theorem pastOk_get {lo : Nat} {op : IOp} {env : Env} {v : AV} : ∀ {Ps : List (List Entry)} {i : Nat}, pastOk lo i op env v Ps → ∀ j G, Ps[j]? = some G → lo ≤ i + j → evalOp op env G = some (v, G)
  | [], _, _, j, G, h, _ => by simp at h
  | G0 :: Ps, i, h, 0, G, hj, hl => by simp at hj; subst hj; exact h.1 (by omega)
  | G0 :: Ps, i, h, j + 1, G, hj, hl => pastOk_get (i := i + 1) h.2 j G (by simpa using hj) (by omega)
theorem pendOk_get {k : Nat} {G : List Entry} : ∀ {rs : List Pend}, pendOk k G rs → ∀ r ∈ rs, k ≤ r.hi → evalOp r.op r.env G = some (r.v, G)
  | r0 :: rs, h, r, hr, hk => by
    rcases List.mem_cons.1 hr with rfl | hr
    · exact h.1 hk
    · exact pendOk_get h.2 r hr hk

theorem drawW_run : ∀ {l : List IOper} {labs : List Lab} {k : Nat} {Ps : List (List Entry)} {rs : List Pend} {Q : St → Prop} {env : Env} {H : List Entry}, Ps.length = k → labs.length = l.length → drawW S T l labs k Ps rs Q ⟨env, H⟩ →
    ∃ (hs : List (List Entry)) (E : Env) (HK : List Entry), (H :: hs)[hs.length]? = some HK ∧ Q ⟨E, HK⟩ ∧ (∀ r ∈ rs, ∀ i G, hs[i]? = some G → k + 1 + i ≤ r.hi → evalOp r.op r.env G = some (r.v, G)) ∧
      ∀ Hs : Nat → List Entry, (∀ i G, (Ps ++ H :: hs)[i]? = some G → Hs i = G) → DR S Hs (k + hs.length) l labs env k E
  | [], [], k, Ps, rs, Q, env, H, hP, _, h => ⟨[], env, H, rfl, (by simpa only [drawW] using h), fun r _ i G hi => by simp at hi, fun Hs _ => .nil⟩
  | ⟨d, op, g, aft⟩ :: l, b :: labs, k, Ps, rs, Q, env, H, hP, hL, h => by
    have hL' : labs.length = l.length := by simpa using hL
    simp only [drawW] at h
    split at h
    · rename_i hg
      split at h
      · obtain ⟨v, hK, hd⟩ := stepL_does h
        obtain ⟨hs, E, HK, k1, k2, k3, k4⟩ := drawW_run hP hL' hK
        refine ⟨hs, E, HK, k1, k2, k3, fun Hs hh => ?_⟩
        obtain ⟨tr, ht⟩ := k4 Hs hh
        exact ⟨_, .light hg (fun j _ => hd (Hs j)) ht⟩
      · rename_i lo hi
        unfold readD at h
        split at h
        · rename_i v H' he
          obtain ⟨rfl, h1, h2, h3, hK⟩ := h
          obtain ⟨hs, E, HK, k1, k2, k3, k4⟩ := drawW_run hP hL' hK
          refine ⟨hs, E, HK, k1, k2, fun r hr => k3 r (List.mem_cons_of_mem _ hr), fun Hs hh => ?_⟩
          obtain ⟨tr, ht⟩ := k4 Hs hh
          refine ⟨_, .fixed hg h1 h2 (fun j ja jb jk => .ev ?_) ht⟩
          rcases Nat.lt_trichotomy j k with hj | hj | hj
          · have hg' : Ps[j]? = some Ps[j] := List.getElem?_eq_getElem (by omega)
            rw [hh j Ps[j] (by rw [List.getElem?_append_left (by omega)]; exact hg')]
            exact pastOk_get h3 j _ hg' (by omega)
          · subst hj
            rw [hh j _ (by rw [List.getElem?_append_right (by omega), hP, Nat.sub_self]; rfl)]
            exact he
          · have hl : j - k - 1 < hs.length := by omega
            obtain ⟨i, rfl⟩ : ∃ i, j = k + 1 + i := ⟨j - k - 1, by omega⟩
            have hg' : hs[i]? = some (hs[i]'(by omega)) := List.getElem?_eq_getElem (by omega)
            rw [hh (k + 1 + i) (hs[i]'(by omega)) (by rw [List.getElem?_append_right (by omega), hP, show k + 1 + i - k = i + 1 by omega, List.getElem?_cons_succ]; exact hg')]
            exact k3 ⟨hi, op, env, v⟩ (by simp) i _ hg' (show k + 1 + i ≤ hi by omega)
        · exact h.elim
      · rename_i r
        obtain ⟨rfl, h⟩ := h
        obtain ⟨v, H', hK, hp, hd⟩ := stepH_does h
        obtain ⟨hs, E, HK, k1, k2, k3, k4⟩ := drawW_run (by simp [hP]) hL' hK
        refine ⟨H' :: hs, E, HK, by simpa using k1, k2, fun p hp' i G hi hle => ?_, fun Hs hh => ?_⟩
        · cases i with
          | zero => simp at hi; subst hi; exact pendOk_get hp p hp' (by omega)
          | succ i => exact k3 p hp' i G (by simpa using hi) (by omega)
        · obtain ⟨tr, ht⟩ := k4 Hs fun i G hi => hh i G (by rw [List.append_assoc] at hi; exact hi)
          have h0 : Hs r = H := hh r H (by rw [List.getElem?_append_right (by omega), hP, Nat.sub_self]; rfl)
          have h1 : Hs (r + 1) = H' := hh (r + 1) H' (by rw [List.getElem?_append_right (by omega), hP, show r + 1 - r = 1 by omega]; rfl)
          rw [show r + (H' :: hs).length = r + 1 + hs.length by simp; omega]
          exact ⟨_, .heavy hg (by rw [h0, h1]; exact hd) ht⟩
    · rename_i hg
      obtain ⟨hs, E, HK, k1, k2, k3, k4⟩ := drawW_run hP hL' h
      refine ⟨hs, E, HK, k1, k2, k3, fun Hs hh => ?_⟩
      obtain ⟨tr, ht⟩ := k4 Hs hh
      exact ⟨_, .skip hg ht⟩
    · exact h.elim

theorem WP.drawQ (T : List (Reg S)) (labs : List Lab) {r : Option Nat} {N b : Nat} {Q : Exit → St → Prop} {l : List IOper} {env : Env} (hmx : S.P.follows .mixedOrders = true) (hchk : (drawOk l labs && labs.length == l.length) = true)
    (h : drawW S T l labs 0 [] [] (Q .normal) ⟨env, H⟩) : WP S r N b (.region l true) Q ⟨env, H⟩ := by
  simp only [Bool.and_eq_true, beq_iff_eq] at hchk
  obtain ⟨hs, E, HK, k1, k2, k3, k4⟩ := drawW_run (k := 0) (Ps := []) rfl hchk.2 h
  refine WP.drawE hmx labs hchk.1 (fun i => ((H :: hs)[i]?).getD []) hs.length (E := E) rfl ?_ ?_
  · rw [k1]; exact k2
  · have := k4 (fun i => ((H :: hs)[i]?).getD []) fun i G hi => by rw [List.nil_append] at hi; rw [hi]; rfl
    rwa [Nat.zero_add] at this

/-! ### Rules -/
variable {env : Env} {d : Option Nat} {op : IOp} {l : List IOper} {Q : St → Prop} {labs : List Lab} {k : Nat} {Ps : List (List Entry)} {rs : List Pend}
theorem Q_nil {st : St} : drawW S T [] labs k Ps rs Q st = Q st := by simp only [drawW]
theorem Q_l {a : List Nat} : drawW S T (⟨d, op, none, a⟩ :: l) (.l :: labs) k Ps rs Q ⟨env, H⟩ = stepL S T op env H fun v => drawW S T l labs k Ps rs Q ⟨updo env d v, H⟩ := by simp only [drawW, gdec]
theorem Q_g {a : List Nat} {lo hi : Nat} : drawW S T (⟨d, op, none, a⟩ :: l) (.g lo hi :: labs) k Ps rs Q ⟨env, H⟩ = readD lo hi k op env (evalOp op env H) H Ps fun v p => drawW S T l labs k Ps (p :: rs) Q ⟨updo env d v, H⟩ := by simp only [drawW, gdec]
theorem Q_h {a : List Nat} {r : Nat} : drawW S T (⟨d, op, none, a⟩ :: l) (.h r :: labs) k Ps rs Q ⟨env, H⟩ = (r = k ∧ stepH S T op env H k rs fun v H' => drawW S T l labs (k + 1) (Ps ++ [H]) rs Q ⟨updo env d v, H'⟩) := by simp only [drawW, gdec]
def qgrdW (S : Seat) (T : List (Reg S)) (c : AV) (want : Bool) (d : Option Nat) (op : IOp) (g : Nat) (l : List IOper) (b : Lab) (labs : List Lab) (k : Nat) (Ps : List (List Entry)) (rs : List Pend) (Q : St → Prop) (env : Env) (H : List Entry) : Prop := match c with
  | .bool v => (v = want → drawW S T (⟨d, op, none, []⟩ :: l) (b :: labs) k Ps rs Q ⟨env, H⟩) ∧ (v = !want → drawW S T l labs k Ps rs Q ⟨updo env d (.tup []), H⟩)
  | .tup [] => drawW S T l labs k Ps rs Q ⟨updo env d (.tup []), H⟩
  | _ => False
theorem Q_grd {g : Nat} {want : Bool} {a : List Nat} {b : Lab} : drawW S T (⟨d, op, some (g, want), a⟩ :: l) (b :: labs) k Ps rs Q ⟨env, H⟩ = qgrdW S T (env g) want d op g l b labs k Ps rs Q env H := by
  cases hv : env g
  case bool v =>
    simp only [qgrdW, drawW, gdec, hv]
    by_cases hw : v = want
    · subst hw; simp
    · have hw' : v = !want := by cases v <;> cases want <;> simp_all
      have hwt : (v == want) = false := by simpa using hw
      simp only [hwt]; simp [hw, hw']
  case tup l' =>
    cases l' with
    | nil => simp only [qgrdW, drawW, gdec, hv]
    | cons x xs => simp only [qgrdW, drawW, gdec, hv]
  all_goals simp only [qgrdW, drawW, gdec, hv]
theorem qgrdW_b {v want : Bool} {g : Nat} {b : Lab} : qgrdW S T (.bool v) want d op g l b labs k Ps rs Q env H = ((v = want → drawW S T (⟨d, op, none, []⟩ :: l) (b :: labs) k Ps rs Q ⟨env, H⟩) ∧ (v = !want → drawW S T l labs k Ps rs Q ⟨updo env d (.tup []), H⟩)) := rfl
theorem lightD_some {v : AV} {H' : List Entry} {K : AV → Prop} : lightD op env (some (v, H')) H K = (H' = H ∧ (op.free = true ∨ ∀ G, evalOp op env G = some (v, G)) ∧ K v) := rfl
theorem heavyD_some {v : AV} {H' : List Entry} {K : AV → List Entry → Prop} : heavyD (some (v, H')) k rs K = (pendOk (k + 1) H' rs ∧ K v H') := rfl
theorem readD_some {v : AV} {H' : List Entry} {lo hi : Nat} {K : AV → Pend → Prop} : readD lo hi k op env (some (v, H')) H Ps K = (H' = H ∧ lo ≤ k ∧ k ≤ hi ∧ pastOk lo 0 op env v Ps ∧ K v ⟨hi, op, env, v⟩) := rfl
theorem fnD_some {v f : AV} {xs : List AV} {K : AV → Prop} : fnD S (some (.fn v)) f xs K = K v := rfl
theorem callL_f {c : Nat} {first cap xs : List AV} {K : AV → Prop} : callL S T (.func (.f c) first cap) xs K = fnD S (tab T c (first ++ xs ++ cap)) (.func (.f c) first cap) xs K := rfl
theorem Q_call (f : Opd) (xs : List Opd) {K : AV → Prop} : stepL S T (.call f xs) env H K = callL S T (f.ev env) (xs.map (Opd.ev env)) K := rfl
theorem pendOk_nil {G : List Entry} : pendOk k G [] = True := rfl
theorem pendOk_cons {G : List Entry} {hi : Nat} {v : AV} : pendOk k G (⟨hi, op, env, v⟩ :: rs) = ((k ≤ hi → evalOp op env G = some (v, G)) ∧ pendOk k G rs) := rfl
theorem pastOk_nil {lo i : Nat} {v : AV} : pastOk lo i op env v [] = True := rfl
theorem Q_mv (x : Opd) {K : AV → Prop} : stepL S T (.mv x) env H K = lightD (.mv x) env (evalOp (.mv x) env H) H K := rfl
theorem Q_pick (c a b : Opd) {K : AV → Prop} : stepL S T (.pick c a b) env H K = lightD (.pick c a b) env (evalOp (.pick c a b) env H) H K := rfl
theorem Q_bin (isB : Bool) (op : BinOp) (x y : Opd) {K : AV → Prop} : stepL S T (.bin isB op x y) env H K = lightD (.bin isB op x y) env (evalOp (.bin isB op x y) env H) H K := rfl
theorem Q_extract (x : Opd) (i : Nat) {K : AV → Prop} : stepL S T (.extract x i) env H K = lightD (.extract x i) env (evalOp (.extract x i) env H) H K := rfl
theorem Q_min (xs : List Opd) {K : AV → Prop} : stepL S T (.min xs) env H K = lightD (.min xs) env (evalOp (.min xs) env H) H K := rfl
theorem Q_load (agg : Bool) (n : Nat) (x : Opd) {K : AV → Prop} : stepL S T (.load agg n x) env H K = lightD (.load agg n x) env (evalOp (.load agg n x) env H) H K := rfl
theorem Q_slice (esz : Nat) (x : Opd) (lo hi mx : Option Opd) {K : AV → Prop} : stepL S T (.slice esz x lo hi mx) env H K = lightD (.slice esz x lo hi mx) env (evalOp (.slice esz x lo hi mx) env H) H K := rfl
theorem Q_len (x : Opd) {K : AV → Prop} : stepL S T (.len x) env H K = lightD (.len x) env (evalOp (.len x) env H) H K := rfl
theorem H_store (n : Nat) (x v : Opd) {K : AV → List Entry → Prop} : stepH S T (.store n x v) env H k rs K = heavyD (evalOp (.store n x v) env H) k rs K := rfl
theorem free_mv (x : Opd) : IOp.free (.mv x) = true := rfl
theorem free_pick (c a b : Opd) : IOp.free (.pick c a b) = true := rfl
theorem free_bin (isB : Bool) (op : BinOp) (x y : Opd) : IOp.free (.bin isB op x y) = true := rfl
theorem free_extract (x : Opd) (i : Nat) : IOp.free (.extract x i) = true := rfl
theorem free_min (xs : List Opd) : IOp.free (.min xs) = true := rfl
theorem free_load (agg : Bool) (n : Nat) (x : Opd) : IOp.free (.load agg n x) = false := rfl
theorem free_slice (esz : Nat) (x : Opd) (lo hi mx : Option Opd) : IOp.free (.slice esz x lo hi mx) = false := rfl
theorem free_len (x : Opd) : IOp.free (.len x) = false := rfl

end Go.Proofs.YtihhinbjhiankaaGreatDoor.Al

set_option linter.unusedSimpArgs false
set_option linter.unusedVariables false
namespace Go.Proofs.YtihhinbjhiankaaGreatDoor.Al
open Go
variable {S : Seat}

def Weak (x y : AV) : Prop := ∀ (S : Seat) (m : List ME) (I : Nat → Prop) (w : World) (v : Value), Rel S m I w x v → Rel S m I w y v
inductive Weaks : List AV → List AV → Prop
  | nil : Weaks [] []
  | cons {x y : AV} {xs ys : List AV} (h : Weak x y) (t : Weaks xs ys) : Weaks (x :: xs) (y :: ys)
theorem Weak.refl (x : AV) : Weak x x := fun _ _ _ _ _ h => h
theorem Weak.of_eq {x y : AV} (h : x = y) : Weak x y := by rw [h]; exact .refl y
theorem Weaks.get {xs ys : List AV} (h : Weaks xs ys) : xs.length = ys.length ∧ ∀ (i : Nat) (y : AV), ys[i]? = some y → ∃ x, xs[i]? = some x ∧ Weak x y := by
  induction h with
  | nil => exact ⟨rfl, fun i y h => by simp at h⟩
  | @cons x y xs ys h t ih =>
    refine ⟨by simp [ih.1], fun i z hz => ?_⟩
    cases i with
    | zero => simp at hz; subst hz; exact ⟨x, rfl, h⟩
    | succ i => simp at hz; obtain ⟨u, h1, h2⟩ := ih.2 i z hz; exact ⟨u, by simpa using h1, h2⟩
theorem Weaks.rels {xs ys : List AV} (h : Weaks xs ys) {m : List ME} {I : Nat → Prop} {w : World} {vs : Array Value} (hv : Rels S m I w xs vs) : Rels S m I w ys vs := by
  refine ⟨by rw [hv.1, h.get.1], fun i y hy => ?_⟩
  obtain ⟨x, h1, h2⟩ := h.get.2 i y hy
  exact h2 _ _ _ _ _ (hv.2 i x h1)
theorem Weak.agg {xs ys : List AV} (h : Weaks xs ys) : Weak (.agg xs) (.agg ys) := by
  intro S m I w v hv
  cases hv with
  | agg _ vs hs hh =>
    have := h.rels (S := S) (m := m) (I := I) (w := w) (vs := vs) ⟨hs, hh⟩
    exact .agg ys vs this.1 this.2
theorem Weak.list (t : Bool) (xs : List AV) : Weak (.list t xs) (.list false xs) := by
  intro S m I w v hv
  cases hv with
  | empty _ a c ht hc => exact .empty false a c (fun h => by cases h) hc
  | list _ _ b off n c sz rd hn hnc hcm ht hI hsz hc hr => exact .list false xs b off n c sz rd hn hnc hcm (fun h => by cases h) hI hsz hc hr
theorem ACall.weak {c : Nat} {args args' : List AV} {H : List Entry} {R : AV → List Entry → Prop} (hw : Weaks args args') (h : ACall S c args' H R) : ACall S c args H R :=
  fun m I X w vs hs hv => h m I X w vs hs (hw.rels hv)
theorem Fun.weak {c : Nat} {args args' : List AV} {r : AV} (hw : Weaks args args') (h : Fun S c args' r) : Fun S c args r := fun H => (h H).weak hw
theorem FunOwn.weak {c : Nat} {args args' : List AV} {sz : Nat} {xs : List AV} (hw : Weaks args args') (h : FunOwn S c args' sz xs) : FunOwn S c args sz xs := fun H => (h H).weak hw

structure Patch where
  len : Int
  x : List Int
  n : List Node
deriving DecidableEq
def patchA (p : Patch) : AV := .agg [.int .i64 p.len, ints p.x, nodes p.n]
theorem Weak.undef (x : AV) : Weak x .undef := fun _ _ _ _ v _ => .undef v
theorem WP.weakE {r : Option Nat} {N b : Nat} {ic : IC} {Q : Exit → St → Prop} {env env' : Env} {H : List Entry} (hw : ∀ j, Weak (env j) (env' j)) (h : WP S r N b ic Q ⟨env', H⟩) : WP S r N b ic Q ⟨env, H⟩ := by
  refine WP.ghost ?_ h
  intro m I X w n0 a hs hfr
  exact ⟨m, I, .refl m, fun _ hb => hb, hs, ⟨fun j => hw j _ _ _ _ _ (hfr.env j), hfr.size, hfr.marks⟩⟩
theorem envL_weak {env : Env} : ∀ {l : List (Nat × AV)}, (∀ p ∈ l, Weak (env p.1) p.2) → ∀ j, Weak (env j) (envL l j)
  | [], _, j => .undef _
  | (k, v) :: l, h, j => by
    rw [envL_cons]
    split
    · rename_i e; subst e; exact h (_, v) (by simp)
    · exact envL_weak (fun p hp => h p (by simp [hp])) j
theorem WP.weakL {r : Option Nat} {N b : Nat} {ic : IC} {Q : Exit → St → Prop} {st : St} (l : List (Nat × AV)) (hw : ∀ p ∈ l, Weak (st.env p.1) p.2) (h : WP S r N b ic Q ⟨envL l, st.H⟩) : WP S r N b ic Q st :=
  WP.weakE (envL_weak hw) h
theorem weak_refl (x : AV) : Weak x x = True := eq_true (.refl x)
/-! ### Values read back -/
def dI : AV → Int
  | .int _ n => n
  | _ => 0
def dB : AV → Bool
  | .bool b => b
  | _ => false
def dRow {α : Type} (d : AV → α) : AV → List α
  | .list _ xs => xs.map d
  | _ => []
def dO (x : AV) : List Int := dRow dI x
def dLf : AV → Leaf
  | .agg [e, c, s, p] => ⟨dO e, dO c, dI s, dO p⟩
  | _ => .zero
def dIn : AV → Inner
  | .agg [e, c, s] => ⟨dO e, dO c, dO s⟩
  | _ => .zero
def dN : AV → Node
  | .agg [k, a, b, c, d, e, f, g] => ⟨dI k, ⟨dO a, dO b, dI c, dO d⟩, ⟨dO e, dO f, dO g⟩⟩
  | _ => .zero
def dNs (x : AV) : List Node := dRow dN x
def isI (x : AV) : Prop := x = .int .i64 (dI x)
def isB (x : AV) : Prop := x = .bool (dB x)
def isO (x : AV) : Prop := ∃ t, x = .list t ((dO x).map (AV.int .u8))
def isS (x : AV) : Prop := ∃ t, x = .list t ((dO x).map (AV.int .i64))
def isNs (x : AV) : Prop := ∃ t, x = .list t ((dNs x).map nodeA)
def isLf : AV → Prop
  | .agg [e, c, s, p] => isO e ∧ isO c ∧ isI s ∧ isO p
  | _ => False
def isIn : AV → Prop
  | .agg [e, c, s] => isO e ∧ isO c ∧ isS s
  | _ => False
def isN : AV → Prop
  | .agg [k, a, b, c, d, e, f, g] => isI k ∧ isO a ∧ isO b ∧ isI c ∧ isO d ∧ isO e ∧ isO f ∧ isS g
  | _ => False
theorem isI.weak {x : AV} (h : isI x) : Weak x (.int .i64 (dI x)) := by rw [← h]; exact .refl x
theorem isB.weak {x : AV} (h : isB x) : Weak x (.bool (dB x)) := by rw [← h]; exact .refl x
theorem isO.weak {x : AV} (h : isO x) : Weak x (octs (dO x)) := by
  obtain ⟨t, h⟩ := h
  have := Weak.list t ((dO x).map (AV.int .u8))
  rw [← h] at this; exact this
theorem isS.weak {x : AV} (h : isS x) : Weak x (ints (dO x)) := by
  obtain ⟨t, h⟩ := h
  have := Weak.list t ((dO x).map (AV.int .i64))
  rw [← h] at this; exact this
theorem isNs.weak {x : AV} (h : isNs x) : Weak x (nodes (dNs x)) := by
  obtain ⟨t, h⟩ := h
  have := Weak.list t ((dNs x).map nodeA)
  rw [← h] at this; exact this
theorem isLf.weak {x : AV} (h : isLf x) : Weak x (leafA (dLf x)) := by
  unfold isLf at h
  split at h
  · exact .agg (.cons h.1.weak (.cons h.2.1.weak (.cons h.2.2.1.weak (.cons h.2.2.2.weak .nil))))
  · exact h.elim
theorem isIn.weak {x : AV} (h : isIn x) : Weak x (innerA (dIn x)) := by
  unfold isIn at h
  split at h
  · exact .agg (.cons h.1.weak (.cons h.2.1.weak (.cons h.2.2.weak .nil)))
  · exact h.elim
theorem isN.weak {x : AV} (h : isN x) : Weak x (nodeA (dN x)) := by
  unfold isN at h
  split at h
  · obtain ⟨h1, h2, h3, h4, h5, h6, h7, h8⟩ := h
    exact .agg (.cons h1.weak (.cons h2.weak (.cons h3.weak (.cons h4.weak (.cons h5.weak (.cons h6.weak (.cons h7.weak (.cons h8.weak .nil))))))))
  · exact h.elim
theorem map_dI (k : IntKind) (l : List Int) : (l.map (AV.int k)).map dI = l := by
  induction l with
  | nil => rfl
  | cons x l ih => rw [List.map_cons, List.map_cons, ih]; rfl
theorem dI_int (k : IntKind) (n : Int) : dI (.int k n) = n := (rfl)
theorem dB_bool (b : Bool) : dB (.bool b) = b := (rfl)
theorem dO_octs (l : List Int) : dO (octs l) = l := map_dI _ l
theorem dO_ints (l : List Int) : dO (ints l) = l := map_dI _ l
theorem dO_list (t : Bool) (k : IntKind) (l : List Int) : dO (.list t (l.map (AV.int k))) = l := map_dI _ l
theorem dO_nil (t : Bool) : dO (.list t []) = [] := (rfl)
theorem dN_nodeA (l : Node) : dN (nodeA l) = l := by simp only [nodeA, Node.cells, dN, dO_octs, dO_ints, dI_int]
theorem dLf_agg (e c s p : AV) : dLf (.agg [e, c, s, p]) = ⟨dO e, dO c, dI s, dO p⟩ := (rfl)
theorem dIn_agg (e c s : AV) : dIn (.agg [e, c, s]) = ⟨dO e, dO c, dO s⟩ := (rfl)
theorem dN_agg (k a b c d e f g : AV) : dN (.agg [k, a, b, c, d, e, f, g]) = ⟨dI k, ⟨dO a, dO b, dI c, dO d⟩, ⟨dO e, dO f, dO g⟩⟩ := (rfl)
theorem dNs_nodes (l : List Node) : dNs (nodes l) = l := by
  simp only [dNs, dRow, nodes, List.map_map]
  exact (List.map_congr_left fun a _ => dN_nodeA a).trans (List.map_id _)
theorem dNs_nil (t : Bool) : dNs (.list t []) = [] := (rfl)
theorem isI_int (n : Int) : isI (.int .i64 n) = True := eq_true rfl
theorem isB_bool (n : Bool) : isB (.bool n) = True := eq_true rfl
theorem isO_octs (l : List Int) : isO (octs l) = True := eq_true ⟨false, by rw [dO_octs]; rfl⟩
theorem isO_nil (t : Bool) : isO (.list t []) = True := eq_true ⟨t, rfl⟩
theorem isO_list (t : Bool) (l : List Int) : isO (.list t (l.map (AV.int .u8))) = True := eq_true ⟨t, by rw [dO_list]⟩
theorem isS_ints (l : List Int) : isS (ints l) = True := eq_true ⟨false, by rw [dO_ints]; rfl⟩
theorem isS_nil (t : Bool) : isS (.list t []) = True := eq_true ⟨t, rfl⟩
theorem isNs_nodes (l : List Node) : isNs (nodes l) = True := eq_true ⟨false, by rw [dNs_nodes]; rfl⟩
theorem isNs_nil (t : Bool) : isNs (.list t []) = True := eq_true ⟨t, rfl⟩
theorem isN_nodeA (l : Node) : isN (nodeA l) = True := by simp only [nodeA, Node.cells, isN, isO_octs, isS_ints, isI_int, and_self]
theorem isLf_agg (e c s p : AV) : isLf (.agg [e, c, s, p]) = (isO e ∧ isO c ∧ isI s ∧ isO p) := (rfl)
theorem isIn_agg (e c s : AV) : isIn (.agg [e, c, s]) = (isO e ∧ isO c ∧ isS s) := (rfl)
theorem isN_agg (k a b c d e f g : AV) : isN (.agg [k, a, b, c, d, e, f, g]) = (isI k ∧ isO a ∧ isO b ∧ isI c ∧ isO d ∧ isO e ∧ isO f ∧ isS g) := (rfl)
theorem idb_patchA (n : Nat) (p : Patch) : Idb n (patchA p) = True := by
  simp [patchA, idb_agg, idb_ints, idb_nodes, idb_int]
theorem leaf_eta (l : Leaf) : Leaf.mk l.enc l.cred l.source l.parent = l := (rfl)
theorem inner_eta (l : Inner) : Inner.mk l.enc l.hash l.unmerged = l := (rfl)
theorem node_eta (n : Node) : Node.mk n.kind n.leaf n.inner = n := (rfl)
theorem leaf_zero : Leaf.mk [] [] 0 [] = .zero := (rfl)
theorem inner_zero : Inner.mk [] [] [] = .zero := (rfl)
theorem ldI (H : List Entry) (n : Nat) (cs : List AV) (o : Nat) : evLoad H false n (.iptr cs o) = cs[o]? := by simp [evLoad, window]
theorem ldIA (H : List Entry) (n : Nat) (cs : List AV) (o : Nat) : evLoad H true n (.iptr cs o) = if o + n ≤ cs.length then some (.agg ((cs.drop o).take n)) else none := by simp [evLoad, window]
theorem adI (H : List Entry) (off : Nat) (cs : List AV) (o : Nat) : evAddr H off (.iptr cs o) = some (.iptr cs (o + off)) := rfl
theorem ix_nodes (H : List Entry) (l : List Node) (k : Nat) (h : k < l.length) : evIndex H 8 (nodes l) (.int .i64 (k : Int)) = some (.iptr [.int .i64 l[k].kind, octs l[k].leaf.enc, octs l[k].leaf.cred, .int .i64 l[k].leaf.source, octs l[k].leaf.parent, octs l[k].inner.enc, octs l[k].inner.hash, ints l[k].inner.unmerged] 0) := encNode.index H l k h
theorem wrap64s (n : Int) (h : -9223372036854775808 ≤ n ∧ n ≤ 9223372036854775807) : IntKind.i64.wrap n = n := wrap64 n h.1 h.2
theorem inj_map {α : Type} {f : α → AV} (d : AV → α) (hd : ∀ a, d (f a) = a) {l r : List α} (h : AV.list false (l.map f) = AV.list false (r.map f)) : l = r := by
  have := congrArg (dRow d) h
  simpa only [dRow, List.map_map, Function.comp_def, hd, List.map_id'] using this
theorem nodes_inj (a b : List Node) : (nodes a = nodes b) = (a = b) := propext ⟨inj_map dN dN_nodeA, fun h => by rw [h]⟩
theorem octs_inj (a b : List Int) : (octs a = octs b) = (a = b) := propext ⟨inj_map dI (dI_int _), fun h => by rw [h]⟩
theorem ints_inj (a b : List Int) : (ints a = ints b) = (a = b) := propext ⟨inj_map dI (dI_int _), fun h => by rw [h]⟩
theorem nil_nodes (b : List Node) : (AV.list false [] = nodes b) = (b = []) := propext ⟨fun h => (nodes_inj [] b).mp h |>.symm, fun h => by rw [h]; rfl⟩
theorem nil_octs (b : List Int) : (AV.list false [] = octs b) = (b = []) := propext ⟨fun h => (octs_inj [] b).mp h |>.symm, fun h => by rw [h]; rfl⟩
theorem nil_ints (b : List Int) : (AV.list false [] = ints b) = (b = []) := propext ⟨fun h => (ints_inj [] b).mp h |>.symm, fun h => by rw [h]; rfl⟩
theorem canon_nilL (H : List Entry) (k : Nat) (t : Bool) : canon H (k + 1) (.list t []) = .list false [] := rfl

theorem quo2 (n : Int) (h : 0 ≤ n ∧ n ≤ 9223372036854775807) : IntKind.i64.wrap (n.tdiv 2) = n / 2 := by
  rw [Int.tdiv_eq_ediv_of_nonneg h.1, wrap64 _ (by omega) (by omega)]
theorem scanS {n k : Nat} {p : ∀ j, j < n → Prop} (hno : ∀ j (h : j < n), j < k → p j h) (hk : ∀ h : k < n, p k h) : ∀ j (h : j < n), j < k + 1 → p j h := by
  intro j h hj
  rcases Nat.lt_or_ge j k with h1 | h1
  · exact hno j h h1
  · obtain rfl : j = k := by omega
    exact hk h
theorem scanE {n : Nat} {p : ∀ j, j < n → Prop} {k : Nat} (hno : ∀ j (h : j < n), j < k → p j h) (hk : ¬ (k : Int) < n) : ∀ j (h : j < n), p j h := fun j h => hno j h (by omega)
theorem two_ne : ((2 : Int) = 0) = False := by simp
theorem four_ne : ((4 : Int) = 0) = False := by simp
theorem b256_ne : ((256 : Int) = 0) = False := by simp

theorem isO_own (a b c d : Nat) : isO (.own a b c d) = False := by
  apply eq_false; rintro ⟨t, h⟩; cases h
theorem st_node {H : List Entry} {id : Nat} {cs : List AV} (n : Node) (h : H[id]? = some (.box cs)) (hc : cs.length = 8) : evStore H 8 (.ptr id 0) (nodeA n) = some (H.set id (.box (nodeA n).cells)) := by
  have h1 : (nodeA n).cells.length = 8 := rfl
  have h2 : (nodeA n).cells.all (AV.oneIn H) = true := encNode.one n H
  have h3 : splice cs 0 (nodeA n).cells = (nodeA n).cells := by
    simp only [splice, List.take_zero, List.nil_append, Nat.zero_add, h1]
    rw [List.drop_of_length_le (by omega), List.append_nil]
  simp only [evStore, h1, h2, h, hc, h3, true_and, and_self, if_true, show (0 : Nat) < 8 by decide, show 0 + 8 ≤ 8 by decide]
theorem ld_node {H : List Entry} {id : Nat} {n : Node} (h : H[id]? = some (.box (nodeA n).cells)) : evLoad H true 8 (.ptr id 0) = some (nodeA n) := by
  simp only [evLoad, window, h]; rfl
theorem tail_get {G : List Entry} {e : Entry} (T : List Entry) (x : Entry) : (e :: (T ++ [x]))[T.length + 1]? = some x := by simp
theorem tail_set {G : List Entry} {e : Entry} (T : List Entry) (x y : Entry) : (e :: (T ++ [x])).set (T.length + 1) y = e :: (T ++ [y]) := by simp

theorem canon_rowI {H : List Entry} {id ver k : Nat} {l : List Int} (h : H[id]? = some (.arr 1 ver (l.map (AV.int .i64)))) : canon H (k + 1) (.own id ver 0 l.length) = ints l := encI64.canon_own_all h k
theorem canon_rowO {H : List Entry} {id ver k : Nat} {l : List Int} (h : H[id]? = some (.arr 1 ver (l.map (AV.int .u8)))) : canon H (k + 1) (.own id ver 0 l.length) = octs l := encU8.canon_own_all h k

def evR (v : Option AV) (R : AV → List Entry → Prop) (H : List Entry) : Prop := match v with
  | some v => R v H
  | none => False
theorem evR_some {v : AV} {R : AV → List Entry → Prop} {H : List Entry} : evR (some v) R H = R v H := rfl
theorem leaves_r {rs : List IRes} {R : AV → List Entry → Prop} {env : Env} {H : List Entry} : leaves rs R .ret ⟨env, H⟩ = evR (evRess env H rs) R H := by
  simp only [leaves, evR, or_true, true_and]
  cases evRess env H rs <;> simp
theorem evRess1 (env : Env) (H : List Entry) (x : IRes) : evRess env H [x] = evRes env H x := rfl
theorem evRess2 (env : Env) (H : List Entry) (x y : IRes) : evRess env H [x, y] = (evRes env H x).bind fun a => (evRes env H y).map fun b => .tup [a, b] := by
  simp only [evRess, List.mapM_cons, List.mapM_nil]
  cases evRes env H x <;> cases evRes env H y <;> rfl
theorem evRess3 (env : Env) (H : List Entry) (x y z : IRes) : evRess env H [x, y, z] = (evRes env H x).bind fun a => (evRes env H y).bind fun b => (evRes env H z).map fun c => .tup [a, b, c] := by
  simp only [evRess, List.mapM_cons, List.mapM_nil]
  cases evRes env H x <;> cases evRes env H y <;> cases evRes env H z <;> rfl
theorem evRes_t (env : Env) (H : List Entry) (s : Nat) : evRes env H (.t s) = some (env s) := rfl
theorem evRes_c (env : Env) (H : List Entry) (s : Nat) (agg : Bool) (n : Nat) : evRes env H (.cell s agg n) = evLoad H agg n (env s) := rfl

theorem nz_kind : Node.zero.kind = 0 := (rfl)
theorem nz_enc : Node.zero.leaf.enc = [] := (rfl)
theorem nz_cred : Node.zero.leaf.cred = [] := (rfl)
theorem nz_source : Node.zero.leaf.source = 0 := (rfl)
theorem nz_parent : Node.zero.leaf.parent = [] := (rfl)
theorem nz_ienc : Node.zero.inner.enc = [] := (rfl)
theorem nz_hash : Node.zero.inner.hash = [] := (rfl)
theorem nz_un : Node.zero.inner.unmerged = [] := (rfl)

theorem bsl_node (H : List Entry) (n : Node) : evBslice H 8 1 (.agg [.int .i64 0, .list true [], .list true [], .int .i64 0, .list true [], .list true [], .list true [], .list true []])
    [(0, .agg [.int .i64 n.kind, octs n.leaf.enc, octs n.leaf.cred, .int .i64 n.leaf.source, octs n.leaf.parent, octs n.inner.enc, octs n.inner.hash, ints n.inner.unmerged])] = some (.own H.length 0 0 1, H ++ [.arr 8 0 [.agg [.int .i64 n.kind, octs n.leaf.enc, octs n.leaf.cred, .int .i64 n.leaf.source, octs n.leaf.parent, octs n.inner.enc, octs n.inner.hash, ints n.inner.unmerged]]]) := rfl
theorem appI {H : List Entry} {id ver : Nat} {l : List Int} {n : Int} (h : H[id]? = some (.arr 1 ver (l.map (AV.int .i64)))) (hl : l.length + 1 ≤ maxRow) :
    evAppend H 1 8 (.own id ver 0 l.length) [.int .i64 n] = some (.own id (ver + 1) 0 (l ++ [n]).length, H.set id (.arr 1 (ver + 1) ((l ++ [n]).map (AV.int .i64)))) := encI64.app_own h hl (by decide)
theorem appO {H : List Entry} {id ver : Nat} {l : List Int} {n : Int} (h : H[id]? = some (.arr 1 ver (l.map (AV.int .u8)))) (hl : l.length + 1 ≤ maxRow) :
    evAppend H 1 1 (.own id ver 0 l.length) [.int .u8 n] = some (.own id (ver + 1) 0 (l ++ [n]).length, H.set id (.arr 1 (ver + 1) ((l ++ [n]).map (AV.int .u8)))) := encU8.app_own h hl (by decide)

theorem wrapU64 (n : Int) (h1 : 0 ≤ n) (h2 : n ≤ 18446744073709551615) : IntKind.u64.wrap n = n := by
  simp only [IntKind.wrap, IntKind.bits, IntKind.signed]
  simp
  omega
theorem wrapU8 (n : Int) : IntKind.u8.wrap n = n % 256 := by
  simp only [IntKind.wrap, IntKind.bits, IntKind.signed]
  simp

/-! Boxes and rows at whatever place of a heap -/
def ldE (e : Option Entry) (agg : Bool) (n off : Nat) : Option AV := match e with
  | some (.box cs) => if agg then (if off + n ≤ cs.length then some (.agg ((cs.drop off).take n)) else none) else cs[off]?
  | _ => none
theorem ldP (H : List Entry) (agg : Bool) (n id off : Nat) : evLoad H agg n (.ptr id off) = ldE (H[id]?) agg n off := by
  simp only [evLoad, window, ldE]
  split <;> rename_i h
  · split at h
    · rename_i cs hh; cases h; rw [hh]
    · cases h
  · split at h
    · cases h
    · rename_i hh
      split
      · rename_i cs hc; exact absurd hc (hh cs)
      · rfl
theorem ldE_a (cs : List AV) (n off : Nat) : ldE (some (.box cs)) true n off = if off + n ≤ cs.length then some (.agg ((cs.drop off).take n)) else none := rfl
theorem ldE_c (cs : List AV) (n off : Nat) : ldE (some (.box cs)) false n off = cs[off]? := rfl
def adE (e : Option Entry) (id off : Nat) : Option AV := match e with
  | some (.box _) => some (.ptr id off)
  | _ => none
theorem adP (H : List Entry) (k id off : Nat) : evAddr H k (.ptr id off) = adE (H[id]?) id (off + k) := by
  simp only [evAddr, adE]
  rcases H[id]? with _ | e
  · rfl
  · cases e <;> rfl
theorem adE_b (cs : List AV) (id off : Nat) : adE (some (.box cs)) id off = some (.ptr id off) := rfl
def stE (e : Option Entry) (H : List Entry) (n id off : Nat) (v : AV) : Option (List Entry) := match e with
  | some (.box cs) => if v.cells.length = n ∧ 0 < n ∧ v.cells.all (AV.oneIn H) = true then (if off + n ≤ cs.length then some (H.set id (.box (splice cs off v.cells))) else none) else none
  | _ => none
theorem stP (H : List Entry) (n id off : Nat) (v : AV) : evStore H n (.ptr id off) v = stE (H[id]?) H n id off v := by
  simp only [evStore, stE]
  split <;> split <;> simp_all
theorem stE_b (cs : List AV) (H : List Entry) (n id off : Nat) (v : AV) : stE (some (.box cs)) H n id off v = if v.cells.length = n ∧ 0 < n ∧ v.cells.all (AV.oneIn H) = true then (if off + n ≤ cs.length then some (H.set id (.box (splice cs off v.cells))) else none) else none := rfl
def onE (e : Option Entry) (ver : Nat) : Bool := match e with
  | some (.arr _ v _) => v == ver
  | some (.frz _ v _) => v == ver
  | _ => false
theorem onO (H : List Entry) (id ver lo hi : Nat) : AV.oneIn H (.own id ver lo hi) = onE (H[id]?) ver := rfl
def onP (e : Option Entry) : Bool := match e with
  | some (.box _) => true
  | _ => false
theorem onP_b (cs : List AV) : onP (some (.box cs)) = true := rfl

theorem WP.weakB {r : Option Nat} {N b : Nat} {ic : IC} {Q : Exit → St → Prop} {env : Env} {H : List Entry} (id : Nat) {cs : List AV} (cs' : List AV) (hH : H[id]? = some (.box cs)) (hw : Weaks cs cs') (h : WP S r N b ic Q ⟨env, H.set id (.box cs')⟩) : WP S r N b ic Q ⟨env, H⟩ := by
  refine WP.ghost ?_ h
  intro m I X w n0 a hs hfr
  refine ⟨m, I, .refl m, fun _ hb => hb, hs.retell (e1 := .box cs') hH rfl ?_, hfr⟩
  obtain ⟨e, arr, T, h1, h2, h3, h4, h5⟩ := hs.hok id _ hH
  exact ⟨e, arr, T, h1, h2, h3, h4, hw.rels h5⟩
/-! ### Contracts laid into a table -/
noncomputable def Reg.of {c : Nat} {f : IFn} (ht : trFn S c = some f) (ask : List AV → Option Said) (ok : ∀ args r, ask args = some r → SaidOk S c args r) : Reg S := ⟨c, ask, fun a r h => ⟨Callable.of ht, ok a r h⟩⟩
open Classical in
noncomputable def ask0 (r : Said) : List AV → Option Said
  | [] => some r
  | _ => none
open Classical in
noncomputable def ask1 (p : AV → Prop) (r : AV → Said) : List AV → Option Said
  | [a] => if p a then some (r a) else none
  | _ => none
open Classical in
noncomputable def ask2 (p : AV → AV → Prop) (r : AV → AV → Said) : List AV → Option Said
  | [a, b] => if p a b then some (r a b) else none
  | _ => none
open Classical in
noncomputable def ask3 (p : AV → AV → AV → Prop) (r : AV → AV → AV → Said) : List AV → Option Said
  | [a, b, c] => if p a b c then some (r a b c) else none
  | _ => none
open Classical in
noncomputable def ask4 (p : AV → AV → AV → AV → Prop) (r : AV → AV → AV → AV → Said) : List AV → Option Said
  | [a, b, c, d] => if p a b c d then some (r a b c d) else none
  | _ => none
variable {c : Nat} {args : List AV} {x : Said}
theorem ask0_ok {r : Said} (h : SaidOk S c [] r) : ∀ args x, ask0 r args = some x → SaidOk S c args x := by
  intro args x hx
  unfold ask0 at hx
  split at hx
  · cases hx; exact h
  · cases hx
theorem ask1_ok {p : AV → Prop} {r : AV → Said} (h : ∀ a, p a → SaidOk S c [a] (r a)) : ∀ args x, ask1 p r args = some x → SaidOk S c args x := by
  intro args x hx
  unfold ask1 at hx
  split at hx
  · split at hx
    · rename_i hp; cases hx; exact h _ hp
    · cases hx
  · cases hx
theorem ask2_ok {p : AV → AV → Prop} {r : AV → AV → Said} (h : ∀ a b, p a b → SaidOk S c [a, b] (r a b)) : ∀ args x, ask2 p r args = some x → SaidOk S c args x := by
  intro args x hx
  unfold ask2 at hx
  split at hx
  · split at hx
    · rename_i hp; cases hx; exact h _ _ hp
    · cases hx
  · cases hx
theorem ask3_ok {p : AV → AV → AV → Prop} {r : AV → AV → AV → Said} (h : ∀ a b d, p a b d → SaidOk S c [a, b, d] (r a b d)) : ∀ args x, ask3 p r args = some x → SaidOk S c args x := by
  intro args x hx
  unfold ask3 at hx
  split at hx
  · split at hx
    · rename_i hp; cases hx; exact h _ _ _ hp
    · cases hx
  · cases hx
theorem ask4_ok {p : AV → AV → AV → AV → Prop} {r : AV → AV → AV → AV → Said} (h : ∀ a b d e, p a b d e → SaidOk S c [a, b, d, e] (r a b d e)) : ∀ args x, ask4 p r args = some x → SaidOk S c args x := by
  intro args x hx
  unfold ask4 at hx
  split at hx
  · split at hx
    · rename_i hp; cases hx; exact h _ _ _ _ hp
    · cases hx
  · cases hx
theorem ite_cl {α : Type} {p : Prop} {a b : α} {i : Decidable p} {j : Decidable p} : @ite α p i a b = @ite α p j a b := by cases Subsingleton.elim i j; rfl
theorem SaidOk.fn {v : AV} (h : Fun S c args v) : SaidOk S c args (.fn v) := h
theorem SaidOk.own {sz : Nat} {xs : List AV} (h : FunOwn S c args sz xs) (hx : ∀ x ∈ xs, ∀ y ∈ x.cells, Idb 0 y) : SaidOk S c args (.own sz xs) := ⟨h, h.val hx⟩

end Go.Proofs.YtihhinbjhiankaaGreatDoor.Al

namespace Go.Proofs.YtihhinbjhiankaaGreatDoor.Al
open Go
def fnT : List Nat := [0, 1, 2, 1000000, 1000000, 1000000, 1000000, 1000000, 1000000, 1000000, 1000000, 1000000, 1000000, 1000000, 115, 1000000, 1000000, 1000000, 1000000, 1000000, 1000000, 1000000, 1000000, 1000000, 153, 154, 155, 1000000, 1000000, 1000000, 1000000, 1000000, 1000000, 1000000, 1000000, 42, 1000000, 1000000, 1000000, 1000000, 98, 197, 198, 1000000, 1000000, 1000000, 1000000, 152, 217, 218, 229, 230, 231, 232, 233, 234, 145, 235, 236, 237, 238, 246, 247, 248, 249, 250, 195, 253, 256, 257, 258, 259, 260, 261, 262, 263, 264, 265, 266, 267, 268, 1000000, 269, 270, 1000000, 1000000, 1000000, 1000000, 1000000, 272, 1000000, 1000000, 1000000, 1000000, 1000000, 1000000, 1000000, 1000000, 1000000, 1000000, 13, 14, 38, 28, 29, 1000000, 23, 31, 35, 30, 12, 1000000, 40, 1000000, 41, 1000000, 19, 1000000, 1000000, 39, 1000000, 89, 43, 44, 45, 46, 73, 75, 74, 76, 61, 82, 83, 90, 88, 87, 1000000, 66, 1000000, 112, 91, 1000000, 94, 95, 92, 93, 96, 97, 129, 109, 110, 138, 60, 166, 167, 146, 86, 147, 148, 149, 150, 151, 63, 99, 163, 165, 196, 111, 271, 1000000, 1000000, 1000000, 1000000, 1000000, 1000000, 1000000, 1000000, 1000000, 1000000, 1000000, 1000000, 160, 108, 177, 127, 51, 79, 1000000, 68, 103, 242, 243, 56, 205, 58, 164, 121, 206, 69, 72, 179, 100, 131, 132, 78, 193, 116, 117, 118, 119, 120, 157, 158, 159, 176, 101, 219, 104, 106, 122, 128, 125, 130, 174, 175, 178, 199, 200, 201, 202, 203, 204, 156, 239, 161, 162, 1000000, 59, 71, 1000000, 1000000, 1000000, 105, 107, 123, 124, 126, 1000000, 1000000, 1000000, 1000000, 1000000, 1000000, 1000000, 53, 34, 1000000, 136, 182, 180, 181, 139, 140, 50, 189, 144, 81, 1000000, 209, 186, 184, 207, 208, 137, 187, 188, 194, 135, 220, 212, 185, 221, 240, 241, 274, 275, 276, 277, 278, 1000000, 1000000, 1000000, 1000000, 1000000, 1000000, 1000000, 1000000, 70, 1000000, 1000000, 1000000, 170, 1000000, 1000000, 1000000, 114, 1000000, 1000000, 1000000, 168, 171, 172, 173, 3, 4, 5, 6, 7, 8, 9, 10, 11, 15, 16, 17, 18, 20, 21, 22, 24, 25, 26, 27, 32, 33, 36, 37, 47, 48, 49, 52, 54, 55, 57, 62, 64, 65, 67, 77, 80, 84, 85, 102, 113, 133, 134, 141, 142, 143, 169, 183, 190, 191, 192, 210, 211, 213, 214, 215, 216, 222, 223, 224, 225, 226, 227, 228, 244, 245, 251, 252, 254, 255, 273]
def cfT : List Nat := [0, 1, 2, 313, 314, 315, 316, 317, 318, 319, 320, 321, 110, 100, 101, 322, 323, 324, 325, 116, 326, 327, 328, 106, 329, 330, 331, 332, 103, 104, 109, 107, 333, 334, 255, 108, 335, 336, 102, 119, 112, 114, 35, 122, 123, 124, 125, 337, 338, 339, 263, 185, 340, 254, 341, 342, 192, 343, 194, 237, 152, 130, 344, 162, 345, 346, 137, 347, 188, 198, 297, 238, 199, 126, 128, 127, 129, 348, 204, 186, 349, 266, 131, 132, 350, 351, 156, 135, 134, 121, 133, 140, 144, 145, 142, 143, 146, 147, 40, 163, 201, 215, 352, 189, 217, 242, 218, 243, 182, 149, 150, 167, 139, 353, 305, 14, 206, 207, 208, 209, 210, 196, 219, 244, 245, 221, 246, 184, 220, 148, 222, 202, 203, 354, 355, 277, 257, 273, 151, 261, 262, 356, 357, 358, 265, 56, 155, 157, 158, 159, 160, 161, 47, 24, 25, 26, 232, 211, 212, 213, 181, 234, 235, 164, 195, 165, 153, 154, 309, 359, 301, 310, 311, 312, 223, 224, 214, 183, 225, 200, 259, 260, 258, 360, 270, 280, 269, 274, 275, 264, 361, 362, 363, 205, 276, 66, 166, 41, 42, 226, 227, 228, 229, 230, 231, 193, 197, 271, 272, 268, 364, 365, 279, 366, 367, 368, 369, 48, 49, 216, 278, 281, 370, 371, 372, 373, 374, 375, 376, 50, 51, 52, 53, 54, 55, 57, 58, 59, 60, 233, 282, 283, 190, 191, 377, 378, 61, 62, 63, 64, 65, 379, 380, 67, 381, 382, 68, 69, 70, 71, 72, 73, 74, 75, 76, 77, 78, 79, 80, 82, 83, 168, 89, 383, 284, 285, 286, 287, 288]
def tyT : List Nat := [0, 1, 2, 3, 4, 5, 6, 7, 8, 9, 10, 11, 12, 13, 14, 15, 16, 17, 18, 19, 20, 21, 35, 26, 1000000, 1000000, 1000000, 1000000, 1000000, 1000000, 1000000, 1000000, 89, 1000000, 1000000, 1000000, 64, 1000000, 101, 1000000, 110, 1000000, 71, 34, 1000000, 1000000, 1000000, 109, 91, 92, 151, 1000000, 1000000, 1000000, 1000000, 1000000, 1000000, 1000000, 1000000, 1000000, 1000000, 90, 163, 67, 1000000, 1000000, 226, 1000000, 1000000, 1000000, 1000000, 1000000, 1000000, 150, 178, 179, 147, 55, 191, 192, 193, 194, 195, 196, 197, 172, 198, 199, 206, 207, 208, 209, 210, 211, 216, 217, 218, 220, 221, 222, 223, 224, 225, 227, 228, 229, 230, 231, 232, 233, 234, 235, 22, 23, 24, 25, 27, 42, 46, 47, 48, 49, 28, 31, 1000000, 53, 39, 1000000, 45, 52, 43, 58, 59, 100, 61, 62, 63, 36, 1000000, 60, 1000000, 81, 1000000, 139, 1000000, 65, 66, 86, 87, 88, 94, 99, 1000000, 102, 1000000, 1000000, 105, 106, 103, 104, 107, 108, 136, 140, 98, 148, 149, 95, 82, 162, 122, 120, 121, 135, 1000000, 1000000, 1000000, 84, 79, 80, 1000000, 201, 202, 1000000, 1000000, 74, 75, 153, 154, 129, 155, 85, 138, 161, 124, 125, 126, 127, 128, 115, 116, 111, 117, 118, 119, 133, 112, 180, 181, 182, 130, 137, 132, 134, 164, 165, 166, 167, 152, 1000000, 131, 32, 1000000, 51, 141, 123, 70, 93, 1000000, 168, 157, 158, 159, 212, 205, 29, 30, 33, 37, 38, 40, 41, 44, 50, 54, 56, 57, 68, 69, 72, 73, 76, 77, 78, 83, 96, 97, 113, 114, 142, 143, 144, 145, 146, 156, 160, 169, 170, 171, 173, 174, 175, 176, 177, 183, 184, 185, 186, 187, 188, 189, 190, 200, 203, 204, 213, 214, 215, 219]
def ctT : List Nat := [0, 1, 2, 3, 4, 5, 6, 7, 8, 9, 10, 11, 12, 13, 14, 15, 16, 17, 18, 19, 20, 21, 112, 113, 114, 115, 23, 116, 122, 235, 236, 123, 221, 237, 43, 22, 137, 238, 239, 126, 240, 241, 117, 130, 242, 128, 118, 119, 120, 121, 243, 223, 129, 125, 244, 77, 245, 246, 131, 132, 139, 134, 135, 136, 36, 145, 146, 63, 247, 248, 226, 42, 249, 250, 185, 186, 251, 252, 253, 178, 179, 141, 168, 254, 177, 191, 147, 148, 149, 32, 61, 48, 49, 227, 150, 167, 255, 256, 164, 151, 133, 38, 153, 158, 159, 156, 157, 160, 161, 47, 40, 201, 206, 257, 258, 199, 200, 202, 203, 204, 171, 172, 170, 225, 194, 195, 196, 197, 198, 189, 210, 220, 212, 205, 213, 173, 162, 211, 192, 143, 163, 224, 259, 260, 261, 262, 263, 76, 165, 166, 73, 50, 218, 187, 188, 190, 264, 230, 231, 232, 265, 193, 169, 62, 214, 215, 216, 217, 229, 266, 267, 268, 85, 269, 270, 271, 272, 273, 74, 75, 207, 208, 209, 274, 275, 276, 277, 278, 279, 280, 281, 78, 79, 80, 81, 82, 83, 84, 86, 87, 282, 181, 182, 283, 284, 234, 88, 89, 90, 91, 92, 93, 233, 285, 286, 287, 94, 95, 96, 288, 97, 98, 99, 100, 101, 102, 66, 103, 104, 105, 106, 107, 108, 109, 110, 111]
noncomputable def seat : Seat := { P := Tryz.prog, fn := fun c => fnT.getD c 1000000, ty := fun c => tyT.getD c 1000000, cf := fun c => cfT.getD c 1000000, ct := fun c => ctT.getD c 1000000, gl := [(1, Lib.deBruijn64tab)] }
end Go.Proofs.YtihhinbjhiankaaGreatDoor.Al

namespace Go.Proofs.YtihhinbjhiankaaGreatDoor.Al
open Go
theorem Shape.map {S : Seat} {t : TypeId} {α β : Type} {E : α → AV} {W : α → Prop} {F : β → AV} {V : β → Prop} (h : Shape S t E W) (f : α → β) (h1 : ∀ a, (F (f a)).cells = (E a).cells) (h2 : ∀ a, W a → V (f a)) : Shape S t F V := by
  intro H enc w base sp held fuel cs x hx hsz
  obtain ⟨a, ha, ht⟩ := h hx hsz
  exact ⟨f a, h2 a ha, by rw [h1]; exact ht⟩

theorem shapeInt : Shape seat 3 (AV.int .i64) In64 := Shape.int (k := .i64) (t := 3) (by kernel_rfl)
theorem shapeU8 : Shape seat 5 (AV.int .u8) (fun n => IntKind.u8.min ≤ n ∧ n ≤ IntKind.u8.max) := Shape.int (k := .u8) (t := 5) (by kernel_rfl)
theorem shapeOct : Shape seat 23 octs Oct := Shape.slice (t := 23) (e := 5) (sz := 1) (by kernel_rfl) (by kernel_rfl) (by decide) (fun _ => rfl) shapeU8
theorem shapeNums : Shape seat 35 ints Nums := Shape.slice (t := 35) (e := 3) (sz := 1) (by kernel_rfl) (by kernel_rfl) (by decide) (fun _ => rfl) shapeInt
theorem shapeLeaf : Shape seat 25 leafA Leaf.Ok := Shape.map (Shape.struct (t := 25) (fs := #[⟨"Enc", 23, 0, false, "", "", 0⟩, ⟨"Cred", 23, 1, false, "", "", 24⟩, ⟨"Source", 3, 2, false, "", "", 48⟩, ⟨"Parent", 23, 3, false, "", "", 56⟩]) (n := 4) (by kernel_rfl) (by kernel_rfl) (fun _ => rfl) (.cons (sz := 1) rfl (by kernel_rfl) (fun _ => rfl) shapeOct (.cons (sz := 1) rfl (by kernel_rfl) (fun _ => rfl) shapeOct (.cons (sz := 1) rfl (by kernel_rfl) (fun _ => rfl) shapeInt (.cons (sz := 1) rfl (by kernel_rfl) (fun _ => rfl) shapeOct (.nil _)))))) (fun p => ⟨p.1, p.2.1, p.2.2.1, p.2.2.2.1⟩) (fun _ => rfl) (fun _ h => ⟨h.1, h.2.1, h.2.2.2.1, h.2.2.1⟩)
theorem shapeInner : Shape seat 47 innerA Inner.Ok := Shape.map (Shape.struct (t := 47) (fs := #[⟨"Enc", 23, 0, false, "", "", 0⟩, ⟨"Hash", 23, 1, false, "", "", 24⟩, ⟨"Unmerged", 35, 2, false, "", "", 48⟩]) (n := 3) (by kernel_rfl) (by kernel_rfl) (fun _ => rfl) (.cons (sz := 1) rfl (by kernel_rfl) (fun _ => rfl) shapeOct (.cons (sz := 1) rfl (by kernel_rfl) (fun _ => rfl) shapeOct (.cons (sz := 1) rfl (by kernel_rfl) (fun _ => rfl) shapeNums (.nil _))))) (fun p => ⟨p.1, p.2.1, p.2.2.1⟩) (fun _ => rfl) (fun _ h => ⟨h.1, h.2.1, h.2.2.1⟩)
theorem shapeNode : Shape seat 49 nodeA Node.Ok := Shape.map (Shape.struct (t := 49) (fs := #[⟨"Kind", 3, 0, false, "", "", 0⟩, ⟨"Leaf", 25, 1, false, "", "", 8⟩, ⟨"Inner", 47, 5, false, "", "", 88⟩]) (n := 8) (by kernel_rfl) (by kernel_rfl) (fun _ => rfl) (.cons (sz := 1) rfl (by kernel_rfl) (fun _ => rfl) shapeInt (.cons (sz := 4) rfl (by kernel_rfl) (fun _ => rfl) shapeLeaf (.cons (sz := 3) rfl (by kernel_rfl) (fun _ => rfl) shapeInner (.nil _))))) (fun p => ⟨p.1, p.2.1, p.2.2.1⟩) (fun _ => rfl) (fun _ h => ⟨h.2.1, h.2.2.1, h.1⟩)
theorem shapeNodes : Shape seat 22 nodes Tree.Ok := Shape.slice (t := 22) (e := 49) (sz := 8) (by kernel_rfl) (by kernel_rfl) (by decide) (fun _ => rfl) shapeNode
end Go.Proofs.YtihhinbjhiankaaGreatDoor.Al

namespace Go.Proofs.YtihhinbjhiankaaGreatDoor.Al
open Go Go.RowKit
theorem g64_at : Tryz.prog.globalNamed "math/bits.deBruijn64tab" = some 1 := by kernel_rfl
theorem t64_at : (Tryz.prog.globals[1]?).map (·.type) = some 205 := by kernel_rfl
theorem tab64_eq : (Rows.laid_math_bits_deBruijn64tab : DataW Unit) = Lib.tabData .u8 (Lib.deBruijn64tab.map Int.ofNat) := by kernel_rfl
def laidL : List (String × DataW Unit) := [("math/bits.deBruijn32tab", Rows.laid_math_bits_deBruijn32tab), ("math/bits.deBruijn64tab", Rows.laid_math_bits_deBruijn64tab)]
theorem laid_gl {W : World} (h : laidMetH Tryz.prog laidL W) : GlOk seat (fun b => b < W.heap.size) W := by
  rw [MakeChecks.laidMetH_plain _ _ _ (by kernel_rfl)] at h
  obtain ⟨ps, ⟨g0, t0, cs0, f0, p0, q0, hg0, ht0, hv0, hd0, ⟨g1, t1, cs1, f1, p1, q1, hg1, ht1, hv1, hd1, _, _⟩, _⟩, _, _⟩ := h
  obtain rfl := Option.some.inj (g64_at.symm.trans hg1)
  obtain rfl := Option.some.inj (t64_at.symm.trans ht1)
  rw [tab64_eq] at hd1
  have hc := Lib.cells_of_tab (n := 64) (e := 5) (by kernel_rfl) (by kernel_rfl) (by kernel_rfl) (by kernel_rfl) hd1
  have hcell : ∀ j, j < Lib.deBruijn64tab.length → W.cell? ⟨1, j, none⟩ = some (.int .u8 (Lib.deBruijn64tab.getD j 0 : Nat)) := by
    intro j hj
    have := World.var?_cell hg1 hv1 j
    rw [this]
    have e : cs1.toList = (Lib.deBruijn64tab.map Int.ofNat).map fun z => Value.int .u8 z := hc
    rw [← Array.getElem?_toList, e]
    simp [List.getD_eq_getElem?_getD, hj]
  intro p hp
  have hp' : p = (1, Lib.deBruijn64tab) := by simpa [seat] using hp
  subst hp'
  refine ⟨?_, hcell⟩
  have h0 := hcell 0 (by decide)
  by_cases hlt : 1 < W.heap.size
  · exact hlt
  · exfalso
    have : W.heap[1]? = none := Array.getElem?_eq_none (by omega)
    simp [World.cell?, this] at h0
theorem door_met (os : Os) (args : Array Value) : laidMetH Tryz.prog laidL ((World.doorLaid Tryz.prog 400 os).forCall (fun _ _ => 0) ⟨#[], args, []⟩).memory :=
  laidMetH_of_parts3 (fuel := 8) (laidMet_of_run' 8 (by kernel_rfl) (by kernel_rfl)) (by kernel_rfl) (by kernel_rfl)
end Go.Proofs.YtihhinbjhiankaaGreatDoor.Al

namespace Go.Proofs.YtihhinbjhiankaaGreatDoor.Al
open Go

def il24 : IFn := ⟨61, [.t 2], .seq (.region [⟨some 2, .mv (.c (.list true [])), none, []⟩] false) (.seq (.seq (.region [⟨some 6, .mv (.t 0), none, []⟩, ⟨some 7, .len (.t 6), none, [0]⟩, ⟨some 8, .bin false .lss (.t 7) (.c (.int .i64 2)), none, [1]⟩] false) (.cond (.t 8) (.seq (.region [⟨some 9, .mv (.t 0), none, []⟩, ⟨some 2, .mv (.t 9), none, [0, 0]⟩] false) .ret) .skip)) (.seq (.seq (.region [⟨some 3, .mv (.c (.int .i64 1)), none, []⟩] false) (.block 0 (.loop (.seq (.seq (.region [⟨some 10, .mv (.t 3), none, []⟩, ⟨some 11, .mv (.t 0), none, []⟩, ⟨some 12, .len (.t 11), none, [1]⟩, ⟨some 13, .bin false .lss (.t 10) (.t 12), none, [0, 2]⟩] false) (.cond (.t 13) .skip (.exit 0))) (.seq (.block 1 (.seq (.region [⟨some 16, .mv (.t 0), none, []⟩, ⟨some 17, .mv (.t 3), none, []⟩, ⟨some 18, .iaddr 1 (.t 16) (.t 17), none, [0, 1]⟩, ⟨some 19, .load false 1 (.t 18), none, [2]⟩, ⟨some 20, .mv (.t 0), none, []⟩, ⟨some 21, .mv (.t 3), none, []⟩, ⟨some 22, .bin false .sub (.t 21) (.c (.int .i64 1)), none, [5]⟩, ⟨some 23, .iaddr 1 (.t 20) (.t 22), none, [4, 6]⟩, ⟨some 24, .load false 1 (.t 23), none, [7]⟩, ⟨some 25, .bin false .eql (.t 19) (.t 24), none, [3, 8]⟩] true) (.cond (.t 25) (.seq (.region [⟨some 26, .mv (.t 0), none, []⟩, ⟨some 27, .mv (.t 3), none, []⟩, ⟨some 28, .slice 1 (.t 26) (some (.t 27)) none none, none, [0, 1]⟩, ⟨some 4, .mv (.t 28), none, [2, 0, 1, 2]⟩] false) (.seq (.seq (.region [⟨some 5, .mv (.c (.int .i64 1)), none, []⟩] false) (.block 2 (.loop (.seq (.seq (.region [⟨some 29, .mv (.t 5), none, []⟩, ⟨some 30, .mv (.t 4), none, []⟩, ⟨some 31, .len (.t 30), none, [1]⟩, ⟨some 32, .bin false .lss (.t 29) (.t 31), none, [0, 2]⟩] false) (.cond (.t 32) .skip (.exit 2))) (.seq (.block 3 (.seq (.region [⟨some 35, .mv (.t 4), none, []⟩, ⟨some 36, .mv (.t 5), none, []⟩, ⟨some 37, .iaddr 1 (.t 35) (.t 36), none, [0, 1]⟩, ⟨some 38, .load false 1 (.t 37), none, [2]⟩, ⟨some 39, .mv (.t 4), none, []⟩, ⟨some 40, .mv (.t 5), none, []⟩, ⟨some 41, .bin false .sub (.t 40) (.c (.int .i64 1)), none, [5]⟩, ⟨some 42, .iaddr 1 (.t 39) (.t 41), none, [4, 6]⟩, ⟨some 43, .load false 1 (.t 42), none, [7]⟩, ⟨some 44, .bin false .neq (.t 38) (.t 43), none, [3, 8]⟩] true) (.cond (.t 44) (.seq (.region [⟨some 45, .mv (.t 0), none, []⟩, ⟨some 46, .mv (.t 3), none, []⟩, ⟨some 47, .mv (.t 4), none, []⟩, ⟨some 48, .mv (.t 5), none, []⟩, ⟨some 49, .iaddr 1 (.t 47) (.t 48), none, [2, 3]⟩, ⟨some 50, .load false 1 (.t 49), none, [4]⟩, ⟨some 51, .iaddr 1 (.t 45) (.t 46), none, [0, 1, 0, 1, 2, 3, 4, 5]⟩, ⟨none, .store 1 (.t 51) (.t 50), none, [6, 5, 0, 1, 2, 3, 4, 5]⟩] false) (.region [⟨some 52, .mv (.t 3), none, []⟩, ⟨some 53, .bin false .add (.t 52) (.c (.int .i64 1)), none, [0]⟩, ⟨some 3, .mv (.t 53), none, [1, 0, 1]⟩] false)) .skip))) (.region [⟨some 33, .mv (.t 5), none, []⟩, ⟨some 34, .bin false .add (.t 33) (.c (.int .i64 1)), none, [0]⟩, ⟨some 5, .mv (.t 34), none, [1, 0, 1]⟩] false)))))) (.seq (.region [⟨some 54, .mv (.t 0), none, []⟩, ⟨some 55, .mv (.t 3), none, []⟩, ⟨some 56, .slice 1 (.t 54) (some (.t 55)) none none, none, [0, 1]⟩, ⟨none, .clear 1 (.int .i64 0) (.t 56), none, [2]⟩] false) (.seq (.region [⟨some 57, .mv (.t 0), none, []⟩, ⟨some 58, .mv (.t 3), none, []⟩, ⟨some 59, .slice 1 (.t 57) none (some (.t 58)) none, none, [0, 1]⟩, ⟨some 2, .mv (.t 59), none, [2, 0, 1, 2]⟩] false) .ret)))) .skip))) (.region [⟨some 14, .mv (.t 3), none, []⟩, ⟨some 15, .bin false .add (.t 14) (.c (.int .i64 1)), none, [0]⟩, ⟨some 3, .mv (.t 15), none, [1, 0, 1]⟩] false)))))) (.seq (.region [⟨some 60, .mv (.t 0), none, []⟩, ⟨some 2, .mv (.t 60), none, [0, 0]⟩] false) .ret)))⟩
theorem told24 : trFn seat 24 = some il24 := by kernel_rfl

def il25 : IFn := ⟨9, [.t 2], .seq (.region [⟨some 2, .mv (.c (.list true [])), none, []⟩] false) (.seq (.region [⟨some 4, .mv (.t 0), none, []⟩, ⟨some 5, .call (.f 40) [.t 4], none, [0]⟩, ⟨some 3, .mv (.t 5), none, [1, 1, 0, 1]⟩] false) (.seq (.region [⟨some 6, .mv (.t 3), none, []⟩, ⟨some 7, .call (.f 41) [.t 6], none, [0]⟩] false) (.seq (.region [⟨some 8, .mv (.t 3), none, []⟩, ⟨some 2, .mv (.t 8), none, [0, 0]⟩] false) .ret)))⟩
theorem told25 : trFn seat 25 = some il25 := by kernel_rfl

def il26 : IFn := ⟨4, [.t 2], .seq (.region [⟨some 1, .box (.t 0), none, []⟩, ⟨some 2, .mv (.c .nilfunc), none, []⟩] false) (.seq (.region [⟨some 3, .mkfunc 42 [] [.t 1], none, []⟩, ⟨some 2, .mv (.t 3), none, [0, 0]⟩] false) .ret)⟩
theorem told26 : trFn seat 26 = some il26 := by kernel_rfl

def il35 : IFn := ⟨26, [.t 4], .seq (.region [⟨some 4, .mv (.c (.bool false)), none, []⟩] false) (.seq (.seq (.region [⟨some 6, .mv (.t 0), none, []⟩, ⟨some 7, .len (.t 6), none, [0]⟩, ⟨some 8, .mv (.t 1), none, []⟩, ⟨some 9, .len (.t 8), none, [2]⟩, ⟨some 10, .bin false .neq (.t 7) (.t 9), none, [1, 3]⟩] false) (.cond (.t 10) (.seq (.region [⟨some 4, .mv (.c (.bool false)), none, []⟩] false) .ret) .skip)) (.seq (.seq (.region [⟨some 5, .mv (.c (.int .i64 0)), none, []⟩] false) (.block 0 (.loop (.seq (.seq (.region [⟨some 11, .mv (.t 5), none, []⟩, ⟨some 12, .mv (.t 0), none, []⟩, ⟨some 13, .len (.t 12), none, [1]⟩, ⟨some 14, .bin false .lss (.t 11) (.t 13), none, [0, 2]⟩] false) (.cond (.t 14) .skip (.exit 0))) (.seq (.block 1 (.seq (.region [⟨some 17, .mv (.t 0), none, []⟩, ⟨some 18, .mv (.t 5), none, []⟩, ⟨some 19, .iaddr 1 (.t 17) (.t 18), none, [0, 1]⟩, ⟨some 20, .load false 1 (.t 19), none, [2]⟩, ⟨some 21, .mv (.t 1), none, []⟩, ⟨some 22, .mv (.t 5), none, []⟩, ⟨some 23, .iaddr 1 (.t 21) (.t 22), none, [4, 5]⟩, ⟨some 24, .load false 1 (.t 23), none, [6]⟩, ⟨some 25, .bin false .neq (.t 20) (.t 24), none, [3, 7]⟩] true) (.cond (.t 25) (.seq (.region [⟨some 4, .mv (.c (.bool false)), none, []⟩] false) .ret) .skip))) (.region [⟨some 15, .mv (.t 5), none, []⟩, ⟨some 16, .bin false .add (.t 15) (.c (.int .i64 1)), none, [0]⟩, ⟨some 5, .mv (.t 16), none, [1, 0, 1]⟩] false)))))) (.seq (.region [⟨some 4, .mv (.c (.bool true)), none, []⟩] false) .ret)))⟩
theorem told35 : trFn seat 35 = some il35 := by kernel_rfl

def il40 : IFn := ⟨5, [.t 2], .seq (.region [⟨some 2, .mv (.c (.list true [])), none, []⟩] false) (.seq (.region [⟨some 3, .mv (.t 0), none, []⟩, ⟨some 4, .call (.f 47) [.c (.list true []), .t 3], none, [0]⟩, ⟨some 2, .mv (.t 4), none, [1, 1, 0, 1]⟩] false) .ret)⟩
theorem told40 : trFn seat 40 = some il40 := by kernel_rfl

def il41 : IFn := ⟨11, [], .seq (.region [⟨some 3, .mv (.t 0), none, []⟩, ⟨some 4, .len (.t 3), none, [0]⟩, ⟨some 2, .mv (.t 4), none, [1, 0, 1]⟩] false) (.region [⟨some 5, .mv (.t 0), none, []⟩, ⟨some 6, .mv (.t 2), none, []⟩, ⟨some 7, .mv (.t 2), none, []⟩, ⟨some 8, .convI .u64 (.t 7), none, [2]⟩, ⟨some 9, .call (.f 49) [.t 8], none, [3]⟩, ⟨some 10, .call (.f 48) [.t 5, .c (.int .i64 0), .t 6, .t 9], none, [0, 1, 4, 4]⟩] false)⟩
theorem told41 : trFn seat 41 = some il41 := by kernel_rfl

def il42 : IFn := ⟨16, [], .seq (.region [⟨some 5, .load false 1 (.t 1), none, []⟩, ⟨some 6, .len (.t 5), none, [0]⟩, ⟨some 7, .mv (.c (.int .i64 0)), none, []⟩] false) (.block 0 (.loop (.seq (.region [⟨some 8, .bin false .lss (.t 7) (.t 6), none, []⟩] false) (.seq (.cond (.t 8) .skip (.exit 0)) (.seq (.block 1 (.seq (.region [⟨some 9, .iaddr 1 (.t 5) (.t 7), none, []⟩, ⟨some 10, .load false 1 (.t 9), none, [0]⟩, ⟨some 4, .mv (.t 10), none, [1, 0, 1]⟩] false) (.seq (.region [⟨some 11, .mv (.t 0), none, []⟩, ⟨some 12, .mv (.t 4), none, []⟩, ⟨some 13, .call (.t 11) [.t 12], none, [0, 1]⟩, ⟨some 14, .un .not (.t 13), none, [2]⟩] false) (.cond (.t 14) .ret .skip)))) (.region [⟨some 15, .bin false .add (.t 7) (.c (.int .i64 1)), none, []⟩, ⟨some 7, .mv (.t 15), none, [0]⟩] false))))))⟩
theorem told42 : trFn seat 42 = some il42 := by kernel_rfl

def il47 : IFn := ⟨13, [.t 4], .seq (.region [⟨some 2, .box (.t 0), none, []⟩, ⟨some 4, .mv (.c (.list true [])), none, []⟩] false) (.seq (.seq (.region [⟨some 6, .mv (.t 1), none, []⟩] false) (.block 0 (.rangeFunc (.t 6) [7] (.region [⟨some 5, .mv (.t 7), none, []⟩] false) (.block 1 (.region [⟨some 8, .load false 1 (.t 2), none, []⟩, ⟨some 9, .mv (.t 5), none, []⟩, ⟨some 10, .bslice 1 1 (.int .i64 0) [(0, (.t 9))], none, [1]⟩, ⟨some 11, .append 1 8 (.t 8) (.t 10), none, [0, 2]⟩, ⟨none, .store 1 (.t 2) (.t 11), none, [3, 3, 0, 1, 2, 3]⟩] false))))) (.seq (.region [⟨some 12, .load false 1 (.t 2), none, []⟩, ⟨some 4, .mv (.t 12), none, [0, 0]⟩] false) .ret))⟩
theorem told47 : trFn seat 47 = some il47 := by kernel_rfl

def il100 : IFn := ⟨19, [.t 2], .seq (.region [⟨some 2, .mv (.c (.bool false)), none, []⟩] false) (.seq (.seq (.region [⟨some 3, .mv (.c (.int .i64 0)), none, []⟩] false) (.block 0 (.loop (.seq (.seq (.region [⟨some 4, .mv (.t 3), none, []⟩, ⟨some 5, .mv (.t 0), none, []⟩, ⟨some 6, .len (.t 5), none, [1]⟩, ⟨some 7, .bin false .lss (.t 4) (.t 6), none, [0, 2]⟩] false) (.cond (.t 7) .skip (.exit 0))) (.seq (.block 1 (.seq (.region [⟨some 10, .mv (.t 0), none, []⟩, ⟨some 11, .mv (.t 3), none, []⟩, ⟨some 12, .iaddr 8 (.t 10) (.t 11), none, [0, 1]⟩, ⟨some 13, .load true 8 (.t 12), none, [2]⟩, ⟨some 14, .call (.f 122) [.t 13], none, [3]⟩, ⟨some 15, .un .not (.t 14), none, [4]⟩] false) (.cond (.t 15) (.seq (.region [⟨some 2, .mv (.c (.bool false)), none, []⟩] false) .ret) .skip))) (.region [⟨some 8, .mv (.t 3), none, []⟩, ⟨some 9, .bin false .add (.t 8) (.c (.int .i64 1)), none, [0]⟩, ⟨some 3, .mv (.t 9), none, [1, 0, 1]⟩] false)))))) (.seq (.region [⟨some 16, .mv (.t 0), none, []⟩, ⟨some 17, .len (.t 16), none, [0]⟩, ⟨some 18, .bin false .leq (.t 17) (.c (.int .i64 300)), none, [1]⟩, ⟨some 2, .mv (.t 18), none, [2, 0, 1, 2]⟩] false) .ret))⟩
theorem told100 : trFn seat 100 = some il100 := by kernel_rfl

def il101 : IFn := ⟨31, [.t 2], .seq (.region [⟨some 2, .mv (.c (.bool false)), none, []⟩] false) (.seq (.seq (.region [⟨some 5, .mv (.t 0), none, []⟩, ⟨some 6, .len (.t 5), none, [0]⟩, ⟨some 7, .mv (.c (.int .i64 0)), none, []⟩] false) (.block 0 (.loop (.seq (.region [⟨some 8, .bin false .lss (.t 7) (.t 6), none, []⟩] false) (.seq (.cond (.t 8) .skip (.exit 0)) (.seq (.block 1 (.seq (.region [⟨some 9, .mv (.t 7), none, []⟩, ⟨some 10, .iaddr 8 (.t 5) (.t 7), none, []⟩, ⟨some 11, .load true 8 (.t 10), none, [1]⟩, ⟨some 4, .alloc [.int .i64 0, .list true [], .list true [], .int .i64 0, .list true [], .list true [], .list true [], .list true []], none, []⟩, ⟨some 3, .mv (.t 9), none, [0, 0, 1, 2, 3]⟩, ⟨none, .store 8 (.t 4) (.t 11), none, [3, 2, 4, 0, 1, 2, 3, 4]⟩] false) (.seq (.region [⟨some 12, .mv (.t 3), none, []⟩, ⟨some 13, .faddr 0 (.t 4), none, []⟩, ⟨some 14, .load false 1 (.t 13), none, [1]⟩, ⟨some 15, .call (.f 123) [.t 12, .t 14], none, [0, 2]⟩, ⟨some 16, .un .not (.t 15), none, [3]⟩, ⟨some 17, .mv (.t 16), none, [4, 3]⟩, ⟨some 18, .load true 8 (.t 4), some (17, false), [5]⟩, ⟨some 19, .call (.f 124) [.t 18], some (17, false), [6, 5, 5]⟩, ⟨some 20, .bin false .neq (.t 19) (.c (.int .i64 0)), some (17, false), [7, 5]⟩, ⟨some 21, .pick (.t 17) (.c (.bool true)) (.t 20), none, [5, 8]⟩] false) (.cond (.t 21) (.seq (.region [⟨some 2, .mv (.c (.bool false)), none, []⟩] false) .ret) .skip)))) (.region [⟨some 22, .bin false .add (.t 7) (.c (.int .i64 1)), none, []⟩, ⟨some 7, .mv (.t 22), none, [0]⟩] false))))))) (.seq (.region [⟨some 23, .mv (.t 0), none, []⟩, ⟨some 24, .len (.t 23), none, [0]⟩, ⟨some 25, .bin false .eql (.t 24) (.c (.int .i64 0)), none, [1]⟩, ⟨some 26, .mv (.t 25), none, [2]⟩, ⟨some 27, .mv (.t 0), some (26, false), [3]⟩, ⟨some 28, .len (.t 27), some (26, false), [4, 3]⟩, ⟨some 29, .call (.f 125) [.t 28], some (26, false), [5, 3, 3]⟩, ⟨some 30, .pick (.t 26) (.c (.bool true)) (.t 29), none, [3, 6]⟩, ⟨some 2, .mv (.t 30), none, [7, 6, 0, 1, 2, 3, 4, 5, 6, 7]⟩] false) .ret))⟩
theorem told101 : trFn seat 101 = some il101 := by kernel_rfl

def il104 : IFn := ⟨14, [.cell 2 false 1], .seq (.region [⟨some 2, .alloc [.int .i64 0], none, []⟩] false) (.seq (.seq (.region [⟨some 5, .mv (.t 0), none, []⟩, ⟨some 6, .call (.f 126) [.t 5], none, [0]⟩, ⟨some 7, .call (.f 128) [.t 6], none, [1, 1]⟩] false) (.block 0 (.rangeFunc (.t 7) [8, 9] (.seq (.region [⟨some 3, .mv (.t 8), none, []⟩] false) (.region [⟨some 4, .alloc [.int .i64 0, .list true [], .list true [], .int .i64 0, .list true [], .list true [], .list true [], .list true []], none, []⟩, ⟨none, .store 8 (.t 4) (.t 9), none, [0, 0]⟩] false)) (.block 1 (.seq (.region [⟨some 10, .load true 8 (.t 4), none, []⟩, ⟨some 11, .call (.f 127) [.t 10], none, [0]⟩, ⟨some 12, .un .not (.t 11), none, [1]⟩] false) (.cond (.t 12) (.seq (.region [⟨some 13, .mv (.t 3), none, []⟩, ⟨none, .store 1 (.t 2) (.t 13), none, [0, 0]⟩] false) .ret) .skip)))))) (.seq (.region [⟨none, .store 1 (.t 2) (.c (.int .i64 (-1))), none, []⟩] false) .ret))⟩
theorem told104 : trFn seat 104 = some il104 := by kernel_rfl

def il106 : IFn := ⟨27, [.t 4], .seq (.region [⟨some 4, .mv (.c (.bool false)), none, []⟩] false) (.seq (.seq (.region [⟨some 6, .mv (.t 0), none, []⟩, ⟨some 7, .len (.t 6), none, [0]⟩, ⟨some 8, .mv (.t 1), none, []⟩, ⟨some 9, .len (.t 8), none, [2]⟩, ⟨some 10, .bin false .neq (.t 7) (.t 9), none, [1, 3]⟩] false) (.cond (.t 10) (.seq (.region [⟨some 4, .mv (.c (.bool false)), none, []⟩] false) .ret) .skip)) (.seq (.seq (.region [⟨some 5, .mv (.c (.int .i64 0)), none, []⟩] false) (.block 0 (.loop (.seq (.seq (.region [⟨some 11, .mv (.t 5), none, []⟩, ⟨some 12, .mv (.t 0), none, []⟩, ⟨some 13, .len (.t 12), none, [1]⟩, ⟨some 14, .bin false .lss (.t 11) (.t 13), none, [0, 2]⟩] false) (.cond (.t 14) .skip (.exit 0))) (.seq (.block 1 (.seq (.region [⟨some 17, .mv (.t 0), none, []⟩, ⟨some 18, .mv (.t 5), none, []⟩, ⟨some 19, .iaddr 8 (.t 17) (.t 18), none, [0, 1]⟩, ⟨some 20, .load true 8 (.t 19), none, [2]⟩, ⟨some 21, .mv (.t 1), none, []⟩, ⟨some 22, .mv (.t 5), none, []⟩, ⟨some 23, .iaddr 8 (.t 21) (.t 22), none, [4, 5]⟩, ⟨some 24, .load true 8 (.t 23), none, [6]⟩, ⟨some 25, .call (.f 130) [.t 20, .t 24], none, [3, 7]⟩, ⟨some 26, .un .not (.t 25), none, [8]⟩] true) (.cond (.t 26) (.seq (.region [⟨some 4, .mv (.c (.bool false)), none, []⟩] false) .ret) .skip))) (.region [⟨some 15, .mv (.t 5), none, []⟩, ⟨some 16, .bin false .add (.t 15) (.c (.int .i64 1)), none, [0]⟩, ⟨some 5, .mv (.t 16), none, [1, 0, 1]⟩] false)))))) (.seq (.region [⟨some 4, .mv (.c (.bool true)), none, []⟩] false) .ret)))⟩
theorem told106 : trFn seat 106 = some il106 := by kernel_rfl

def il109 : IFn := ⟨8, [.t 2], .seq (.region [⟨some 2, .mv (.c (.int .i64 0)), none, []⟩] false) (.seq (.seq (.region [⟨some 3, .mv (.t 0), none, []⟩, ⟨some 4, .call (.f 125) [.t 3], none, [0]⟩, ⟨some 5, .un .not (.t 4), none, [1]⟩] false) (.cond (.t 5) (.seq (.region [⟨some 2, .mv (.c (.int .i64 (-1))), none, []⟩] false) .ret) .skip)) (.seq (.region [⟨some 6, .mv (.t 0), none, []⟩, ⟨some 7, .bin false .quo (.t 6) (.c (.int .i64 2)), none, [0]⟩, ⟨some 2, .mv (.t 7), none, [1, 0, 1]⟩] false) .ret))⟩
theorem told109 : trFn seat 109 = some il109 := by kernel_rfl

def il122 : IFn := ⟨11, [.t 2], .seq (.region [⟨some 1, .box (.t 0), none, []⟩, ⟨some 2, .mv (.c (.bool false)), none, []⟩] false) (.seq (.region [⟨some 3, .faddr 1 (.t 1), none, []⟩, ⟨some 4, .load true 4 (.t 3), none, [0]⟩, ⟨some 5, .call (.f 144) [.t 4], none, [1]⟩, ⟨some 6, .mv (.t 5), none, [2, 2]⟩, ⟨some 7, .faddr 5 (.t 1), some (6, true), [3]⟩, ⟨some 8, .load true 3 (.t 7), some (6, true), [4, 3]⟩, ⟨some 9, .call (.f 145) [.t 8], some (6, true), [5, 3, 3]⟩, ⟨some 10, .pick (.t 6) (.t 9) (.c (.bool false)), none, [3, 6]⟩, ⟨some 2, .mv (.t 10), none, [7, 6, 0, 1, 2, 3, 4, 5, 6, 7]⟩] false) .ret)⟩
theorem told122 : trFn seat 122 = some il122 := by kernel_rfl

def il123 : IFn := ⟨12, [.t 4], .seq (.region [⟨some 4, .mv (.c (.bool false)), none, []⟩] false) (.seq (.seq (.region [⟨some 5, .mv (.t 0), none, []⟩, ⟨some 6, .bin false .rem (.t 5) (.c (.int .i64 2)), none, [0]⟩, ⟨some 7, .bin false .eql (.t 6) (.c (.int .i64 0)), none, [1]⟩] false) (.cond (.t 7) (.seq (.region [⟨some 8, .mv (.t 1), none, []⟩, ⟨some 9, .bin false .neq (.t 8) (.c (.int .i64 2)), none, [0]⟩, ⟨some 4, .mv (.t 9), none, [1, 0, 1]⟩] false) .ret) .skip)) (.seq (.region [⟨some 10, .mv (.t 1), none, []⟩, ⟨some 11, .bin false .neq (.t 10) (.c (.int .i64 1)), none, [0]⟩, ⟨some 4, .mv (.t 11), none, [1, 0, 1]⟩] false) .ret))⟩
theorem told123 : trFn seat 123 = some il123 := by kernel_rfl

def il124 : IFn := ⟨47, [.t 2], .seq (.region [⟨some 1, .box (.t 0), none, []⟩, ⟨some 2, .mv (.c (.int .i64 0)), none, []⟩] false) (.seq (.block 0 (.seq (.region [⟨some 4, .faddr 0 (.t 1), none, []⟩, ⟨some 5, .load false 1 (.t 4), none, [0]⟩, ⟨some 6, .bin false .lss (.t 5) (.c (.int .i64 0)), none, [1]⟩, ⟨some 7, .mv (.t 6), none, [2]⟩, ⟨some 8, .faddr 0 (.t 1), some (7, false), [3]⟩, ⟨some 9, .load false 1 (.t 8), some (7, false), [4, 3]⟩, ⟨some 10, .bin false .gtr (.t 9) (.c (.int .i64 2)), some (7, false), [5, 3]⟩, ⟨some 11, .pick (.t 7) (.c (.bool true)) (.t 10), none, [3, 6]⟩, ⟨some 3, .mv (.t 11), none, [7, 3]⟩] false) (.cond (.t 3) (.seq (.region [⟨some 2, .mv (.c (.int .i64 7)), none, []⟩] false) .ret) (.seq (.seq (.region [⟨some 13, .faddr 0 (.t 1), none, []⟩, ⟨some 14, .load false 1 (.t 13), none, [0]⟩, ⟨some 15, .bin false .neq (.t 14) (.c (.int .i64 1)), none, [1]⟩, ⟨some 16, .mv (.t 15), none, [2]⟩, ⟨some 17, .faddr 1 (.t 1), some (16, true), [3]⟩, ⟨some 18, .load true 4 (.t 17), some (16, true), [4, 3]⟩, ⟨some 19, .build [.list true [], .list true [], .int .i64 0, .list true []] [], some (16, true), [3]⟩, ⟨some 20, .call (.f 142) [.t 18, .t 19], some (16, true), [5, 6, 3, 3]⟩, ⟨some 21, .un .not (.t 20), some (16, true), [7, 3]⟩, ⟨some 22, .pick (.t 16) (.t 21) (.c (.bool false)), none, [3, 8]⟩, ⟨some 12, .mv (.t 22), none, [9, 7]⟩] false) (.cond (.t 12) .skip (.region [⟨some 23, .faddr 0 (.t 1), none, []⟩, ⟨some 24, .load false 1 (.t 23), none, [0]⟩, ⟨some 25, .bin false .neq (.t 24) (.c (.int .i64 2)), none, [1]⟩, ⟨some 26, .mv (.t 25), none, [2]⟩, ⟨some 27, .faddr 5 (.t 1), some (26, true), [3]⟩, ⟨some 28, .load true 3 (.t 27), some (26, true), [4, 3]⟩, ⟨some 29, .build [.list true [], .list true [], .list true []] [], some (26, true), [3]⟩, ⟨some 30, .call (.f 143) [.t 28, .t 29], some (26, true), [5, 6, 3, 3]⟩, ⟨some 31, .un .not (.t 30), some (26, true), [7, 3]⟩, ⟨some 32, .pick (.t 26) (.t 31) (.c (.bool false)), none, [3, 8]⟩, ⟨some 12, .mv (.t 32), none, [9, 7]⟩] false))) (.cond (.t 12) (.seq (.region [⟨some 2, .mv (.c (.int .i64 2)), none, []⟩] false) .ret) (.seq (.region [⟨some 34, .faddr 0 (.t 1), none, []⟩, ⟨some 35, .load false 1 (.t 34), none, [0]⟩, ⟨some 36, .bin false .eql (.t 35) (.c (.int .i64 1)), none, [1]⟩, ⟨some 33, .mv (.t 36), none, [2]⟩] false) (.cond (.t 33) (.seq (.region [⟨some 37, .faddr 1 (.t 1), none, []⟩, ⟨some 38, .load true 4 (.t 37), none, [0]⟩, ⟨some 39, .call (.f 146) [.t 38], none, [1]⟩, ⟨some 2, .mv (.t 39), none, [2, 2, 0, 1, 2]⟩] false) .ret) (.seq (.region [⟨some 41, .faddr 0 (.t 1), none, []⟩, ⟨some 42, .load false 1 (.t 41), none, [0]⟩, ⟨some 43, .bin false .eql (.t 42) (.c (.int .i64 2)), none, [1]⟩, ⟨some 40, .mv (.t 43), none, [2]⟩] false) (.cond (.t 40) (.seq (.region [⟨some 44, .faddr 5 (.t 1), none, []⟩, ⟨some 45, .load true 3 (.t 44), none, [0]⟩, ⟨some 46, .call (.f 147) [.t 45], none, [1]⟩, ⟨some 2, .mv (.t 46), none, [2, 2, 0, 1, 2]⟩] false) .ret) .skip))))))))) (.seq (.region [⟨some 2, .mv (.c (.int .i64 0)), none, []⟩] false) .ret))⟩
theorem told124 : trFn seat 124 = some il124 := by kernel_rfl

def il125 : IFn := ⟨16, [.t 2], .seq (.region [⟨some 2, .mv (.c (.bool false)), none, []⟩] false) (.seq (.region [⟨some 3, .mv (.t 0), none, []⟩, ⟨some 4, .bin false .gtr (.t 3) (.c (.int .i64 0)), none, [0]⟩, ⟨some 5, .mv (.t 4), none, [1]⟩, ⟨some 6, .mv (.t 0), some (5, true), [2]⟩, ⟨some 7, .bin false .leq (.t 6) (.c (.int .i64 127)), some (5, true), [3, 2]⟩, ⟨some 8, .pick (.t 5) (.t 7) (.c (.bool false)), none, [2, 4]⟩, ⟨some 9, .mv (.t 8), none, [5, 2]⟩, ⟨some 10, .mv (.t 0), some (9, true), [6]⟩, ⟨some 11, .mv (.t 0), some (9, true), [6]⟩, ⟨some 12, .bin false .add (.t 11) (.c (.int .i64 1)), some (9, true), [8, 6]⟩, ⟨some 13, .bin false .and (.t 10) (.t 12), some (9, true), [7, 9, 6]⟩, ⟨some 14, .bin false .eql (.t 13) (.c (.int .i64 0)), some (9, true), [10, 6]⟩, ⟨some 15, .pick (.t 9) (.t 14) (.c (.bool false)), none, [6, 11]⟩, ⟨some 2, .mv (.t 15), none, [12, 6, 0, 1, 2, 3, 4, 5, 6, 7, 8, 9, 10, 11, 12]⟩] false) .ret)⟩
theorem told125 : trFn seat 125 = some il125 := by kernel_rfl

def il126 : IFn := ⟨6, [.t 2], .seq (.region [⟨some 2, .mv (.c (.list true [])), none, []⟩] false) (.seq (.seq (.region [⟨some 3, .mv (.t 0), none, []⟩, ⟨some 4, .call (.f 101) [.t 3], none, [0]⟩] false) (.cond (.t 4) (.seq (.region [⟨some 5, .mv (.t 0), none, []⟩, ⟨some 2, .mv (.t 5), none, [0, 0]⟩] false) .ret) .skip)) (.seq (.region [⟨some 2, .mv (.c (.list true [])), none, []⟩] false) .ret))⟩
theorem told126 : trFn seat 126 = some il126 := by kernel_rfl

def il127 : IFn := ⟨6, [.t 2], .seq (.region [⟨some 1, .box (.t 0), none, []⟩, ⟨some 2, .mv (.c (.bool false)), none, []⟩] false) (.seq (.region [⟨some 3, .faddr 0 (.t 1), none, []⟩, ⟨some 4, .load false 1 (.t 3), none, [0]⟩, ⟨some 5, .bin false .eql (.t 4) (.c (.int .i64 0)), none, [1]⟩, ⟨some 2, .mv (.t 5), none, [2, 0, 1, 2]⟩] false) .ret)⟩
theorem told127 : trFn seat 127 = some il127 := by kernel_rfl

def il128 : IFn := ⟨4, [.t 2], .seq (.region [⟨some 1, .box (.t 0), none, []⟩, ⟨some 2, .mv (.c .nilfunc), none, []⟩] false) (.seq (.region [⟨some 3, .mkfunc 148 [] [.t 1], none, []⟩, ⟨some 2, .mv (.t 3), none, [0, 0]⟩] false) .ret)⟩
theorem told128 : trFn seat 128 = some il128 := by kernel_rfl

def il130 : IFn := ⟨24, [.t 4], .seq (.region [⟨some 2, .box (.t 0), none, []⟩, ⟨some 3, .box (.t 1), none, []⟩, ⟨some 4, .mv (.c (.bool false)), none, []⟩] false) (.seq (.region [⟨some 5, .faddr 0 (.t 2), none, []⟩, ⟨some 6, .load false 1 (.t 5), none, [0]⟩, ⟨some 7, .faddr 0 (.t 3), none, []⟩, ⟨some 8, .load false 1 (.t 7), none, [2]⟩, ⟨some 9, .bin false .eql (.t 6) (.t 8), none, [1, 3]⟩, ⟨some 10, .mv (.t 9), none, [4]⟩, ⟨some 11, .faddr 1 (.t 2), some (10, true), [5]⟩, ⟨some 12, .load true 4 (.t 11), some (10, true), [6, 5]⟩, ⟨some 13, .faddr 1 (.t 3), some (10, true), [5]⟩, ⟨some 14, .load true 4 (.t 13), some (10, true), [8, 5]⟩, ⟨some 15, .call (.f 149) [.t 12, .t 14], some (10, true), [7, 9, 5, 5]⟩, ⟨some 16, .pick (.t 10) (.t 15) (.c (.bool false)), none, [5, 10]⟩, ⟨some 17, .mv (.t 16), none, [11, 10]⟩, ⟨some 18, .faddr 5 (.t 2), some (17, true), [12]⟩, ⟨some 19, .load true 3 (.t 18), some (17, true), [13, 12]⟩, ⟨some 20, .faddr 5 (.t 3), some (17, true), [12]⟩, ⟨some 21, .load true 3 (.t 20), some (17, true), [15, 12]⟩, ⟨some 22, .call (.f 150) [.t 19, .t 21], some (17, true), [14, 16, 12, 12]⟩, ⟨some 23, .pick (.t 17) (.t 22) (.c (.bool false)), none, [12, 17]⟩, ⟨some 4, .mv (.t 23), none, [18, 17, 0, 1, 2, 3, 4, 5, 6, 7, 8, 9, 10, 11, 12, 13, 14, 15, 16, 17, 18]⟩] false) .ret)⟩
theorem told130 : trFn seat 130 = some il130 := by kernel_rfl

def il137 : IFn := ⟨7, [.t 2], .seq (.region [⟨some 2, .mv (.c (.list true [])), none, []⟩] false) (.seq (.seq (.region [⟨some 3, .mv (.t 0), none, []⟩, ⟨some 4, .call (.f 139) [.t 3], none, [0]⟩, ⟨some 5, .un .not (.t 4), none, [1]⟩] false) (.cond (.t 5) (.seq (.region [⟨some 2, .mv (.c (.list true [])), none, []⟩] false) .ret) .skip)) (.seq (.region [⟨some 6, .mv (.t 0), none, []⟩, ⟨some 2, .mv (.t 6), none, [0, 0]⟩] false) .ret))⟩
theorem told137 : trFn seat 137 = some il137 := by kernel_rfl

def il139 : IFn := ⟨33, [.t 2], .seq (.region [⟨some 2, .mv (.c (.bool false)), none, []⟩] false) (.seq (.seq (.region [⟨some 4, .mv (.t 0), none, []⟩, ⟨some 5, .len (.t 4), none, [0]⟩, ⟨some 6, .bin false .eql (.t 5) (.c (.int .i64 0)), none, [1]⟩] false) (.cond (.t 6) (.seq (.region [⟨some 2, .mv (.c (.bool true)), none, []⟩] false) .ret) .skip)) (.seq (.seq (.region [⟨some 7, .mv (.t 0), none, []⟩, ⟨some 8, .len (.t 7), none, [0]⟩, ⟨some 9, .call (.f 152) [.t 8], none, [1]⟩, ⟨some 10, .un .not (.t 9), none, [2]⟩] false) (.cond (.t 10) (.seq (.region [⟨some 2, .mv (.c (.bool false)), none, []⟩] false) .ret) .skip)) (.seq (.seq (.region [⟨some 3, .mv (.c (.int .i64 0)), none, []⟩] false) (.block 0 (.loop (.seq (.seq (.region [⟨some 11, .mv (.t 3), none, []⟩, ⟨some 12, .mv (.t 0), none, []⟩, ⟨some 13, .len (.t 12), none, [1]⟩, ⟨some 14, .bin false .lss (.t 11) (.t 13), none, [0, 2]⟩] false) (.cond (.t 14) .skip (.exit 0))) (.seq (.block 1 (.seq (.region [⟨some 17, .mv (.t 0), none, []⟩, ⟨some 18, .mv (.t 3), none, []⟩, ⟨some 19, .iaddr 8 (.t 17) (.t 18), none, [0, 1]⟩, ⟨some 20, .load true 8 (.t 19), none, [2]⟩, ⟨some 21, .call (.f 153) [.t 20], none, [3]⟩, ⟨some 22, .bin false .neq (.t 21) (.c (.int .i64 0)), none, [4]⟩, ⟨some 23, .mv (.t 22), none, [5, 4]⟩, ⟨some 24, .mv (.t 3), some (23, false), [6]⟩, ⟨some 25, .mv (.t 0), some (23, false), [6]⟩, ⟨some 26, .mv (.t 3), some (23, false), [6]⟩, ⟨some 27, .iaddr 8 (.t 25) (.t 26), some (23, false), [8, 9, 6]⟩, ⟨some 28, .faddr 0 (.t 27), some (23, false), [10, 6]⟩, ⟨some 29, .load false 1 (.t 28), some (23, false), [11, 6]⟩, ⟨some 30, .call (.f 154) [.t 24, .t 29], some (23, false), [7, 12, 6, 6]⟩, ⟨some 31, .un .not (.t 30), some (23, false), [13, 6]⟩, ⟨some 32, .pick (.t 23) (.c (.bool true)) (.t 31), none, [6, 14]⟩] false) (.cond (.t 32) (.seq (.region [⟨some 2, .mv (.c (.bool false)), none, []⟩] false) .ret) .skip))) (.region [⟨some 15, .mv (.t 3), none, []⟩, ⟨some 16, .bin false .add (.t 15) (.c (.int .i64 1)), none, [0]⟩, ⟨some 3, .mv (.t 16), none, [1, 0, 1]⟩] false)))))) (.seq (.region [⟨some 2, .mv (.c (.bool true)), none, []⟩] false) .ret))))⟩
theorem told139 : trFn seat 139 = some il139 := by kernel_rfl

def il142 : IFn := ⟨31, [.t 4], .seq (.region [⟨some 2, .box (.t 0), none, []⟩, ⟨some 3, .box (.t 1), none, []⟩, ⟨some 4, .mv (.c (.bool false)), none, []⟩] false) (.seq (.region [⟨some 5, .faddr 2 (.t 2), none, []⟩, ⟨some 6, .load false 1 (.t 5), none, [0]⟩, ⟨some 7, .faddr 2 (.t 3), none, []⟩, ⟨some 8, .load false 1 (.t 7), none, [2]⟩, ⟨some 9, .bin false .eql (.t 6) (.t 8), none, [1, 3]⟩, ⟨some 10, .mv (.t 9), none, [4]⟩, ⟨some 11, .faddr 0 (.t 2), some (10, true), [5]⟩, ⟨some 12, .load false 1 (.t 11), some (10, true), [6, 5]⟩, ⟨some 13, .faddr 0 (.t 3), some (10, true), [5]⟩, ⟨some 14, .load false 1 (.t 13), some (10, true), [8, 5]⟩, ⟨some 15, .call (.f 156) [.t 12, .t 14], some (10, true), [7, 9, 5, 5]⟩, ⟨some 16, .pick (.t 10) (.t 15) (.c (.bool false)), none, [5, 10]⟩, ⟨some 17, .mv (.t 16), none, [11, 10]⟩, ⟨some 18, .faddr 1 (.t 2), some (17, true), [12]⟩, ⟨some 19, .load false 1 (.t 18), some (17, true), [13, 12]⟩, ⟨some 20, .faddr 1 (.t 3), some (17, true), [12]⟩, ⟨some 21, .load false 1 (.t 20), some (17, true), [15, 12]⟩, ⟨some 22, .call (.f 156) [.t 19, .t 21], some (17, true), [14, 16, 12, 12]⟩, ⟨some 23, .pick (.t 17) (.t 22) (.c (.bool false)), none, [12, 17]⟩, ⟨some 24, .mv (.t 23), none, [18, 17]⟩, ⟨some 25, .faddr 3 (.t 2), some (24, true), [19]⟩, ⟨some 26, .load false 1 (.t 25), some (24, true), [20, 19]⟩, ⟨some 27, .faddr 3 (.t 3), some (24, true), [19]⟩, ⟨some 28, .load false 1 (.t 27), some (24, true), [22, 19]⟩, ⟨some 29, .call (.f 156) [.t 26, .t 28], some (24, true), [21, 23, 19, 19]⟩, ⟨some 30, .pick (.t 24) (.t 29) (.c (.bool false)), none, [19, 24]⟩, ⟨some 4, .mv (.t 30), none, [25, 24, 0, 1, 2, 3, 4, 5, 6, 7, 8, 9, 10, 11, 12, 13, 14, 15, 16, 17, 18, 19, 20, 21, 22, 23, 24, 25]⟩] false) .ret)⟩
theorem told142 : trFn seat 142 = some il142 := by kernel_rfl

def il143 : IFn := ⟨24, [.t 4], .seq (.region [⟨some 2, .box (.t 0), none, []⟩, ⟨some 3, .box (.t 1), none, []⟩, ⟨some 4, .mv (.c (.bool false)), none, []⟩] false) (.seq (.region [⟨some 5, .faddr 0 (.t 2), none, []⟩, ⟨some 6, .load false 1 (.t 5), none, [0]⟩, ⟨some 7, .faddr 0 (.t 3), none, []⟩, ⟨some 8, .load false 1 (.t 7), none, [2]⟩, ⟨some 9, .call (.f 156) [.t 6, .t 8], none, [1, 3]⟩, ⟨some 10, .mv (.t 9), none, [4, 4]⟩, ⟨some 11, .faddr 1 (.t 2), some (10, true), [5]⟩, ⟨some 12, .load false 1 (.t 11), some (10, true), [6, 5]⟩, ⟨some 13, .faddr 1 (.t 3), some (10, true), [5]⟩, ⟨some 14, .load false 1 (.t 13), some (10, true), [8, 5]⟩, ⟨some 15, .call (.f 156) [.t 12, .t 14], some (10, true), [7, 9, 5, 5]⟩, ⟨some 16, .pick (.t 10) (.t 15) (.c (.bool false)), none, [5, 10]⟩, ⟨some 17, .mv (.t 16), none, [11, 10]⟩, ⟨some 18, .faddr 2 (.t 2), some (17, true), [12]⟩, ⟨some 19, .load false 1 (.t 18), some (17, true), [13, 12]⟩, ⟨some 20, .faddr 2 (.t 3), some (17, true), [12]⟩, ⟨some 21, .load false 1 (.t 20), some (17, true), [15, 12]⟩, ⟨some 22, .call (.f 157) [.t 19, .t 21], some (17, true), [14, 16, 12, 12]⟩, ⟨some 23, .pick (.t 17) (.t 22) (.c (.bool false)), none, [12, 17]⟩, ⟨some 4, .mv (.t 23), none, [18, 17, 0, 1, 2, 3, 4, 5, 6, 7, 8, 9, 10, 11, 12, 13, 14, 15, 16, 17, 18]⟩] false) .ret)⟩
theorem told143 : trFn seat 143 = some il143 := by kernel_rfl

def il144 : IFn := ⟨15, [.t 2], .seq (.region [⟨some 1, .box (.t 0), none, []⟩, ⟨some 2, .mv (.c (.bool false)), none, []⟩] false) (.seq (.region [⟨some 3, .faddr 0 (.t 1), none, []⟩, ⟨some 4, .load false 1 (.t 3), none, [0]⟩, ⟨some 5, .len (.t 4), none, [1]⟩, ⟨some 6, .faddr 1 (.t 1), none, []⟩, ⟨some 7, .load false 1 (.t 6), none, [3]⟩, ⟨some 8, .len (.t 7), none, [4]⟩, ⟨some 9, .bin false .add (.t 5) (.t 8), none, [2, 5]⟩, ⟨some 10, .faddr 3 (.t 1), none, []⟩, ⟨some 11, .load false 1 (.t 10), none, [7]⟩, ⟨some 12, .len (.t 11), none, [8]⟩, ⟨some 13, .bin false .add (.t 9) (.t 12), none, [6, 9]⟩, ⟨some 14, .bin false .leq (.t 13) (.c (.int .i64 1000)), none, [10]⟩, ⟨some 2, .mv (.t 14), none, [11, 0, 1, 2, 3, 4, 5, 6, 7, 8, 9, 10, 11]⟩] false) .ret)⟩
theorem told144 : trFn seat 144 = some il144 := by kernel_rfl

def il145 : IFn := ⟨15, [.t 2], .seq (.region [⟨some 1, .box (.t 0), none, []⟩, ⟨some 2, .mv (.c (.bool false)), none, []⟩] false) (.seq (.region [⟨some 3, .faddr 0 (.t 1), none, []⟩, ⟨some 4, .load false 1 (.t 3), none, [0]⟩, ⟨some 5, .len (.t 4), none, [1]⟩, ⟨some 6, .faddr 1 (.t 1), none, []⟩, ⟨some 7, .load false 1 (.t 6), none, [3]⟩, ⟨some 8, .len (.t 7), none, [4]⟩, ⟨some 9, .bin false .add (.t 5) (.t 8), none, [2, 5]⟩, ⟨some 10, .faddr 2 (.t 1), none, []⟩, ⟨some 11, .load false 1 (.t 10), none, [7]⟩, ⟨some 12, .len (.t 11), none, [8]⟩, ⟨some 13, .bin false .add (.t 9) (.t 12), none, [6, 9]⟩, ⟨some 14, .bin false .leq (.t 13) (.c (.int .i64 600)), none, [10]⟩, ⟨some 2, .mv (.t 14), none, [11, 0, 1, 2, 3, 4, 5, 6, 7, 8, 9, 10, 11]⟩] false) .ret)⟩
theorem told145 : trFn seat 145 = some il145 := by kernel_rfl

def il146 : IFn := ⟨34, [.t 2], .seq (.region [⟨some 1, .box (.t 0), none, []⟩, ⟨some 2, .mv (.c (.int .i64 0)), none, []⟩] false) (.seq (.region [⟨some 3, .mv (.f 158), none, []⟩] false) (.seq (.block 0 (.seq (.region [⟨some 5, .faddr 0 (.t 1), none, []⟩, ⟨some 6, .load false 1 (.t 5), none, [0]⟩, ⟨some 7, .len (.t 6), none, [1]⟩, ⟨some 8, .bin false .eql (.t 7) (.c (.int .i64 0)), none, [2]⟩, ⟨some 4, .mv (.t 8), none, [3]⟩] false) (.cond (.t 4) (.seq (.region [⟨some 2, .mv (.c (.int .i64 5)), none, []⟩] false) .ret) (.seq (.region [⟨some 10, .faddr 0 (.t 1), none, []⟩, ⟨some 11, .load false 1 (.t 10), none, [0]⟩, ⟨some 12, .faddr 1 (.t 1), none, []⟩, ⟨some 13, .load false 1 (.t 12), none, [2]⟩, ⟨some 14, .faddr 3 (.t 1), none, []⟩, ⟨some 15, .load false 1 (.t 14), none, [4]⟩, ⟨some 16, .bslice 1 3 (.list true []) [(0, (.t 11)), (1, (.t 13)), (2, (.t 15))], none, [1, 3, 5]⟩, ⟨some 17, .mv (.t 3), none, []⟩, ⟨some 18, .call (.f 159) [.t 16, .t 17], none, [6, 7]⟩, ⟨some 9, .mv (.t 18), none, [8, 8]⟩] false) (.cond (.t 9) (.seq (.region [⟨some 2, .mv (.c (.int .i64 4)), none, []⟩] false) .ret) (.seq (.region [⟨some 20, .faddr 2 (.t 1), none, []⟩, ⟨some 21, .load false 1 (.t 20), none, [0]⟩, ⟨some 22, .call (.f 160) [.t 21], none, [1]⟩, ⟨some 23, .un .not (.t 22), none, [2]⟩, ⟨some 19, .mv (.t 23), none, [3, 2]⟩] false) (.cond (.t 19) (.seq (.region [⟨some 2, .mv (.c (.int .i64 7)), none, []⟩] false) .ret) (.seq (.region [⟨some 25, .faddr 2 (.t 1), none, []⟩, ⟨some 26, .load false 1 (.t 25), none, [0]⟩, ⟨some 27, .bin false .neq (.t 26) (.c (.int .i64 3)), none, [1]⟩, ⟨some 28, .mv (.t 27), none, [2]⟩, ⟨some 29, .faddr 3 (.t 1), some (28, true), [3]⟩, ⟨some 30, .load false 1 (.t 29), some (28, true), [4, 3]⟩, ⟨some 31, .len (.t 30), some (28, true), [5, 3]⟩, ⟨some 32, .bin false .gtr (.t 31) (.c (.int .i64 0)), some (28, true), [6, 3]⟩, ⟨some 33, .pick (.t 28) (.t 32) (.c (.bool false)), none, [3, 7]⟩, ⟨some 24, .mv (.t 33), none, [8, 3]⟩] false) (.cond (.t 24) (.seq (.region [⟨some 2, .mv (.c (.int .i64 2)), none, []⟩] false) .ret) .skip))))))))) (.seq (.region [⟨some 2, .mv (.c (.int .i64 0)), none, []⟩] false) .ret)))⟩
theorem told146 : trFn seat 146 = some il146 := by kernel_rfl

def il147 : IFn := ⟨39, [.t 2], .seq (.region [⟨some 1, .box (.t 0), none, []⟩, ⟨some 2, .mv (.c (.int .i64 0)), none, []⟩] false) (.seq (.region [⟨some 3, .mv (.f 161), none, []⟩] false) (.seq (.block 0 (.seq (.region [⟨some 5, .faddr 0 (.t 1), none, []⟩, ⟨some 6, .load false 1 (.t 5), none, [0]⟩, ⟨some 7, .len (.t 6), none, [1]⟩, ⟨some 8, .bin false .eql (.t 7) (.c (.int .i64 0)), none, [2]⟩, ⟨some 4, .mv (.t 8), none, [3]⟩] false) (.cond (.t 4) (.seq (.region [⟨some 2, .mv (.c (.int .i64 5)), none, []⟩] false) .ret) (.seq (.region [⟨some 10, .faddr 0 (.t 1), none, []⟩, ⟨some 11, .load false 1 (.t 10), none, [0]⟩, ⟨some 12, .len (.t 11), none, [1]⟩, ⟨some 13, .bin false .gtr (.t 12) (.c (.int .i64 200)), none, [2]⟩, ⟨some 14, .mv (.t 13), none, [3]⟩, ⟨some 15, .faddr 1 (.t 1), some (14, false), [4]⟩, ⟨some 16, .load false 1 (.t 15), some (14, false), [5, 4]⟩, ⟨some 17, .len (.t 16), some (14, false), [6, 4]⟩, ⟨some 18, .bin false .gtr (.t 17) (.c (.int .i64 200)), some (14, false), [7, 4]⟩, ⟨some 19, .pick (.t 14) (.c (.bool true)) (.t 18), none, [4, 8]⟩, ⟨some 20, .mv (.t 19), none, [9, 4]⟩, ⟨some 21, .faddr 2 (.t 1), some (20, false), [10]⟩, ⟨some 22, .load false 1 (.t 21), some (20, false), [11, 10]⟩, ⟨some 23, .len (.t 22), some (20, false), [12, 10]⟩, ⟨some 24, .bin false .gtr (.t 23) (.c (.int .i64 64)), some (20, false), [13, 10]⟩, ⟨some 25, .pick (.t 20) (.c (.bool true)) (.t 24), none, [10, 14]⟩, ⟨some 9, .mv (.t 25), none, [15, 10]⟩] false) (.cond (.t 9) (.seq (.region [⟨some 2, .mv (.c (.int .i64 4)), none, []⟩] false) .ret) (.seq (.region [⟨some 27, .faddr 2 (.t 1), none, []⟩, ⟨some 28, .load false 1 (.t 27), none, [0]⟩, ⟨some 29, .mv (.t 3), none, []⟩, ⟨some 30, .call (.f 162) [.t 28, .t 29], none, [1, 2]⟩, ⟨some 26, .mv (.t 30), none, [3, 3]⟩] false) (.cond (.t 26) (.seq (.region [⟨some 2, .mv (.c (.int .i64 3)), none, []⟩] false) .ret) (.seq (.region [⟨some 32, .faddr 2 (.t 1), none, []⟩, ⟨some 33, .load false 1 (.t 32), none, [0]⟩, ⟨some 34, .call (.f 163) [.t 33], none, [1]⟩, ⟨some 35, .faddr 2 (.t 1), none, []⟩, ⟨some 36, .load false 1 (.t 35), none, [3]⟩, ⟨some 37, .call (.f 157) [.t 34, .t 36], none, [2, 4, 2]⟩, ⟨some 38, .un .not (.t 37), none, [5]⟩, ⟨some 31, .mv (.t 38), none, [6, 5]⟩] true) (.cond (.t 31) (.seq (.region [⟨some 2, .mv (.c (.int .i64 8)), none, []⟩] false) .ret) .skip))))))))) (.seq (.region [⟨some 2, .mv (.c (.int .i64 0)), none, []⟩] false) .ret)))⟩
theorem told147 : trFn seat 147 = some il147 := by kernel_rfl

def il148 : IFn := ⟨19, [], .seq (.region [⟨some 4, .load false 1 (.t 1), none, []⟩, ⟨some 5, .len (.t 4), none, [0]⟩, ⟨some 6, .bin false .sub (.t 5) (.c (.int .i64 1)), none, [1]⟩, ⟨some 3, .mv (.t 6), none, [2, 0, 1, 2]⟩] false) (.block 0 (.loop (.seq (.seq (.region [⟨some 7, .mv (.t 3), none, []⟩, ⟨some 8, .bin false .geq (.t 7) (.c (.int .i64 0)), none, [0]⟩] false) (.cond (.t 8) .skip (.exit 0))) (.seq (.block 1 (.seq (.region [⟨some 11, .mv (.t 0), none, []⟩, ⟨some 12, .mv (.t 3), none, []⟩, ⟨some 13, .load false 1 (.t 1), none, []⟩, ⟨some 14, .mv (.t 3), none, []⟩, ⟨some 15, .iaddr 8 (.t 13) (.t 14), none, [2, 3]⟩, ⟨some 16, .load true 8 (.t 15), none, [4]⟩, ⟨some 17, .call (.t 11) [.t 12, .t 16], none, [0, 1, 5]⟩, ⟨some 18, .un .not (.t 17), none, [6]⟩] false) (.cond (.t 18) .ret .skip))) (.region [⟨some 9, .mv (.t 3), none, []⟩, ⟨some 10, .bin false .sub (.t 9) (.c (.int .i64 1)), none, [0]⟩, ⟨some 3, .mv (.t 10), none, [1, 0, 1]⟩] false)))))⟩
theorem told148 : trFn seat 148 = some il148 := by kernel_rfl

def il149 : IFn := ⟨37, [.t 4], .seq (.region [⟨some 2, .box (.t 0), none, []⟩, ⟨some 3, .box (.t 1), none, []⟩, ⟨some 4, .mv (.c (.bool false)), none, []⟩] false) (.seq (.region [⟨some 5, .faddr 0 (.t 2), none, []⟩, ⟨some 6, .load false 1 (.t 5), none, [0]⟩, ⟨some 7, .convS (.t 6), none, [1]⟩, ⟨some 8, .faddr 0 (.t 3), none, []⟩, ⟨some 9, .load false 1 (.t 8), none, [3]⟩, ⟨some 10, .convS (.t 9), none, [4]⟩, ⟨some 11, .bin false .eql (.t 7) (.t 10), none, [2, 5]⟩, ⟨some 12, .mv (.t 11), none, [6]⟩, ⟨some 13, .faddr 1 (.t 2), some (12, true), [7]⟩, ⟨some 14, .load false 1 (.t 13), some (12, true), [8, 7]⟩, ⟨some 15, .convS (.t 14), some (12, true), [9, 7]⟩, ⟨some 16, .faddr 1 (.t 3), some (12, true), [7]⟩, ⟨some 17, .load false 1 (.t 16), some (12, true), [11, 7]⟩, ⟨some 18, .convS (.t 17), some (12, true), [12, 7]⟩, ⟨some 19, .bin false .eql (.t 15) (.t 18), some (12, true), [10, 13, 7]⟩, ⟨some 20, .pick (.t 12) (.t 19) (.c (.bool false)), none, [7, 14]⟩, ⟨some 21, .mv (.t 20), none, [15, 7]⟩, ⟨some 22, .faddr 2 (.t 2), some (21, true), [16]⟩, ⟨some 23, .load false 1 (.t 22), some (21, true), [17, 16]⟩, ⟨some 24, .faddr 2 (.t 3), some (21, true), [16]⟩, ⟨some 25, .load false 1 (.t 24), some (21, true), [19, 16]⟩, ⟨some 26, .bin false .eql (.t 23) (.t 25), some (21, true), [18, 20, 16]⟩, ⟨some 27, .pick (.t 21) (.t 26) (.c (.bool false)), none, [16, 21]⟩, ⟨some 28, .mv (.t 27), none, [22, 16]⟩, ⟨some 29, .faddr 3 (.t 2), some (28, true), [23]⟩, ⟨some 30, .load false 1 (.t 29), some (28, true), [24, 23]⟩, ⟨some 31, .convS (.t 30), some (28, true), [25, 23]⟩, ⟨some 32, .faddr 3 (.t 3), some (28, true), [23]⟩, ⟨some 33, .load false 1 (.t 32), some (28, true), [27, 23]⟩, ⟨some 34, .convS (.t 33), some (28, true), [28, 23]⟩, ⟨some 35, .bin false .eql (.t 31) (.t 34), some (28, true), [26, 29, 23]⟩, ⟨some 36, .pick (.t 28) (.t 35) (.c (.bool false)), none, [23, 30]⟩, ⟨some 4, .mv (.t 36), none, [31, 23, 0, 1, 2, 3, 4, 5, 6, 7, 8, 9, 10, 11, 12, 13, 14, 15, 16, 17, 18, 19, 20, 21, 22, 23, 24, 25, 26, 27, 28, 29, 30, 31]⟩] false) .ret)⟩
theorem told149 : trFn seat 149 = some il149 := by kernel_rfl

def il150 : IFn := ⟨28, [.t 4], .seq (.region [⟨some 2, .box (.t 0), none, []⟩, ⟨some 3, .box (.t 1), none, []⟩, ⟨some 4, .mv (.c (.bool false)), none, []⟩] false) (.seq (.region [⟨some 5, .faddr 0 (.t 2), none, []⟩, ⟨some 6, .load false 1 (.t 5), none, [0]⟩, ⟨some 7, .convS (.t 6), none, [1]⟩, ⟨some 8, .faddr 0 (.t 3), none, []⟩, ⟨some 9, .load false 1 (.t 8), none, [3]⟩, ⟨some 10, .convS (.t 9), none, [4]⟩, ⟨some 11, .bin false .eql (.t 7) (.t 10), none, [2, 5]⟩, ⟨some 12, .mv (.t 11), none, [6]⟩, ⟨some 13, .faddr 1 (.t 2), some (12, true), [7]⟩, ⟨some 14, .load false 1 (.t 13), some (12, true), [8, 7]⟩, ⟨some 15, .convS (.t 14), some (12, true), [9, 7]⟩, ⟨some 16, .faddr 1 (.t 3), some (12, true), [7]⟩, ⟨some 17, .load false 1 (.t 16), some (12, true), [11, 7]⟩, ⟨some 18, .convS (.t 17), some (12, true), [12, 7]⟩, ⟨some 19, .bin false .eql (.t 15) (.t 18), some (12, true), [10, 13, 7]⟩, ⟨some 20, .pick (.t 12) (.t 19) (.c (.bool false)), none, [7, 14]⟩, ⟨some 21, .mv (.t 20), none, [15, 7]⟩, ⟨some 22, .faddr 2 (.t 2), some (21, true), [16]⟩, ⟨some 23, .load false 1 (.t 22), some (21, true), [17, 16]⟩, ⟨some 24, .faddr 2 (.t 3), some (21, true), [16]⟩, ⟨some 25, .load false 1 (.t 24), some (21, true), [19, 16]⟩, ⟨some 26, .call (.f 35) [.t 23, .t 25], some (21, true), [18, 20, 16, 16]⟩, ⟨some 27, .pick (.t 21) (.t 26) (.c (.bool false)), none, [16, 21]⟩, ⟨some 4, .mv (.t 27), none, [22, 21, 0, 1, 2, 3, 4, 5, 6, 7, 8, 9, 10, 11, 12, 13, 14, 15, 16, 17, 18, 19, 20, 21, 22]⟩] false) .ret)⟩
theorem told150 : trFn seat 150 = some il150 := by kernel_rfl

def il152 : IFn := ⟨12, [.t 2], .seq (.region [⟨some 2, .mv (.c (.bool false)), none, []⟩] false) (.seq (.seq (.region [⟨some 3, .mv (.c (.int .i64 1)), none, []⟩] false) (.block 0 (.loop (.seq (.seq (.region [⟨some 4, .mv (.t 3), none, []⟩, ⟨some 5, .bin false .leq (.t 4) (.c (.int .i64 127)), none, [0]⟩] false) (.cond (.t 5) .skip (.exit 0))) (.seq (.block 1 (.seq (.region [⟨some 9, .mv (.t 3), none, []⟩, ⟨some 10, .mv (.t 0), none, []⟩, ⟨some 11, .bin false .eql (.t 9) (.t 10), none, [0, 1]⟩] false) (.cond (.t 11) (.seq (.region [⟨some 2, .mv (.c (.bool true)), none, []⟩] false) .ret) .skip))) (.region [⟨some 6, .mv (.t 3), none, []⟩, ⟨some 7, .bin false .mul (.c (.int .i64 2)) (.t 6), none, [0]⟩, ⟨some 8, .bin false .add (.t 7) (.c (.int .i64 1)), none, [1]⟩, ⟨some 3, .mv (.t 8), none, [2, 0, 1, 2]⟩] false)))))) (.seq (.region [⟨some 2, .mv (.c (.bool false)), none, []⟩] false) .ret))⟩
theorem told152 : trFn seat 152 = some il152 := by kernel_rfl

def il153 : IFn := ⟨53, [.t 2], .seq (.region [⟨some 1, .box (.t 0), none, []⟩, ⟨some 2, .mv (.c (.int .i64 0)), none, []⟩] false) (.seq (.region [⟨some 5, .faddr 1 (.t 1), none, []⟩, ⟨some 6, .load true 4 (.t 5), none, [0]⟩, ⟨some 7, .build [.list true [], .list true [], .int .i64 0, .list true []] [], none, []⟩, ⟨some 8, .call (.f 149) [.t 6, .t 7], none, [1, 2]⟩, ⟨some 9, .un .not (.t 8), none, [3]⟩, ⟨some 3, .mv (.t 9), none, [4, 3, 0, 1, 2, 3, 4]⟩] false) (.seq (.region [⟨some 10, .faddr 5 (.t 1), none, []⟩, ⟨some 11, .load true 3 (.t 10), none, [0]⟩, ⟨some 12, .build [.list true [], .list true [], .list true []] [], none, []⟩, ⟨some 13, .call (.f 150) [.t 11, .t 12], none, [1, 2]⟩, ⟨some 14, .un .not (.t 13), none, [3]⟩, ⟨some 4, .mv (.t 14), none, [4, 3, 0, 1, 2, 3, 4]⟩] false) (.seq (.block 0 (.seq (.region [⟨some 16, .faddr 0 (.t 1), none, []⟩, ⟨some 17, .load false 1 (.t 16), none, [0]⟩, ⟨some 18, .bin false .lss (.t 17) (.c (.int .i64 0)), none, [1]⟩, ⟨some 19, .mv (.t 18), none, [2]⟩, ⟨some 20, .faddr 0 (.t 1), some (19, false), [3]⟩, ⟨some 21, .load false 1 (.t 20), some (19, false), [4, 3]⟩, ⟨some 22, .bin false .gtr (.t 21) (.c (.int .i64 2)), some (19, false), [5, 3]⟩, ⟨some 23, .pick (.t 19) (.c (.bool true)) (.t 22), none, [3, 6]⟩, ⟨some 15, .mv (.t 23), none, [7, 3]⟩] false) (.cond (.t 15) (.seq (.region [⟨some 2, .mv (.c (.int .i64 7)), none, []⟩] false) .ret) (.seq (.region [⟨some 25, .mv (.t 3), none, []⟩, ⟨some 26, .mv (.t 25), none, [0]⟩, ⟨some 27, .faddr 0 (.t 1), some (26, true), [1]⟩, ⟨some 28, .load false 1 (.t 27), some (26, true), [2, 1]⟩, ⟨some 29, .bin false .neq (.t 28) (.c (.int .i64 1)), some (26, true), [3, 1]⟩, ⟨some 30, .pick (.t 26) (.t 29) (.c (.bool false)), none, [1, 4]⟩, ⟨some 31, .mv (.t 30), none, [5, 1]⟩, ⟨some 32, .mv (.t 4), some (31, false), [6]⟩, ⟨some 33, .mv (.t 32), some (31, false), [7, 6, 6]⟩, ⟨some 34, .faddr 0 (.t 1), some (33, true), [8]⟩, ⟨some 35, .load false 1 (.t 34), some (33, true), [9, 8]⟩, ⟨some 36, .bin false .neq (.t 35) (.c (.int .i64 2)), some (33, true), [10, 8]⟩, ⟨some 37, .pick (.t 33) (.t 36) (.c (.bool false)), some (31, false), [8, 11, 6]⟩, ⟨some 38, .pick (.t 31) (.c (.bool true)) (.t 37), none, [6, 12]⟩, ⟨some 24, .mv (.t 38), none, [13, 8]⟩] false) (.cond (.t 24) (.seq (.region [⟨some 2, .mv (.c (.int .i64 2)), none, []⟩] false) .ret) (.seq (.region [⟨some 40, .faddr 0 (.t 1), none, []⟩, ⟨some 41, .load false 1 (.t 40), none, [0]⟩, ⟨some 42, .bin false .eql (.t 41) (.c (.int .i64 1)), none, [1]⟩, ⟨some 39, .mv (.t 42), none, [2]⟩] false) (.cond (.t 39) (.seq (.region [⟨some 43, .faddr 1 (.t 1), none, []⟩, ⟨some 44, .load true 4 (.t 43), none, [0]⟩, ⟨some 45, .call (.f 164) [.t 44], none, [1]⟩, ⟨some 2, .mv (.t 45), none, [2, 2, 0, 1, 2]⟩] false) .ret) (.seq (.region [⟨some 47, .faddr 0 (.t 1), none, []⟩, ⟨some 48, .load false 1 (.t 47), none, [0]⟩, ⟨some 49, .bin false .eql (.t 48) (.c (.int .i64 2)), none, [1]⟩, ⟨some 46, .mv (.t 49), none, [2]⟩] false) (.cond (.t 46) (.seq (.region [⟨some 50, .faddr 5 (.t 1), none, []⟩, ⟨some 51, .load true 3 (.t 50), none, [0]⟩, ⟨some 52, .call (.f 165) [.t 51], none, [1]⟩, ⟨some 2, .mv (.t 52), none, [2, 2, 0, 1, 2]⟩] false) .ret) .skip))))))))) (.seq (.region [⟨some 2, .mv (.c (.int .i64 0)), none, []⟩] false) .ret))))⟩
theorem told153 : trFn seat 153 = some il153 := by kernel_rfl

def il154 : IFn := ⟨21, [.t 4], .seq (.region [⟨some 4, .mv (.c (.bool false)), none, []⟩] false) (.seq (.region [⟨some 5, .mv (.t 0), none, []⟩, ⟨some 6, .bin false .rem (.t 5) (.c (.int .i64 2)), none, [0]⟩, ⟨some 7, .bin false .neq (.t 6) (.c (.int .i64 0)), none, [1]⟩, ⟨some 8, .mv (.t 7), none, [2]⟩, ⟨some 9, .mv (.t 1), some (8, false), [3]⟩, ⟨some 10, .bin false .neq (.t 9) (.c (.int .i64 2)), some (8, false), [4, 3]⟩, ⟨some 11, .pick (.t 8) (.c (.bool true)) (.t 10), none, [3, 5]⟩, ⟨some 12, .mv (.t 11), none, [6, 3]⟩, ⟨some 13, .mv (.t 0), some (12, true), [7]⟩, ⟨some 14, .bin false .rem (.t 13) (.c (.int .i64 2)), some (12, true), [8, 7]⟩, ⟨some 15, .bin false .eql (.t 14) (.c (.int .i64 0)), some (12, true), [9, 7]⟩, ⟨some 16, .mv (.t 15), some (12, true), [10, 7, 7]⟩, ⟨some 17, .mv (.t 1), some (16, false), [11]⟩, ⟨some 18, .bin false .neq (.t 17) (.c (.int .i64 1)), some (16, false), [12, 11]⟩, ⟨some 19, .pick (.t 16) (.c (.bool true)) (.t 18), some (12, true), [11, 13, 7]⟩, ⟨some 20, .pick (.t 12) (.t 19) (.c (.bool false)), none, [7, 14]⟩, ⟨some 4, .mv (.t 20), none, [15, 11, 0, 1, 2, 3, 4, 5, 6, 7, 8, 9, 10, 11, 12, 13, 14, 15]⟩] false) .ret)⟩
theorem told154 : trFn seat 154 = some il154 := by kernel_rfl

def il156 : IFn := ⟨10, [.t 4], .seq (.region [⟨some 4, .mv (.c (.bool false)), none, []⟩] false) (.seq (.region [⟨some 5, .mv (.t 0), none, []⟩, ⟨some 6, .convS (.t 5), none, [0]⟩, ⟨some 7, .mv (.t 1), none, []⟩, ⟨some 8, .convS (.t 7), none, [2]⟩, ⟨some 9, .bin false .eql (.t 6) (.t 8), none, [1, 3]⟩, ⟨some 4, .mv (.t 9), none, [4, 0, 1, 2, 3, 4]⟩] false) .ret)⟩
theorem told156 : trFn seat 156 = some il156 := by kernel_rfl

def il157 : IFn := ⟨26, [.t 4], .seq (.region [⟨some 4, .mv (.c (.bool false)), none, []⟩] false) (.seq (.seq (.region [⟨some 6, .mv (.t 0), none, []⟩, ⟨some 7, .len (.t 6), none, [0]⟩, ⟨some 8, .mv (.t 1), none, []⟩, ⟨some 9, .len (.t 8), none, [2]⟩, ⟨some 10, .bin false .neq (.t 7) (.t 9), none, [1, 3]⟩] false) (.cond (.t 10) (.seq (.region [⟨some 4, .mv (.c (.bool false)), none, []⟩] false) .ret) .skip)) (.seq (.seq (.region [⟨some 11, .mv (.t 0), none, []⟩, ⟨some 12, .len (.t 11), none, [0]⟩, ⟨some 13, .mv (.c (.int .i64 0)), none, []⟩] false) (.block 0 (.loop (.seq (.region [⟨some 14, .bin false .lss (.t 13) (.t 12), none, []⟩] false) (.seq (.cond (.t 14) .skip (.exit 0)) (.seq (.block 1 (.seq (.region [⟨some 15, .mv (.t 13), none, []⟩, ⟨some 5, .mv (.t 15), none, [0, 0]⟩] false) (.seq (.region [⟨some 16, .mv (.t 0), none, []⟩, ⟨some 17, .mv (.t 5), none, []⟩, ⟨some 18, .iaddr 1 (.t 16) (.t 17), none, [0, 1]⟩, ⟨some 19, .load false 1 (.t 18), none, [2]⟩, ⟨some 20, .mv (.t 1), none, []⟩, ⟨some 21, .mv (.t 5), none, []⟩, ⟨some 22, .iaddr 1 (.t 20) (.t 21), none, [4, 5]⟩, ⟨some 23, .load false 1 (.t 22), none, [6]⟩, ⟨some 24, .bin false .neq (.t 19) (.t 23), none, [3, 7]⟩] true) (.cond (.t 24) (.seq (.region [⟨some 4, .mv (.c (.bool false)), none, []⟩] false) .ret) .skip)))) (.region [⟨some 25, .bin false .add (.t 13) (.c (.int .i64 1)), none, []⟩, ⟨some 13, .mv (.t 25), none, [0]⟩] false))))))) (.seq (.region [⟨some 4, .mv (.c (.bool true)), none, []⟩] false) .ret)))⟩
theorem told157 : trFn seat 157 = some il157 := by kernel_rfl

def il158 : IFn := ⟨6, [.t 2], .seq (.region [⟨some 2, .mv (.c (.bool false)), none, []⟩] false) (.seq (.region [⟨some 3, .mv (.t 0), none, []⟩, ⟨some 4, .len (.t 3), none, [0]⟩, ⟨some 5, .bin false .gtr (.t 4) (.c (.int .i64 200)), none, [1]⟩, ⟨some 2, .mv (.t 5), none, [2, 0, 1, 2]⟩] false) .ret)⟩
theorem told158 : trFn seat 158 = some il158 := by kernel_rfl

def il159 : IFn := ⟨9, [.t 4], .seq (.region [⟨some 4, .mv (.c (.bool false)), none, []⟩] false) (.seq (.region [⟨some 5, .mv (.t 0), none, []⟩, ⟨some 6, .mv (.t 1), none, []⟩, ⟨some 7, .call (.f 166) [.t 5, .t 6], none, [0, 1]⟩, ⟨some 8, .bin false .geq (.t 7) (.c (.int .i64 0)), none, [2]⟩, ⟨some 4, .mv (.t 8), none, [3, 2, 0, 1, 2, 3]⟩] false) .ret)⟩
theorem told159 : trFn seat 159 = some il159 := by kernel_rfl

def il160 : IFn := ⟨9, [.t 2], .seq (.region [⟨some 2, .mv (.c (.bool false)), none, []⟩] false) (.seq (.region [⟨some 3, .mv (.t 0), none, []⟩, ⟨some 4, .bin false .geq (.t 3) (.c (.int .i64 1)), none, [0]⟩, ⟨some 5, .mv (.t 4), none, [1]⟩, ⟨some 6, .mv (.t 0), some (5, true), [2]⟩, ⟨some 7, .bin false .leq (.t 6) (.c (.int .i64 3)), some (5, true), [3, 2]⟩, ⟨some 8, .pick (.t 5) (.t 7) (.c (.bool false)), none, [2, 4]⟩, ⟨some 2, .mv (.t 8), none, [5, 2, 0, 1, 2, 3, 4, 5]⟩] false) .ret)⟩
theorem told160 : trFn seat 160 = some il160 := by kernel_rfl

def il161 : IFn := ⟨9, [.t 2], .seq (.region [⟨some 2, .mv (.c (.bool false)), none, []⟩] false) (.seq (.region [⟨some 3, .mv (.t 0), none, []⟩, ⟨some 4, .bin false .lss (.t 3) (.c (.int .i64 0)), none, [0]⟩, ⟨some 5, .mv (.t 4), none, [1]⟩, ⟨some 6, .mv (.t 0), some (5, false), [2]⟩, ⟨some 7, .bin false .gtr (.t 6) (.c (.int .i64 63)), some (5, false), [3, 2]⟩, ⟨some 8, .pick (.t 5) (.c (.bool true)) (.t 7), none, [2, 4]⟩, ⟨some 2, .mv (.t 8), none, [5, 2, 0, 1, 2, 3, 4, 5]⟩] false) .ret)⟩
theorem told161 : trFn seat 161 = some il161 := by kernel_rfl

def il162 : IFn := ⟨9, [.t 4], .seq (.region [⟨some 4, .mv (.c (.bool false)), none, []⟩] false) (.seq (.region [⟨some 5, .mv (.t 0), none, []⟩, ⟨some 6, .mv (.t 1), none, []⟩, ⟨some 7, .call (.f 167) [.t 5, .t 6], none, [0, 1]⟩, ⟨some 8, .bin false .geq (.t 7) (.c (.int .i64 0)), none, [2]⟩, ⟨some 4, .mv (.t 8), none, [3, 2, 0, 1, 2, 3]⟩] false) .ret)⟩
theorem told162 : trFn seat 162 = some il162 := by kernel_rfl

def il163 : IFn := ⟨7, [.t 2], .seq (.region [⟨some 2, .mv (.c (.list true [])), none, []⟩] false) (.seq (.region [⟨some 3, .mv (.t 0), none, []⟩, ⟨some 4, .call (.f 26) [.t 3], none, [0]⟩, ⟨some 5, .call (.f 25) [.t 4], none, [1, 1]⟩, ⟨some 6, .call (.f 24) [.t 5], none, [2, 2]⟩, ⟨some 2, .mv (.t 6), none, [3, 3, 0, 1, 2, 3]⟩] false) .ret)⟩
theorem told163 : trFn seat 163 = some il163 := by kernel_rfl

def il164 : IFn := ⟨44, [.t 2], .seq (.region [⟨some 1, .box (.t 0), none, []⟩, ⟨some 2, .mv (.c (.int .i64 0)), none, []⟩] false) (.seq (.block 0 (.seq (.region [⟨some 4, .faddr 0 (.t 1), none, []⟩, ⟨some 5, .load false 1 (.t 4), none, [0]⟩, ⟨some 6, .len (.t 5), none, [1]⟩, ⟨some 7, .bin false .eql (.t 6) (.c (.int .i64 0)), none, [2]⟩, ⟨some 3, .mv (.t 7), none, [3]⟩] false) (.cond (.t 3) (.seq (.region [⟨some 2, .mv (.c (.int .i64 5)), none, []⟩] false) .ret) (.seq (.region [⟨some 9, .faddr 0 (.t 1), none, []⟩, ⟨some 10, .load false 1 (.t 9), none, [0]⟩, ⟨some 11, .len (.t 10), none, [1]⟩, ⟨some 12, .bin false .gtr (.t 11) (.c (.int .i64 200)), none, [2]⟩, ⟨some 13, .mv (.t 12), none, [3]⟩, ⟨some 14, .faddr 1 (.t 1), some (13, false), [4]⟩, ⟨some 15, .load false 1 (.t 14), some (13, false), [5, 4]⟩, ⟨some 16, .len (.t 15), some (13, false), [6, 4]⟩, ⟨some 17, .bin false .gtr (.t 16) (.c (.int .i64 200)), some (13, false), [7, 4]⟩, ⟨some 18, .pick (.t 13) (.c (.bool true)) (.t 17), none, [4, 8]⟩, ⟨some 19, .mv (.t 18), none, [9, 4]⟩, ⟨some 20, .faddr 3 (.t 1), some (19, false), [10]⟩, ⟨some 21, .load false 1 (.t 20), some (19, false), [11, 10]⟩, ⟨some 22, .len (.t 21), some (19, false), [12, 10]⟩, ⟨some 23, .bin false .gtr (.t 22) (.c (.int .i64 200)), some (19, false), [13, 10]⟩, ⟨some 24, .pick (.t 19) (.c (.bool true)) (.t 23), none, [10, 14]⟩, ⟨some 8, .mv (.t 24), none, [15, 10]⟩] false) (.cond (.t 8) (.seq (.region [⟨some 2, .mv (.c (.int .i64 4)), none, []⟩] false) .ret) (.seq (.region [⟨some 26, .faddr 2 (.t 1), none, []⟩, ⟨some 27, .load false 1 (.t 26), none, [0]⟩, ⟨some 28, .bin false .lss (.t 27) (.c (.int .i64 1)), none, [1]⟩, ⟨some 29, .mv (.t 28), none, [2]⟩, ⟨some 30, .faddr 2 (.t 1), some (29, false), [3]⟩, ⟨some 31, .load false 1 (.t 30), some (29, false), [4, 3]⟩, ⟨some 32, .bin false .gtr (.t 31) (.c (.int .i64 3)), some (29, false), [5, 3]⟩, ⟨some 33, .pick (.t 29) (.c (.bool true)) (.t 32), none, [3, 6]⟩, ⟨some 25, .mv (.t 33), none, [7, 3]⟩] false) (.cond (.t 25) (.seq (.region [⟨some 2, .mv (.c (.int .i64 7)), none, []⟩] false) .ret) (.seq (.region [⟨some 35, .faddr 3 (.t 1), none, []⟩, ⟨some 36, .load false 1 (.t 35), none, [0]⟩, ⟨some 37, .len (.t 36), none, [1]⟩, ⟨some 38, .bin false .gtr (.t 37) (.c (.int .i64 0)), none, [2]⟩, ⟨some 39, .mv (.t 38), none, [3]⟩, ⟨some 40, .faddr 2 (.t 1), some (39, true), [4]⟩, ⟨some 41, .load false 1 (.t 40), some (39, true), [5, 4]⟩, ⟨some 42, .bin false .neq (.t 41) (.c (.int .i64 3)), some (39, true), [6, 4]⟩, ⟨some 43, .pick (.t 39) (.t 42) (.c (.bool false)), none, [4, 7]⟩, ⟨some 34, .mv (.t 43), none, [8, 4]⟩] false) (.cond (.t 34) (.seq (.region [⟨some 2, .mv (.c (.int .i64 2)), none, []⟩] false) .ret) .skip))))))))) (.seq (.region [⟨some 2, .mv (.c (.int .i64 0)), none, []⟩] false) .ret))⟩
theorem told164 : trFn seat 164 = some il164 := by kernel_rfl

def il165 : IFn := ⟨65, [.t 2], .seq (.region [⟨some 1, .box (.t 0), none, []⟩, ⟨some 2, .mv (.c (.int .i64 0)), none, []⟩] false) (.seq (.seq (.region [⟨some 5, .faddr 0 (.t 1), none, []⟩, ⟨some 6, .load false 1 (.t 5), none, [0]⟩, ⟨some 7, .len (.t 6), none, [1]⟩, ⟨some 8, .bin false .eql (.t 7) (.c (.int .i64 0)), none, [2]⟩] false) (.cond (.t 8) (.seq (.region [⟨some 2, .mv (.c (.int .i64 5)), none, []⟩] false) .ret) .skip)) (.seq (.seq (.region [⟨some 9, .faddr 0 (.t 1), none, []⟩, ⟨some 10, .load false 1 (.t 9), none, [0]⟩, ⟨some 11, .len (.t 10), none, [1]⟩, ⟨some 12, .bin false .gtr (.t 11) (.c (.int .i64 200)), none, [2]⟩, ⟨some 13, .mv (.t 12), none, [3]⟩, ⟨some 14, .faddr 1 (.t 1), some (13, false), [4]⟩, ⟨some 15, .load false 1 (.t 14), some (13, false), [5, 4]⟩, ⟨some 16, .len (.t 15), some (13, false), [6, 4]⟩, ⟨some 17, .bin false .gtr (.t 16) (.c (.int .i64 200)), some (13, false), [7, 4]⟩, ⟨some 18, .pick (.t 13) (.c (.bool true)) (.t 17), none, [4, 8]⟩, ⟨some 19, .mv (.t 18), none, [9, 4]⟩, ⟨some 20, .faddr 2 (.t 1), some (19, false), [10]⟩, ⟨some 21, .load false 1 (.t 20), some (19, false), [11, 10]⟩, ⟨some 22, .len (.t 21), some (19, false), [12, 10]⟩, ⟨some 23, .bin false .gtr (.t 22) (.c (.int .i64 64)), some (19, false), [13, 10]⟩, ⟨some 24, .pick (.t 19) (.c (.bool true)) (.t 23), none, [10, 14]⟩] false) (.cond (.t 24) (.seq (.region [⟨some 2, .mv (.c (.int .i64 4)), none, []⟩] false) .ret) .skip)) (.seq (.seq (.region [⟨some 3, .mv (.c (.int .i64 0)), none, []⟩] false) (.block 0 (.loop (.seq (.seq (.region [⟨some 25, .mv (.t 3), none, []⟩, ⟨some 26, .faddr 2 (.t 1), none, []⟩, ⟨some 27, .load false 1 (.t 26), none, [1]⟩, ⟨some 28, .len (.t 27), none, [2]⟩, ⟨some 29, .bin false .lss (.t 25) (.t 28), none, [0, 3]⟩] false) (.cond (.t 29) .skip (.exit 0))) (.seq (.block 1 (.seq (.region [⟨some 32, .faddr 2 (.t 1), none, []⟩, ⟨some 33, .load false 1 (.t 32), none, [0]⟩, ⟨some 34, .mv (.t 3), none, []⟩, ⟨some 35, .iaddr 1 (.t 33) (.t 34), none, [1, 2]⟩, ⟨some 36, .load false 1 (.t 35), none, [3]⟩, ⟨some 37, .bin false .lss (.t 36) (.c (.int .i64 0)), none, [4]⟩, ⟨some 38, .mv (.t 37), none, [5]⟩, ⟨some 39, .faddr 2 (.t 1), some (38, false), [6]⟩, ⟨some 40, .load false 1 (.t 39), some (38, false), [7, 6]⟩, ⟨some 41, .mv (.t 3), some (38, false), [6]⟩, ⟨some 42, .iaddr 1 (.t 40) (.t 41), some (38, false), [8, 9, 6]⟩, ⟨some 43, .load false 1 (.t 42), some (38, false), [10, 6]⟩, ⟨some 44, .bin false .gtr (.t 43) (.c (.int .i64 63)), some (38, false), [11, 6]⟩, ⟨some 45, .pick (.t 38) (.c (.bool true)) (.t 44), none, [6, 12]⟩] false) (.cond (.t 45) (.seq (.region [⟨some 2, .mv (.c (.int .i64 3)), none, []⟩] false) .ret) .skip))) (.region [⟨some 30, .mv (.t 3), none, []⟩, ⟨some 31, .bin false .add (.t 30) (.c (.int .i64 1)), none, [0]⟩, ⟨some 3, .mv (.t 31), none, [1, 0, 1]⟩] false)))))) (.seq (.seq (.region [⟨some 4, .mv (.c (.int .i64 1)), none, []⟩] false) (.block 2 (.loop (.seq (.seq (.region [⟨some 46, .mv (.t 4), none, []⟩, ⟨some 47, .faddr 2 (.t 1), none, []⟩, ⟨some 48, .load false 1 (.t 47), none, [1]⟩, ⟨some 49, .len (.t 48), none, [2]⟩, ⟨some 50, .bin false .lss (.t 46) (.t 49), none, [0, 3]⟩] false) (.cond (.t 50) .skip (.exit 2))) (.seq (.block 3 (.seq (.region [⟨some 53, .faddr 2 (.t 1), none, []⟩, ⟨some 54, .load false 1 (.t 53), none, [0]⟩, ⟨some 55, .mv (.t 4), none, []⟩, ⟨some 56, .bin false .sub (.t 55) (.c (.int .i64 1)), none, [2]⟩, ⟨some 57, .iaddr 1 (.t 54) (.t 56), none, [1, 3]⟩, ⟨some 58, .load false 1 (.t 57), none, [4]⟩, ⟨some 59, .faddr 2 (.t 1), none, []⟩, ⟨some 60, .load false 1 (.t 59), none, [6]⟩, ⟨some 61, .mv (.t 4), none, []⟩, ⟨some 62, .iaddr 1 (.t 60) (.t 61), none, [7, 8]⟩, ⟨some 63, .load false 1 (.t 62), none, [9]⟩, ⟨some 64, .bin false .geq (.t 58) (.t 63), none, [5, 10]⟩] true) (.cond (.t 64) (.seq (.region [⟨some 2, .mv (.c (.int .i64 8)), none, []⟩] false) .ret) .skip))) (.region [⟨some 51, .mv (.t 4), none, []⟩, ⟨some 52, .bin false .add (.t 51) (.c (.int .i64 1)), none, [0]⟩, ⟨some 4, .mv (.t 52), none, [1, 0, 1]⟩] false)))))) (.seq (.region [⟨some 2, .mv (.c (.int .i64 0)), none, []⟩] false) .ret)))))⟩
theorem told165 : trFn seat 165 = some il165 := by kernel_rfl

def il166 : IFn := ⟨19, [.t 4], .seq (.region [⟨some 4, .mv (.c (.int .i64 0)), none, []⟩] false) (.seq (.seq (.region [⟨some 6, .mv (.t 0), none, []⟩, ⟨some 7, .len (.t 6), none, [0]⟩, ⟨some 8, .mv (.c (.int .i64 0)), none, []⟩] false) (.block 0 (.loop (.seq (.region [⟨some 9, .bin false .lss (.t 8) (.t 7), none, []⟩] false) (.seq (.cond (.t 9) .skip (.exit 0)) (.seq (.block 1 (.seq (.region [⟨some 10, .mv (.t 8), none, []⟩, ⟨some 5, .mv (.t 10), none, [0, 0]⟩] false) (.seq (.region [⟨some 11, .mv (.t 1), none, []⟩, ⟨some 12, .mv (.t 0), none, []⟩, ⟨some 13, .mv (.t 5), none, []⟩, ⟨some 14, .iaddr 1 (.t 12) (.t 13), none, [1, 2]⟩, ⟨some 15, .load false 1 (.t 14), none, [3]⟩, ⟨some 16, .call (.t 11) [.t 15], none, [0, 4]⟩] false) (.cond (.t 16) (.seq (.region [⟨some 17, .mv (.t 5), none, []⟩, ⟨some 4, .mv (.t 17), none, [0, 0]⟩] false) .ret) .skip)))) (.region [⟨some 18, .bin false .add (.t 8) (.c (.int .i64 1)), none, []⟩, ⟨some 8, .mv (.t 18), none, [0]⟩] false))))))) (.seq (.region [⟨some 4, .mv (.c (.int .i64 (-1))), none, []⟩] false) .ret))⟩
theorem told166 : trFn seat 166 = some il166 := by kernel_rfl

def il167 : IFn := ⟨19, [.t 4], .seq (.region [⟨some 4, .mv (.c (.int .i64 0)), none, []⟩] false) (.seq (.seq (.region [⟨some 6, .mv (.t 0), none, []⟩, ⟨some 7, .len (.t 6), none, [0]⟩, ⟨some 8, .mv (.c (.int .i64 0)), none, []⟩] false) (.block 0 (.loop (.seq (.region [⟨some 9, .bin false .lss (.t 8) (.t 7), none, []⟩] false) (.seq (.cond (.t 9) .skip (.exit 0)) (.seq (.block 1 (.seq (.region [⟨some 10, .mv (.t 8), none, []⟩, ⟨some 5, .mv (.t 10), none, [0, 0]⟩] false) (.seq (.region [⟨some 11, .mv (.t 1), none, []⟩, ⟨some 12, .mv (.t 0), none, []⟩, ⟨some 13, .mv (.t 5), none, []⟩, ⟨some 14, .iaddr 1 (.t 12) (.t 13), none, [1, 2]⟩, ⟨some 15, .load false 1 (.t 14), none, [3]⟩, ⟨some 16, .call (.t 11) [.t 15], none, [0, 4]⟩] false) (.cond (.t 16) (.seq (.region [⟨some 17, .mv (.t 5), none, []⟩, ⟨some 4, .mv (.t 17), none, [0, 0]⟩] false) .ret) .skip)))) (.region [⟨some 18, .bin false .add (.t 8) (.c (.int .i64 1)), none, []⟩, ⟨some 8, .mv (.t 18), none, [0]⟩] false))))))) (.seq (.region [⟨some 4, .mv (.c (.int .i64 (-1))), none, []⟩] false) .ret))⟩
theorem told167 : trFn seat 167 = some il167 := by kernel_rfl

def il255 : IFn := ⟨15, [.cell 6 false 1], .seq (.region [⟨some 4, .box (.t 1), none, []⟩, ⟨some 6, .alloc [.bool false], none, []⟩] false) (.seq (.seq (.region [⟨some 8, .mv (.t 0), none, []⟩, ⟨some 9, .mv (.t 2), none, []⟩, ⟨some 10, .call (.f 266) [.t 8, .t 9], none, [0, 1]⟩] false) (.block 0 (.rangeFunc (.t 10) [11] (.region [⟨some 7, .mv (.t 11), none, []⟩] false) (.block 1 (.seq (.region [⟨some 12, .mv (.t 7), none, []⟩, ⟨some 13, .load false 1 (.t 4), none, []⟩, ⟨some 14, .bin false .eql (.t 12) (.t 13), none, [0, 1]⟩] false) (.cond (.t 14) (.seq (.region [⟨none, .store 1 (.t 6) (.c (.bool true)), none, []⟩] false) .ret) .skip)))))) (.seq (.region [⟨none, .store 1 (.t 6) (.c (.bool false)), none, []⟩] false) .ret))⟩
theorem told255 : trFn seat 255 = some il255 := by kernel_rfl

def il257 : IFn := ⟨16, [.t 4], .seq (.region [⟨some 4, .mv (.c (.bool false)), none, []⟩] false) (.seq (.region [⟨some 5, .mv (.t 1), none, []⟩, ⟨some 6, .call (.f 125) [.t 5], none, [0]⟩, ⟨some 7, .mv (.t 6), none, [1, 1]⟩, ⟨some 8, .mv (.t 0), some (7, true), [2]⟩, ⟨some 9, .bin false .geq (.t 8) (.c (.int .i64 0)), some (7, true), [3, 2]⟩, ⟨some 10, .pick (.t 7) (.t 9) (.c (.bool false)), none, [2, 4]⟩, ⟨some 11, .mv (.t 10), none, [5, 2]⟩, ⟨some 12, .mv (.t 0), some (11, true), [6]⟩, ⟨some 13, .mv (.t 1), some (11, true), [6]⟩, ⟨some 14, .bin false .lss (.t 12) (.t 13), some (11, true), [7, 8, 6]⟩, ⟨some 15, .pick (.t 11) (.t 14) (.c (.bool false)), none, [6, 9]⟩, ⟨some 4, .mv (.t 15), none, [10, 6, 0, 1, 2, 3, 4, 5, 6, 7, 8, 9, 10]⟩] false) .ret)⟩
theorem told257 : trFn seat 257 = some il257 := by kernel_rfl

def il263 : IFn := ⟨15, [.t 4], .seq (.region [⟨some 4, .mv (.c (.list true [])), none, []⟩] false) (.seq (.region [⟨some 6, .mv (.t 0), none, []⟩, ⟨some 7, .mv (.t 1), none, []⟩, ⟨some 8, .call (.f 266) [.t 6, .t 7], none, [0, 1]⟩, ⟨some 9, .call (.f 40) [.t 8], none, [2, 2]⟩, ⟨some 5, .mv (.t 9), none, [3, 3, 0, 1, 2, 3]⟩] false) (.seq (.region [⟨some 10, .mv (.t 5), none, []⟩, ⟨some 11, .mv (.t 5), none, []⟩, ⟨some 12, .len (.t 11), none, [1]⟩, ⟨some 13, .min [.c (.int .i64 1), .t 12], none, [2]⟩, ⟨some 14, .slice 1 (.t 10) (some (.t 13)) none none, none, [0, 3]⟩, ⟨some 4, .mv (.t 14), none, [4, 0, 1, 2, 3, 4]⟩] false) .ret))⟩
theorem told263 : trFn seat 263 = some il263 := by kernel_rfl

def il266 : IFn := ⟨6, [.t 4], .seq (.region [⟨some 2, .box (.t 0), none, []⟩, ⟨some 3, .box (.t 1), none, []⟩, ⟨some 4, .mv (.c .nilfunc), none, []⟩] false) (.seq (.region [⟨some 5, .mkfunc 277 [] [.t 2, .t 3], none, []⟩, ⟨some 4, .mv (.t 5), none, [0, 0]⟩] false) .ret)⟩
theorem told266 : trFn seat 266 = some il266 := by kernel_rfl

def il270 : IFn := ⟨15, [.t 6], .seq (.region [⟨some 6, .mv (.c (.int .i64 0)), none, []⟩] false) (.seq (.seq (.region [⟨some 7, .mv (.t 1), none, []⟩, ⟨some 8, .mv (.t 2), none, []⟩, ⟨some 9, .call (.f 257) [.t 7, .t 8], none, [0, 1]⟩, ⟨some 10, .un .not (.t 9), none, [2]⟩] false) (.cond (.t 10) (.seq (.region [⟨some 6, .mv (.c (.int .i64 (-1))), none, []⟩] false) .ret) .skip)) (.seq (.region [⟨some 11, .mv (.t 0), none, []⟩, ⟨some 12, .mv (.t 2), none, []⟩, ⟨some 13, .mv (.t 1), none, []⟩, ⟨some 14, .call (.t 11) [.t 12, .t 13], none, [0, 1, 2]⟩, ⟨some 6, .mv (.t 14), none, [3, 3, 0, 1, 2, 3]⟩] false) .ret))⟩
theorem told270 : trFn seat 270 = some il270 := by kernel_rfl

def il273 : IFn := ⟨8, [.t 4], .seq (.region [⟨some 4, .mv (.c (.int .i64 0)), none, []⟩] false) (.seq (.region [⟨some 5, .mv (.t 0), none, []⟩, ⟨some 6, .mv (.t 1), none, []⟩, ⟨some 7, .call (.f 270) [.f 280, .t 5, .t 6], none, [0, 1]⟩, ⟨some 4, .mv (.t 7), none, [2, 2, 0, 1, 2]⟩] false) .ret)⟩
theorem told273 : trFn seat 273 = some il273 := by kernel_rfl

def il277 : IFn := ⟨18, [], .seq (.seq (.region [⟨some 4, .load false 1 (.t 1), none, []⟩, ⟨some 5, .load false 1 (.t 2), none, []⟩, ⟨some 6, .call (.f 257) [.t 4, .t 5], none, [0, 1]⟩, ⟨some 7, .un .not (.t 6), none, [2]⟩] false) (.cond (.t 7) .ret .skip)) (.block 0 (.loop (.seq (.seq (.region [⟨some 8, .load false 1 (.t 1), none, []⟩, ⟨some 9, .bin false .geq (.t 8) (.c (.int .i64 0)), none, [0]⟩, ⟨some 10, .mv (.t 9), none, [1]⟩, ⟨some 11, .mv (.t 0), some (10, true), [2]⟩, ⟨some 12, .load false 1 (.t 1), some (10, true), [2]⟩, ⟨some 13, .call (.t 11) [.t 12], some (10, true), [3, 4, 2, 2]⟩, ⟨some 14, .pick (.t 10) (.t 13) (.c (.bool false)), none, [2, 5]⟩] false) (.cond (.t 14) .skip (.exit 0))) (.block 1 (.region [⟨some 15, .load false 1 (.t 1), none, []⟩, ⟨some 16, .load false 1 (.t 2), none, []⟩, ⟨some 17, .call (.f 273) [.t 15, .t 16], none, [0, 1]⟩, ⟨none, .store 1 (.t 1) (.t 17), none, [2, 2, 0, 1, 2]⟩] false)))))⟩
theorem told277 : trFn seat 277 = some il277 := by kernel_rfl

def il279 : IFn := ⟨13, [.t 2], .seq (.region [⟨some 2, .mv (.c (.int .i64 0)), none, []⟩] false) (.seq (.seq (.region [⟨some 3, .mv (.t 0), none, []⟩, ⟨some 4, .bin false .lss (.t 3) (.c (.int .i64 0)), none, [0]⟩, ⟨some 5, .mv (.t 4), none, [1]⟩, ⟨some 6, .mv (.t 0), some (5, false), [2]⟩, ⟨some 7, .bin false .geq (.t 6) (.c (.int .i64 127)), some (5, false), [3, 2]⟩, ⟨some 8, .pick (.t 5) (.c (.bool true)) (.t 7), none, [2, 4]⟩] false) (.cond (.t 8) (.seq (.region [⟨some 2, .mv (.c (.int .i64 (-1))), none, []⟩] false) .ret) .skip)) (.seq (.region [⟨some 9, .mv (.t 0), none, []⟩, ⟨some 10, .convI .u64 (.t 9), none, [0]⟩, ⟨some 11, .un .xor (.t 10), none, [1]⟩, ⟨some 12, .call (.f 281) [.t 11], none, [2]⟩, ⟨some 2, .mv (.t 12), none, [3, 3, 0, 1, 2, 3]⟩] false) .ret))⟩
theorem told279 : trFn seat 279 = some il279 := by kernel_rfl

def il280 : IFn := ⟨20, [.t 4], .seq (.region [⟨some 4, .mv (.c (.int .i64 0)), none, []⟩] false) (.seq (.seq (.region [⟨some 6, .mv (.t 1), none, []⟩, ⟨some 7, .mv (.t 0), none, []⟩, ⟨some 8, .call (.f 109) [.t 7], none, [1]⟩, ⟨some 9, .bin false .eql (.t 6) (.t 8), none, [0, 2]⟩] false) (.cond (.t 9) (.seq (.region [⟨some 4, .mv (.c (.int .i64 (-1))), none, []⟩] false) .ret) .skip)) (.seq (.region [⟨some 10, .mv (.t 1), none, []⟩, ⟨some 11, .call (.f 279) [.t 10], none, [0]⟩, ⟨some 5, .mv (.t 11), none, [1, 1, 0, 1]⟩] false) (.seq (.region [⟨some 12, .mv (.t 1), none, []⟩, ⟨some 13, .mv (.t 5), none, []⟩, ⟨some 14, .bin false .shl (.c (.int .i64 1)) (.t 13), none, [1]⟩, ⟨some 15, .bin false .or (.t 12) (.t 14), none, [0, 2]⟩, ⟨some 16, .mv (.t 5), none, []⟩, ⟨some 17, .bin false .add (.t 16) (.c (.int .i64 1)), none, [4]⟩, ⟨some 18, .bin false .shl (.c (.int .i64 1)) (.t 17), none, [5]⟩, ⟨some 19, .bin false .andNot (.t 15) (.t 18), none, [3, 6]⟩, ⟨some 4, .mv (.t 19), none, [7, 0, 1, 2, 3, 4, 5, 6, 7]⟩] true) .ret)))⟩
theorem told280 : trFn seat 280 = some il280 := by kernel_rfl

def il281 : IFn := ⟨8, [.t 2], .seq (.region [⟨some 2, .mv (.c (.int .i64 0)), none, []⟩] false) (.seq (.cond (.c (.bool false)) (.seq (.region [⟨some 3, .mv (.t 0), none, []⟩, ⟨some 4, .convI .u32 (.t 3), none, [0]⟩, ⟨some 5, .call (.f 282) [.t 4], none, [1]⟩, ⟨some 2, .mv (.t 5), none, [2, 2, 0, 1, 2]⟩] false) .ret) .skip) (.seq (.region [⟨some 6, .mv (.t 0), none, []⟩, ⟨some 7, .call (.f 283) [.t 6], none, [0]⟩, ⟨some 2, .mv (.t 7), none, [1, 1, 0, 1]⟩] false) .ret))⟩
theorem told281 : trFn seat 281 = some il281 := by kernel_rfl

end Go.Proofs.YtihhinbjhiankaaGreatDoor.Al

namespace Go.Proofs.YtihhinbjhiankaaGreatDoor.Al
open Go Go.Shelf
def lays189f : List (Nat × Nat) := [(189, 197), (125, 218), (257, 217), (128, 237), (129, 238), (294, 229), (295, 230), (296, 231), (297, 232), (298, 233), (299, 234), (216, 145), (300, 235), (301, 236), (328, 246), (329, 247), (330, 248), (331, 249), (332, 250), (215, 195), (343, 253)]
def lays189t : List (Nat × Nat) := [(28, 35), (3, 3), (46, 147), (0, 0), (51, 172), (53, 199), (4, 4), (183, 193), (182, 192), (131, 101), (5, 5), (9, 9), (218, 206), (222, 210), (228, 216), (229, 217)]
def lays189g : List (Nat × Nat) := []
def lays189Ren : Ren := ⟨fun x => ((lays189f.lookup x).getD x), fun x => ((lays189t.lookup x).getD x), fun x => ((lays189g.lookup x).getD x)⟩
theorem lays189At : Lays.n189 seat.P lays189Ren where
  mixed := by kernel_rfl
  f125 := by kernel_rfl
  f128 := by kernel_rfl
  f129 := by kernel_rfl
  f189 := by kernel_rfl
  f215 := by kernel_rfl
  f216 := by kernel_rfl
  f257 := by kernel_rfl
  f294 := by kernel_rfl
  f295 := by kernel_rfl
  f296 := by kernel_rfl
  f297 := by kernel_rfl
  f298 := by kernel_rfl
  f299 := by kernel_rfl
  f300 := by kernel_rfl
  f301 := by kernel_rfl
  f328 := by kernel_rfl
  f329 := by kernel_rfl
  f330 := by kernel_rfl
  f331 := by kernel_rfl
  f332 := by kernel_rfl
  f343 := by kernel_rfl
  t0 := by kernel_rfl
  a0 := fun w => by kernel_rfl
  z0 := fun w => by kernel_rfl
  v0 := fun w => by kernel_rfl
  t3 := by kernel_rfl
  a3 := fun w => by kernel_rfl
  z3 := fun w => by kernel_rfl
  v3 := fun w => by kernel_rfl
  t4 := by kernel_rfl
  a4 := fun w => by kernel_rfl
  z4 := fun w => by kernel_rfl
  v4 := fun w => by kernel_rfl
  t5 := by kernel_rfl
  a5 := fun w => by kernel_rfl
  z5 := fun w => by kernel_rfl
  v5 := fun w => by kernel_rfl
  t9 := by kernel_rfl
  a9 := fun w => by kernel_rfl
  z9 := fun w => by kernel_rfl
  v9 := fun w => by kernel_rfl
  t28 := by kernel_rfl
  a28 := fun w => by kernel_rfl
  z28 := fun w => by kernel_rfl
  v28 := fun w => by kernel_rfl
  t46 := by kernel_rfl
  a46 := fun w => by kernel_rfl
  z46 := fun w => by kernel_rfl
  v46 := fun w => by kernel_rfl
  t51 := by kernel_rfl
  a51 := fun w => by kernel_rfl
  z51 := fun w => by kernel_rfl
  v51 := fun w => by kernel_rfl
  t53 := by kernel_rfl
  a53 := fun w => by kernel_rfl
  z53 := fun w => by kernel_rfl
  v53 := fun w => by kernel_rfl
  t131 := by kernel_rfl
  a131 := fun w => by kernel_rfl
  z131 := fun w => by kernel_rfl
  v131 := fun w => by kernel_rfl
  t182 := by kernel_rfl
  a182 := fun w => by kernel_rfl
  z182 := fun w => by kernel_rfl
  v182 := fun w => by kernel_rfl
  t183 := by kernel_rfl
  a183 := fun w => by kernel_rfl
  z183 := fun w => by kernel_rfl
  v183 := fun w => by kernel_rfl
  t218 := by kernel_rfl
  a218 := fun w => by kernel_rfl
  z218 := fun w => by kernel_rfl
  v218 := fun w => by kernel_rfl
  t222 := by kernel_rfl
  a222 := fun w => by kernel_rfl
  z222 := fun w => by kernel_rfl
  v222 := fun w => by kernel_rfl
  t228 := by kernel_rfl
  a228 := fun w => by kernel_rfl
  z228 := fun w => by kernel_rfl
  v228 := fun w => by kernel_rfl
  t229 := by kernel_rfl
  a229 := fun w => by kernel_rfl
  z229 := fun w => by kernel_rfl
  v229 := fun w => by kernel_rfl
def lays220f : List (Nat × Nat) := [(20, 153)]
def lays220t : List (Nat × Nat) := [(22, 35), (3, 3), (4, 4), (0, 0)]
def lays220g : List (Nat × Nat) := []
def lays220Ren : Ren := ⟨fun x => ((lays220f.lookup x).getD x), fun x => ((lays220t.lookup x).getD x), fun x => ((lays220g.lookup x).getD x)⟩
theorem lays220At : Lays2.n20 seat.P lays220Ren where
  mixed := by kernel_rfl
  f20 := by kernel_rfl
  t0 := by kernel_rfl
  a0 := fun w => by kernel_rfl
  z0 := fun w => by kernel_rfl
  v0 := fun w => by kernel_rfl
  t3 := by kernel_rfl
  a3 := fun w => by kernel_rfl
  z3 := fun w => by kernel_rfl
  v3 := fun w => by kernel_rfl
  t4 := by kernel_rfl
  a4 := fun w => by kernel_rfl
  z4 := fun w => by kernel_rfl
  v4 := fun w => by kernel_rfl
  t22 := by kernel_rfl
  a22 := fun w => by kernel_rfl
  z22 := fun w => by kernel_rfl
  v22 := fun w => by kernel_rfl
  i3 := by kernel_rfl
def lays727f : List (Nat × Nat) := [(27, 221), (28, 240), (29, 241)]
def lays727t : List (Nat × Nat) := [(25, 147), (3, 3), (27, 172), (22, 199), (4, 4), (53, 212), (0, 0), (5, 5), (54, 205)]
def lays727g : List (Nat × Nat) := [(0, 0), (1, 1)]
def lays727Ren : Ren := ⟨fun x => ((lays727f.lookup x).getD x), fun x => ((lays727t.lookup x).getD x), fun x => ((lays727g.lookup x).getD x)⟩
theorem lays727At : Lays7.n27 seat.P lays727Ren where
  mixed := by kernel_rfl
  f27 := by kernel_rfl
  f28 := by kernel_rfl
  f29 := by kernel_rfl
  t0 := by kernel_rfl
  a0 := fun w => by kernel_rfl
  z0 := fun w => by kernel_rfl
  v0 := fun w => by kernel_rfl
  i0 := by kernel_rfl
  t3 := by kernel_rfl
  a3 := fun w => by kernel_rfl
  z3 := fun w => by kernel_rfl
  v3 := fun w => by kernel_rfl
  i3 := by kernel_rfl
  t4 := by kernel_rfl
  a4 := fun w => by kernel_rfl
  z4 := fun w => by kernel_rfl
  v4 := fun w => by kernel_rfl
  i4 := by kernel_rfl
  t5 := by kernel_rfl
  a5 := fun w => by kernel_rfl
  z5 := fun w => by kernel_rfl
  v5 := fun w => by kernel_rfl
  i5 := by kernel_rfl
  t22 := by kernel_rfl
  a22 := fun w => by kernel_rfl
  z22 := fun w => by kernel_rfl
  v22 := fun w => by kernel_rfl
  i22 := by kernel_rfl
  t25 := by kernel_rfl
  a25 := fun w => by kernel_rfl
  z25 := fun w => by kernel_rfl
  v25 := fun w => by kernel_rfl
  i25 := by kernel_rfl
  t27 := by kernel_rfl
  a27 := fun w => by kernel_rfl
  z27 := fun w => by kernel_rfl
  v27 := fun w => by kernel_rfl
  i27 := by kernel_rfl
  t53 := by kernel_rfl
  a53 := fun w => by kernel_rfl
  z53 := fun w => by kernel_rfl
  v53 := fun w => by kernel_rfl
  i53 := by kernel_rfl
  t54 := by kernel_rfl
  a54 := fun w => by kernel_rfl
  z54 := fun w => by kernel_rfl
  g0 := by kernel_rfl
  g1 := by kernel_rfl
end Go.Proofs.YtihhinbjhiankaaGreatDoor.Al

set_option linter.unusedSimpArgs false
set_option linter.unusedVariables false
namespace Go.Proofs.YtihhinbjhiankaaGreatDoor.Al
open Go

theorem mixed : seat.P.follows .mixedOrders = true := by kernel_rfl

theorem args1 {S : Seat} {m : List ME} {I : Nat → Prop} {w : World} {x : AV} {vs : Array Value} (h : Rels S m I w [x] vs) : ∃ v, vs = #[v] ∧ Rel S m I w x v := by
  obtain ⟨h1, h2⟩ := h
  have : vs.size = 1 := h1
  have h3 := h2 0 x rfl
  refine ⟨vs[0], ?_, ?_⟩
  · apply Array.ext
    · simpa using this
    · intro i hi _
      have : i = 0 := by omega
      subst this; rfl
  · rwa [Array.getD_eq_getD_getElem?, Array.getElem?_eq_getElem (by omega)] at h3

theorem rel_tup0 {S : Seat} {m : List ME} {I : Nat → Prop} {w : World} : Rel S m I w (.tup []) (.tuple #[]) := .tup [] #[] rfl (fun i x h => by simp at h)

theorem sort_spec (l : List Int) {H : List Entry} {id ver : Nat} (hH : H[id]? = some (.arr 1 ver (l.map (AV.int .i64)))) (hl : l.length < 4611686018427387904) :
    ACall seat 41 [.own id ver 0 l.length] H fun r H' => r = .tup [] ∧ H' = H.set id (.arr 1 ver ((sorted l).map (AV.int .i64))) := by
  intro m I X w vs hs hv
  obtain ⟨v, rfl, hw⟩ := args1 hv
  obtain ⟨e, h1, hsz, hver, hcase⟩ := own_ints hs hH hw
  have ef : seat.fn 41 = lays189Ren.f 189 := rfl
  rw [ef]
  rcases hcase with ⟨rfl, a, c, rfl⟩ | ⟨hn, h0, hcap, rfl, hh, hb, arr, T, ha, hasz⟩
  · refine (Any.slices_Sort_int_none lays189At a c w).mono ?_
    rintro e' w' ⟨rfl, rfl⟩
    refine ⟨_, _, _, m, I, rfl, ⟨rfl, rfl⟩, rel_tup0, ?_, .refl m, fun _ hb => hb, .refl I X w'⟩
    have : H.set id (.arr 1 ver ((sorted []).map (AV.int .i64))) = H := set_self (by rw [hH]; simp [sorted])
    rw [this]; exact hs
  · refine (Any.slices_Sort_int lays189At e.blk 0 e.cap l w hh hb hl).mono ?_
    rintro e' w' ⟨rfl, n, os, rfl⟩
    obtain ⟨q1, q2, q3⟩ := hs.putInts (n := n) (os := os) (l' := sorted l) hH h1 hn hsz hver ha hasz (sorted_length l) hcap
    exact ⟨_, _, _, m, I, rfl, ⟨rfl, rfl⟩, rel_tup0, q1, q2, fun _ hb => hb, q3⟩

theorem compact_length (l : List Int) : (Lib.compact l).length ≤ l.length := by
  simp only [Lib.compact, Lib.compactUpTo, List.length_map]
  exact Nat.le_trans (List.length_filter_le _ _) (by simp)

theorem compact_spec (l : List Int) {H : List Entry} {id ver : Nat} (hH : H[id]? = some (.arr 1 ver (l.map (AV.int .i64)))) :
    ACall seat 24 [.own id ver 0 l.length] H fun r H' => r = .own id ver 0 (Lib.compact l).length ∧ H' = H.set id (.arr 1 ver ((Lib.compact l ++ List.replicate (l.length - (Lib.compact l).length) 0).map (AV.int .i64))) := by
  intro m I X w vs hs hv
  obtain ⟨v, rfl, hw⟩ := args1 hv
  obtain ⟨e, h1, hsz, hver, hcase⟩ := own_ints hs hH hw
  have hle := compact_length l
  have ef : seat.fn 24 = lays220Ren.f 20 := rfl
  rw [ef]
  rcases hcase with ⟨rfl, a, c, rfl⟩ | ⟨hn, h0, hcap, rfl, hh, hb, arr, T, ha, hasz⟩
  · refine (Any.slices_Compact_int_empty lays220At a c w).mono ?_
    rintro e' w' ⟨rfl, rfl⟩
    have : H.set id (.arr 1 ver ((Lib.compact ([] : List Int) ++ List.replicate (([] : List Int).length - (Lib.compact ([] : List Int)).length) 0).map (AV.int .i64))) = H := set_self (by rw [hH]; simp [Lib.compact, Lib.compactUpTo])
    refine ⟨_, _, _, m, I, rfl, ⟨rfl, rfl⟩, ?_, by rw [this]; exact hs, .refl m, fun _ hb => hb, .refl I X w'⟩
    exact hw
  · have hcle : e.cap ≤ 9223372036854775807 := by
      obtain ⟨e', h1', hrow⟩ := hs.hok id _ hH
      rw [h1] at h1'; cases h1'
      exact hrow.2.2.2.1
    refine (Any.slices_Compact_int lays220At e.blk 0 e.cap l w hh (by omega) hcap).mono ?_
    rintro e' w' ⟨rfl, n, rfl⟩
    obtain ⟨q1, q2, q3⟩ := hs.putInts (n := n) (os := #[]) (l' := Lib.compact l ++ List.replicate (l.length - (Lib.compact l).length) 0) hH h1 hn hsz hver ha hasz (by simp; omega) hcap
    rw [Sort.grow_empty] at q1 q3
    refine ⟨_, _, _, m, I, rfl, ⟨rfl, rfl⟩, ?_, q1, q2, fun _ hb => hb, q3⟩
    refine .own id ver 0 _ e _ h1 (by omega) fun _ => ⟨Nat.zero_le _, by omega, .inr ⟨hn, 0, by simp, fun _ => by simp⟩⟩

theorem compact_spec' (l : List Int) {H : List Entry} {id ver : Nat} (hH : H[id]? = some (.arr 1 ver (l.map (AV.int .i64)))) :
    ACall seat 24 [.own id ver 0 l.length] H fun r H' => r = .own id ver 0 (Lib.compact l).length ∧ H' = H.set id (.arr 1 ver ((Lib.compact l).map (AV.int .i64))) := by
  refine ACall.shrink (compact_spec l hH) ?_
  rintro _ _ ⟨rfl, rfl⟩
  refine ⟨id, 1, ver, _, (Lib.compact l).length, List.getElem?_set_self (lt_of_get hH), rfl, ?_⟩
  rw [List.set_set, ← List.map_take, List.take_left']
  rfl

end Go.Proofs.YtihhinbjhiankaaGreatDoor.Al
namespace Go.Proofs.YtihhinbjhiankaaGreatDoor.Al
open Go
attribute [local go_sem] W_mv W_pick W_alloc W_box W_build W_bslice W_load W_store W_bin W_isnil W_un W_convI W_convS W_mkiface W_mkfunc W_slice W_faddr W_iaddr W_idxA W_extract W_len W_min W_max W_append thenQ_normal thenQ_exit thenQ_ret blockQ_normal blockQ_ret blockQ_exit wpc_skip wpc_region wpc_draw wpc_seq wpc_cond wpc_block wpc_exit wpc_ret wpc_loop wpc_range condW_true condW_false condW_dec condW_any W_nil W_call resW_some evalOp Opd.ev updo_envL updo_none setL_cons setL_nil envL_cons Option.map_some Option.bind_some evBin evInt List.map_cons List.map_nil Option.pure_def Option.bind_eq_bind W_grd' grdW_tt grdW_ff grdW_tf grdW_ft grdW_tup grdW_dt grdW_df L_mv L_load L_bin L_un L_faddr L_iaddr L_nil L_call lresW_some upd_envL evUn beq_dec bne_dec leaves_ret1 leaves_ret0 leaves_end0 rowLen_ints load_iptr0 not_dec heap_get0 heap_get1 heap_set0 heap_set1 heap_len1 heap_app bslice1_int seen_one0 Nat.sub_zero Bool.not_true Bool.not_false List.length_nil List.length_cons List.nil_append List.cons_append Nat.zero_add canon_ptrI canon_bool canon_tup canon_agg canon_ints' canon_ints0 rowLen_octs seen_octs canon_octs' rowLen_nodes canon_nodes' rowLen_nodes0 rowLen_nodes3 seen_list cells_int oneIn_int cells_bool oneIn_bool cells_list oneIn_list cells_func oneIn_func cells_own cells_ptr cells_agg oneIn_own0 oneIn_own1 seenL1 seenM1 oneIn_ptr2 seenL2 oneIn_own3 seenL3 cells_ints oneIn_ints cells_octs oneIn_octs cells_nodes oneIn_nodes ldB0 ldA0 adB0 stB0 ldB1 ldA1 adB1 stB1 ldB2 ldA2 adB2 stB2 ldB3 stB3 List.getElem?_cons_zero List.getElem?_cons_succ beq_self_eq_true splice List.take_zero List.take_succ_cons List.drop_zero List.drop_succ_cons List.append_nil List.set_cons_zero List.set_cons_succ List.all_cons List.all_nil Bool.and_self and_self and_true true_and Nat.lt_irrefl Nat.zero_lt_one Nat.le_refl fillA evNil notA Bool.false_eq_true evMin_int evMax_int Option.map_none freezeP_all_nil freezeP_all_cons frzE_box frzE_arr foldA List.foldlM_cons List.foldlM_nil
attribute [local simp] envL_cons envL_nil idb_int idb_bool idb_ints idb_nil idb_own idb_ptr idb_octs idb_nodes idb_leafA idb_innerA idb_nodeA idb_agg idb_tup idb_iptr idb_fn entB_dead entB_box
theorem values_spec (l : List Int) : Fun seat 26 [ints l] (.func (.f 42) [] [.iptr [ints l] 0]) := by
  refine Fun.of0W told26 (by simp [il26]) (by simp ) (by simp ) 0 ?_
  simp only [il26, List.zipIdx_cons, List.zipIdx_nil, Nat.zero_add, List.map_cons, List.map_nil]
  refine WP.seqS [(0, ints l), (1, .ptr 0 0), (2, .nilfunc)] [.box [ints l]] (by simp only [go_sem, Nat.reduceEqDiff, reduceIte, Nat.reduceAdd, Nat.reduceLeDiff, Nat.reduceLT, Nat.reduceSub]; simp ) ?_
  refine WP.sealB 1 0 rfl rfl ?_
  refine wpc_sound ?_
  simp only [go_sem, Nat.reduceEqDiff, reduceIte, Nat.reduceAdd, Nat.reduceLeDiff, Nat.reduceLT, Nat.reduceSub]
  rfl

end Go.Proofs.YtihhinbjhiankaaGreatDoor.Al
namespace Go.Proofs.YtihhinbjhiankaaGreatDoor.Al
open Go
attribute [local go_sem] W_mv W_pick W_alloc W_box W_build W_bslice W_load W_store W_bin W_isnil W_un W_convI W_convS W_mkiface W_mkfunc W_slice W_faddr W_iaddr W_idxA W_extract W_len W_min W_max W_append thenQ_normal thenQ_exit thenQ_ret blockQ_normal blockQ_ret blockQ_exit wpc_skip wpc_region wpc_draw wpc_seq wpc_cond wpc_block wpc_exit wpc_ret wpc_loop wpc_range condW_true condW_false condW_dec condW_any W_nil W_call resW_some evalOp Opd.ev updo_envL updo_none setL_cons setL_nil envL_cons Option.map_some Option.bind_some evBin evInt List.map_cons List.map_nil Option.pure_def Option.bind_eq_bind W_grd' grdW_tt grdW_ff grdW_tf grdW_ft grdW_tup grdW_dt grdW_df L_mv L_load L_bin L_un L_faddr L_iaddr L_nil L_call lresW_some upd_envL evUn beq_dec bne_dec leaves_ret1 leaves_ret0 leaves_end0 rowLen_ints load_iptr0 not_dec heap_get0 heap_get1 heap_set0 heap_set1 heap_len1 heap_app bslice1_int seen_one0 Nat.sub_zero Bool.not_true Bool.not_false List.length_nil List.length_cons List.nil_append List.cons_append Nat.zero_add canon_ptrI canon_bool canon_tup canon_agg canon_ints' canon_ints0 rowLen_octs seen_octs canon_octs' rowLen_nodes canon_nodes' rowLen_nodes0 rowLen_nodes3
attribute [local simp] envL_cons envL_nil idb_int idb_bool idb_ints idb_nil idb_own idb_ptr idb_octs idb_nodes idb_leafA idb_innerA idb_nodeA idb_agg idb_tup idb_iptr idb_fn entB_dead entB_box
theorem valuesIter (l : List Int) (hl : l.length ≤ 9223372036854775807) : Gives seat 42 [.iptr [ints l] 0] (l.map (AV.int .i64)) := by
  intro id H0 J Jx h0 hround
  refine ACall.of_wp told42 (by simp [il42]) (wpc_sound ?_)
  rw [start_env]
  simp only [il42, List.zipIdx_cons, List.zipIdx_nil, Nat.zero_add, List.cons_append, List.nil_append, go_sem, Nat.reduceEqDiff, reduceIte, Nat.reduceAdd]
  refine WP.loopJ (fun k : Nat => [(0, .func (.y id) [] []), (5, ints l), (6, .int .i64 l.length), (7, .int .i64 k)]) (fun k H => k ≤ l.length ∧ J k H) (fun k => l.length - k) 0 (by simp ) ⟨Nat.zero_le _, h0⟩ ?_
  rintro k H ⟨hk, hj⟩
  refine wpc_sound ?_
  simp only [go_sem, Nat.reduceEqDiff, reduceIte, Nat.reduceAdd]
  refine ⟨fun h => ?_, fun h => ?_⟩
  · have hk' : k < l.length := by omega
    simp only [index_ints _ l k hk', wrapS (show k < 9223372036854775807 by omega), go_sem, Nat.reduceEqDiff, reduceIte, Nat.reduceAdd]
    have hr := hround k (by simpa using hk') H hj
    rw [List.getElem_map] at hr
    refine Callee.yld hr ?_
    rintro r H' (⟨rfl, hj'⟩ | ⟨rfl, hx⟩)
    · simp only [go_sem, Nat.reduceEqDiff, reduceIte, Nat.reduceAdd]
      exact ⟨k + 1, ⟨hk', hj'⟩, by omega, by simp [wrapS (show k < 9223372036854775807 by omega)]⟩
    · simp only [go_sem, Nat.reduceEqDiff, reduceIte, Nat.reduceAdd]
      exact .inr hx
  · have hke : k = l.length := by omega
    subst hke
    exact .inl (by simpa using hj)

def SeqJ (e : Entry) (l : List Int) (k : Nat) (G : List Entry) : Prop :=
  G[1]? = some e ∧ ((k = 0 ∧ G[0]? = some (.box [.list true []])) ∨ ∃ rid v, 2 ≤ rid ∧ G[0]? = some (.box [.own rid v 0 k]) ∧ G[rid]? = some (.arr 1 v ((l.take k).map (AV.int .i64))))

theorem app_nil_int (H : List Entry) (k : IntKind) (x : Int) : evAppend H 1 8 (.list true []) [.int k x] = some (.own H.length 0 0 1, H ++ [.arr 1 0 [.int k x]]) := by
  simp [evAppend, szOk, AV.cells, AV.oneIn, maxRow]

theorem appendSeq_spec (l : List Int) (hl : l.length ≤ 4294967295) (c : Nat) (f : IFn) (hc : trFn seat c = some f) (cap : List AV) (hcap : ∀ x ∈ cap, Idb 0 x) (hg : Gives seat c cap (l.map (AV.int .i64))) :
    FunOwn seat 47 [.list true [], .func (.f c) [] cap] 1 (l.map (AV.int .i64)) := by
  refine FunOwn.of0W told47 (by simp [il47]) (by simpa  using hcap) (encI64.xs_idb l) (wpc_sound ?_)
  simp only [il47, List.zipIdx_cons, List.zipIdx_nil, Nat.zero_add, go_sem, Nat.reduceEqDiff, reduceIte, Nat.reduceAdd, AV.cells, List.all_cons, List.all_nil, AV.oneIn, Bool.and_self, List.length_nil, List.nil_append]
  refine WP.range (c := c) (first := []) (captured := cap) (by simp only [go_sem, Nat.reduceEqDiff, reduceIte, Nat.reduceAdd]) (Callable.of hc) (fun L hy => ?_)
  simp only [List.nil_append, List.cons_append, List.length_cons, List.length_nil, Nat.zero_add] at hy ⊢
  refine (hg 1 _ (SeqJ (L .ready) l) (fun _ => False) ⟨rfl, .inl ⟨rfl, rfl⟩⟩ ?_).mono ?_
  · rintro k hk H1 ⟨j2, j3⟩
    have hk : k < l.length := by simpa using hk
    rw [List.getElem_map]
    refine hy _ _ _ ⟨j2, rfl, fun lp => wpc_sound ?_⟩
    simp only [go_sem, Nat.reduceEqDiff, reduceIte, Nat.reduceAdd, setPs]
    refine ⟨trivial, j2, wpc_sound ?_⟩
    have hn1 : 1 < H1.length := lt_of_get j2
    have hne : ∀ j, j ≠ 1 → (H1.set 1 (L .busy))[j]? = H1[j]? := fun j hj => List.getElem?_set_ne (Ne.symm hj)
    have hbz : (H1.set 1 (L .busy))[1]? = some (L .busy) := List.getElem?_set_self hn1
    have hlen : (H1.set 1 (L .busy)).length = H1.length := by simp
    rcases j3 with ⟨rfl, j3⟩ | ⟨rid, v, j3, j4, j5⟩
    · have g1 : (H1.set 1 (L .busy))[0]? = some (.box [.list true []]) := by rw [hne _ (by omega)]; exact j3
      generalize (H1.set 1 (L .busy)) = G at hne hbz hlen g1
      simp only [load_box g1, go_sem, Nat.reduceEqDiff, reduceIte, Nat.reduceAdd]
      have hgl1 : 1 < G.length := lt_of_get hbz
      have e1 : (G ++ [Entry.arr 1 0 [AV.int .i64 l[0]]] ++ [Entry.arr 1 0 [AV.int .i64 l[0]]])[0]? = some (.box [.list true []]) := by
        rw [List.append_assoc, List.getElem?_append_left (by omega)]; exact g1
      have e2 : (G ++ [Entry.arr 1 0 [AV.int .i64 l[0]]] ++ [Entry.arr 1 0 [AV.int .i64 l[0]]])[(G ++ [Entry.arr 1 0 [AV.int .i64 l[0]]]).length]? = some (.arr 1 0 [AV.int .i64 l[0]]) := by simp
      rw [app_nil_int]
      simp only [resW_some, W_store, evalOp, Opd.ev, updo_envL, setL_cons, setL_nil, envL_cons, Nat.reduceEqDiff, reduceIte, store_box e1 rfl (own_one e2), Option.map_some, updo_none, W_nil, blockQ_normal]
      generalize hm : (G ++ [Entry.arr 1 0 [AV.int .i64 l[0]]] ++ [Entry.arr 1 0 [AV.int .i64 l[0]]]) = M at e1 e2 ⊢
      generalize hrid : (G ++ [Entry.arr 1 0 [AV.int .i64 l[0]]]).length = rid at e2 ⊢
      have hlow : ∀ j, j < G.length → M[j]? = G[j]? := fun j hj => by rw [← hm, List.append_assoc, List.getElem?_append_left hj]
      have hr2 : 2 ≤ rid := by rw [← hrid]; simp; omega
      have hML : rid < M.length := lt_of_get e2
      refine ⟨by rw [List.getElem?_set_ne (by omega), hlow _ hgl1]; exact hbz, .inl ⟨trivial, ?_, .inr ⟨rid, 0, hr2, ?_, ?_⟩⟩⟩
      · rw [List.getElem?_set_self (by simp; omega)]
      · rw [List.getElem?_set_ne (by omega), List.getElem?_set_self (by omega)]
      · rw [List.getElem?_set_ne (by omega), List.getElem?_set_ne (by omega), e2]
        simp [List.take_succ_eq_append_getElem hk]
    · have hrn : rid ≠ 1 := by omega
      have g1 : (H1.set 1 (L .busy))[0]? = some (.box [.own rid v 0 k]) := by rw [hne _ (by omega)]; exact j4
      have g2 : (H1.set 1 (L .busy))[rid]? = some (.arr 1 v ((l.take k).map (AV.int .i64))) := by rw [hne _ hrn]; exact j5
      generalize (H1.set 1 (L .busy)) = G at hne hbz hlen g1 g2
      have hgl1 : 1 < G.length := lt_of_get hbz
      have hgr : rid < G.length := lt_of_get g2
      have g3 : (G ++ [Entry.arr 1 0 [AV.int .i64 l[k]]])[rid]? = some (.arr 1 v ((l.take k).map (AV.int .i64))) := by rw [List.getElem?_append_left hgr]; exact g2
      have happ := app_own (n := k) (ys := [AV.int .i64 l[k]]) (bytes := 8) g3 (by simp; omega) (by unfold maxRow; simp; omega) (by decide) (by decide) (by simp) (by simp [szOk, AV.cells, AV.oneIn])
      have htk : ((l.take k).map (AV.int .i64)).take k ++ [AV.int .i64 l[k]] = (l.take (k + 1)).map (AV.int .i64) := by
        rw [List.take_of_length_le (by simp; omega), List.take_succ_eq_append_getElem hk, List.map_append, List.map_take]; rfl
      rw [htk] at happ
      have hsn : seen (G ++ [Entry.arr 1 0 [AV.int .i64 l[k]]]) (.own G.length 0 0 1) = some [AV.int .i64 l[k]] := by simp [seen]
      simp only [load_box g1, hsn, go_sem, Nat.reduceEqDiff, reduceIte, Nat.reduceAdd, happ]
      generalize hm : ((G ++ [Entry.arr 1 0 [AV.int .i64 l[k]]]).set rid (.arr 1 (v + 1) ((l.take (k + 1)).map (AV.int .i64)))) = M
      have hlow : ∀ j, j < G.length → j ≠ rid → M[j]? = G[j]? := fun j hj hjr => by rw [← hm, List.getElem?_set_ne (Ne.symm hjr), List.getElem?_append_left hj]
      have e2 : M[rid]? = some (.arr 1 (v + 1) ((l.take (k + 1)).map (AV.int .i64))) := by rw [← hm, List.getElem?_set_self (by simp; omega)]
      have e1 : M[0]? = some (.box [.own rid v 0 k]) := by rw [hlow _ (by omega) (by omega)]; exact g1
      have hML : rid < M.length := lt_of_get e2
      have hML1 : G.length < M.length := by rw [← hm]; simp
      simp only [resW_some, W_store, evalOp, Opd.ev, updo_envL, setL_cons, setL_nil, envL_cons, Nat.reduceEqDiff, reduceIte, store_box e1 rfl (own_one e2), Option.map_some, updo_none, W_nil, blockQ_normal]
      refine ⟨by rw [List.getElem?_set_ne (by omega), hlow _ hgl1 (by omega)]; exact hbz, .inl ⟨trivial, ?_, .inr ⟨rid, v + 1, j3, ?_, ?_⟩⟩⟩
      · rw [List.getElem?_set_self (by simp; omega)]
      · rw [List.getElem?_set_ne (by omega), List.getElem?_set_self (by omega)]
      · rw [List.getElem?_set_ne (by omega), List.getElem?_set_ne (by omega), e2]
  · rintro r H' (⟨j2, j3⟩ | hf)
    · left
      refine ⟨j2, ?_⟩
      have hne : ∀ j, j ≠ 1 → (H'.set 1 .dead)[j]? = H'[j]? := fun j hj => List.getElem?_set_ne (Ne.symm hj)
      rw [List.length_map] at j3
      rcases j3 with ⟨h0, j3⟩ | ⟨rid, v, j3, j4, j5⟩
      · have hl0 : l = [] := List.eq_nil_of_length_eq_zero h0
        subst hl0
        have g1 : (H'.set 1 .dead)[0]? = some (.box [.list true []]) := by rw [hne _ (by omega)]; exact j3
        simp only [go_sem, Nat.reduceEqDiff, reduceIte, Nat.reduceAdd, load_box g1]
        exact .inr ⟨trivial, trivial⟩
      · have g1 : (H'.set 1 .dead)[0]? = some (.box [.own rid v 0 l.length]) := by rw [hne _ (by omega)]; exact j4
        have g2 : (H'.set 1 .dead)[rid]? = some (.arr 1 v ((l.take l.length).map (AV.int .i64))) := by rw [hne _ (by omega)]; exact j5
        rw [List.take_length] at g2
        simp only [go_sem, Nat.reduceEqDiff, reduceIte, Nat.reduceAdd, load_box g1]
        exact .inl ⟨rid, v, by simp, g2⟩
    · exact hf.elim

theorem collect_spec (l : List Int) (hl : l.length ≤ 4294967295) (c : Nat) (f : IFn) (hc : trFn seat c = some f) (cap : List AV) (hcap : ∀ x ∈ cap, Idb 0 x) (hg : Gives seat c cap (l.map (AV.int .i64))) :
    FunOwn seat 40 [.func (.f c) [] cap] 1 (l.map (AV.int .i64)) := by
  refine FunOwn.of0 told40 (by simp [il40]) (by simpa  using hcap) (encI64.xs_idb l) ?_
  simp only [il40, List.zipIdx_cons, List.zipIdx_nil, Nat.zero_add, go_sem, Nat.reduceEqDiff, reduceIte, Nat.reduceAdd]
  refine Callee.own told47 (appendSeq_spec l hl c f hc cap hcap hg) ?_
  simp only [go_sem, Nat.reduceEqDiff, reduceIte, Nat.reduceAdd]
  exact ⟨_, _, rfl, rfl⟩

theorem sortedSeq_spec (l : List Int) (hl : l.length ≤ 4294967295) (c : Nat) (f : IFn) (hc : trFn seat c = some f) (cap : List AV) (hcap : ∀ x ∈ cap, Idb 0 x) (hg : Gives seat c cap (l.map (AV.int .i64))) :
    FunOwn seat 25 [.func (.f c) [] cap] 1 ((sorted l).map (AV.int .i64)) := by
  refine FunOwn.of0 told25 (by simp [il25]) (by simpa  using hcap) (encI64.xs_idb _) ?_
  simp only [il25, List.zipIdx_cons, List.zipIdx_nil, Nat.zero_add, go_sem, Nat.reduceEqDiff, reduceIte, Nat.reduceAdd]
  refine Callee.own told40 (collect_spec l hl c f hc cap hcap hg) ?_
  simp only [go_sem, Nat.reduceEqDiff, reduceIte, Nat.reduceAdd, List.length_map]
  refine Callee.plain (Callable.of told41) (sort_spec l rfl (by omega)) ?_
  rintro _ _ ⟨rfl, rfl⟩
  simp only [go_sem, Nat.reduceEqDiff, reduceIte, Nat.reduceAdd]
  exact ⟨_, _, by rw [sorted_length], rfl⟩

end Go.Proofs.YtihhinbjhiankaaGreatDoor.Al

set_option linter.unusedSimpArgs false
set_option linter.unusedVariables false
namespace Go.Proofs.YtihhinbjhiankaaGreatDoor.Al
open Go
attribute [local go_sem] W_mv W_pick W_alloc W_box W_build W_bslice W_load W_store W_bin W_isnil W_un W_convI W_convS W_mkiface W_mkfunc W_slice W_faddr W_iaddr W_idxA W_extract W_len W_min W_max W_append thenQ_normal thenQ_exit thenQ_ret blockQ_normal blockQ_ret blockQ_exit wpc_skip wpc_region wpc_draw wpc_seq wpc_cond wpc_block wpc_exit wpc_ret wpc_loop wpc_range condW_true condW_false condW_dec condW_any W_nil W_call resW_some evalOp Opd.ev updo_envL updo_none setL_cons setL_nil envL_cons Option.map_some Option.bind_some evBin evInt List.map_cons List.map_nil Option.pure_def Option.bind_eq_bind W_grd' grdW_tt grdW_ff grdW_tf grdW_ft grdW_tup grdW_dt grdW_df L_mv L_load L_bin L_un L_faddr L_iaddr L_nil L_call lresW_some upd_envL evUn beq_dec bne_dec leaves_ret1 leaves_ret0 leaves_end0 rowLen_ints load_iptr0 not_dec heap_get0 heap_get1 heap_set0 heap_set1 heap_len1 heap_app bslice1_int seen_one0 Nat.sub_zero Bool.not_true Bool.not_false List.length_nil List.length_cons List.nil_append List.cons_append Nat.zero_add canon_ptrI canon_bool canon_tup canon_agg canon_ints' canon_ints0 rowLen_octs seen_octs canon_octs' rowLen_nodes canon_nodes' rowLen_nodes0 rowLen_nodes3 seen_list cells_int oneIn_int cells_bool oneIn_bool cells_list oneIn_list cells_func oneIn_func cells_own cells_ptr cells_agg oneIn_own0 oneIn_own1 seenL1 seenM1 oneIn_ptr2 seenL2 oneIn_own3 seenL3 cells_ints oneIn_ints cells_octs oneIn_octs cells_nodes oneIn_nodes ldB0 ldA0 adB0 stB0 ldB1 ldA1 adB1 stB1 ldB2 ldA2 adB2 stB2 ldB3 stB3 List.getElem?_cons_zero List.getElem?_cons_succ beq_self_eq_true splice List.take_zero List.take_succ_cons List.drop_zero List.drop_succ_cons List.append_nil List.set_cons_zero List.set_cons_succ List.all_cons List.all_nil Bool.and_self and_self and_true true_and Nat.lt_irrefl Nat.zero_lt_one Nat.le_refl fillA evNil notA Bool.false_eq_true evMin_int evMax_int Option.map_none freezeP_all_nil freezeP_all_cons frzE_box frzE_arr foldA List.foldlM_cons List.foldlM_nil
attribute [local simp] envL_cons envL_nil idb_int idb_bool idb_ints idb_nil idb_own idb_ptr idb_octs idb_nodes idb_leafA idb_innerA idb_nodeA idb_agg idb_tup idb_iptr idb_fn entB_dead entB_box
def bytesOf (l : List Int) : List UInt8 := l.map fun n => UInt8.ofNat n.toNat
theorem bytes_octs (l : List Int) : (l.map (AV.int .u8)).mapM byteOf = some (bytesOf l) := by
  induction l with
  | nil => rfl
  | cons x l ih => rw [List.map_cons, List.mapM_cons, ih]; rfl
theorem bytesOf_inj1 : ∀ {a b : List Int}, (∀ x ∈ a, IntKind.u8.min ≤ x ∧ x ≤ IntKind.u8.max) → (∀ x ∈ b, IntKind.u8.min ≤ x ∧ x ≤ IntKind.u8.max) → bytesOf a = bytesOf b → a = b
  | [], [], _, _, _ => rfl
  | [], y :: b, _, _, h => by simp [bytesOf] at h
  | x :: a, [], _, _, h => by simp [bytesOf] at h
  | x :: a, y :: b, ha, hb, h => by
    simp only [bytesOf, List.map_cons, List.cons.injEq] at h
    have hx := ha x (by simp)
    have hy := hb y (by simp)
    have hx0 : 0 ≤ x := hx.1
    have hx1 : x ≤ 255 := hx.2
    have hy0 : 0 ≤ y := hy.1
    have hy1 : y ≤ 255 := hy.2
    have e : x.toNat = y.toNat := by
      have := congrArg UInt8.toNat h.1
      rw [UInt8.toNat_ofNat', UInt8.toNat_ofNat', Nat.mod_eq_of_lt (by omega), Nat.mod_eq_of_lt (by omega)] at this
      exact this
    rw [show x = y by omega, bytesOf_inj1 (a := a) (b := b) (fun z hz => ha z (by simp [hz])) (fun z hz => hb z (by simp [hz])) h.2]
theorem bytesOf_inj {a b : List Int} (ha : Oct a) (hb : Oct b) (h : bytesOf a = bytesOf b) : a = b := bytesOf_inj1 ha.2 hb.2 h
theorem bytesOf_eq {a b : List Int} (ha : Oct a) (hb : Oct b) : (decide (bytesOf a = bytesOf b)) = decide (a = b) := by
  rw [decide_eq_decide]
  exact ⟨bytesOf_inj ha hb, fun h => by rw [h]⟩

theorem evStr_eql (a b : List UInt8) : evStr .eql a b = some (.bool (decide (a = b))) := by
  simp only [evStr]
  congr 2
  by_cases h : a = b
  · subst h; simp
  · simp [h]
theorem bytesEq_spec (a b : List Int) (ha : Oct a) (hb : Oct b) : Fun seat 156 [octs a, octs b] (.bool (decide (a = b))) := by
  refine Fun.of0 told156 (by simp [il156]) (by simp ) (by simp ) 0 ?_
  rw [← bytesOf_eq ha hb]
  simp only [il156, List.zipIdx_cons, List.zipIdx_nil, Nat.zero_add, go_sem, Nat.reduceEqDiff, reduceIte, Nat.reduceAdd, Nat.reduceLeDiff, Nat.reduceLT, Nat.reduceSub, bytes_octs, evStr_eql]

theorem big_spec (l : List Int) : Fun seat 158 [octs l] (.bool (decide ((l.length : Int) > 200))) := by
  refine Fun.of0 told158 (by simp [il158]) (by simp ) (by simp ) 0 ?_
  simp only [il158, List.zipIdx_cons, List.zipIdx_nil, Nat.zero_add, go_sem, Nat.reduceEqDiff, reduceIte, Nat.reduceAdd, Nat.reduceLeDiff, Nat.reduceLT, Nat.reduceSub]
theorem source_spec (x : Int) : Fun seat 160 [.int .i64 x] (.bool (decide (x ≥ 1 ∧ x ≤ 3))) := by
  refine Fun.of0 told160 (by simp [il160]) (by simp ) (by simp ) 0 ?_
  by_cases h : x ≥ 1
  · simp only [il160, List.zipIdx_cons, List.zipIdx_nil, Nat.zero_add, go_sem, Nat.reduceEqDiff, reduceIte, Nat.reduceAdd, Nat.reduceLeDiff, Nat.reduceLT, Nat.reduceSub, h, decide_true, true_and]
  · simp only [il160, List.zipIdx_cons, List.zipIdx_nil, Nat.zero_add, go_sem, Nat.reduceEqDiff, reduceIte, Nat.reduceAdd, Nat.reduceLeDiff, Nat.reduceLT, Nat.reduceSub, h, decide_false, false_and]
theorem wide_spec (x : Int) : Fun seat 161 [.int .i64 x] (.bool (decide (x < 0 ∨ x > 63))) := by
  refine Fun.of0 told161 (by simp [il161]) (by simp ) (by simp ) 0 ?_
  by_cases h : x < 0
  · simp only [il161, List.zipIdx_cons, List.zipIdx_nil, Nat.zero_add, go_sem, Nat.reduceEqDiff, reduceIte, Nat.reduceAdd, Nat.reduceLeDiff, Nat.reduceLT, Nat.reduceSub, h, decide_true, true_or]
  · simp only [il161, List.zipIdx_cons, List.zipIdx_nil, Nat.zero_add, go_sem, Nat.reduceEqDiff, reduceIte, Nat.reduceAdd, Nat.reduceLeDiff, Nat.reduceLT, Nat.reduceSub, h, decide_false, false_or]

end Go.Proofs.YtihhinbjhiankaaGreatDoor.Al
namespace Go.Proofs.YtihhinbjhiankaaGreatDoor.Al
open Go
attribute [local go_sem] W_mv W_pick W_alloc W_box W_build W_bslice W_load W_store W_bin W_isnil W_un W_convI W_convS W_mkiface W_mkfunc W_slice W_faddr W_iaddr W_idxA W_extract W_len W_min W_max W_append thenQ_normal thenQ_exit thenQ_ret blockQ_normal blockQ_ret blockQ_exit wpc_skip wpc_region wpc_draw wpc_seq wpc_cond wpc_block wpc_exit wpc_ret wpc_loop wpc_range condW_true condW_false condW_dec condW_any W_nil W_call resW_some evalOp Opd.ev updo_envL updo_none setL_cons setL_nil envL_cons Option.map_some Option.bind_some evBin evInt List.map_cons List.map_nil Option.pure_def Option.bind_eq_bind W_grd' grdW_tt grdW_ff grdW_tf grdW_ft grdW_tup grdW_dt grdW_df L_mv L_load L_bin L_un L_faddr L_iaddr L_nil L_call lresW_some upd_envL evUn beq_dec bne_dec leaves_ret1 leaves_ret0 leaves_end0 rowLen_ints load_iptr0 not_dec heap_get0 heap_get1 heap_set0 heap_set1 heap_len1 heap_app bslice1_int seen_one0 Nat.sub_zero Bool.not_true Bool.not_false
attribute [local simp] envL_cons envL_nil idb_int idb_bool idb_ints idb_nil idb_own idb_ptr
theorem eqInts_spec (a b : List Int) : Fun seat 157 [ints a, ints b] (.bool (decide (a = b))) := by
  intro H
  refine ACall.bnd (t := false) (xs := a.map (AV.int .i64)) (by simp [ints]) fun hlen => ?_
  rw [List.length_map] at hlen
  refine Fun.of_wp told157 (by simp [il157]) (.bool _) (fun H hwf hi => ?_) H
  simp only [il157, List.zipIdx_cons, List.zipIdx_nil, Nat.zero_add, go_sem, Nat.reduceEqDiff, reduceIte]
  refine ⟨fun hne => ⟨?_, by simp⟩, fun heq => ?_⟩
  · have : a ≠ b := fun e => hne (by rw [e])
    simp [this]
  have hll : a.length = b.length := by omega
  refine WP.loopF (fun k => k ≤ a.length ∧ ∀ j (hj : j < a.length), j < k → a[j] = b[j]) (fun k => ⟨envL [(0, ints a), (1, ints b), (4, .bool false), (12, .int .i64 a.length), (13, .int .i64 k)], H⟩) (fun k => a.length - k) 0 (by simp) (Fits.of (by simp ) (by simp ) (by simp) hwf) (fun _ _ => Nat.le_refl _) ?_
  rintro k ⟨hk, hno⟩
  refine wpc_sound ?_
  simp only [go_sem, Nat.reduceEqDiff, reduceIte]
  refine ⟨fun h => ?_, fun h => ?_⟩
  · have hk' : k < a.length := by omega
    refine WP.drawL mixed (by decide) ?_
    simp only [go_sem, Nat.reduceEqDiff, reduceIte, index_ints H a k hk', index_ints H b k (by omega)]
    refine ⟨fun ht => ⟨?_, by simp⟩, fun ht => ?_⟩
    · have : a ≠ b := fun e => ht (by simp [e])
      simp [this]
    · refine ⟨k + 1, ⟨hk', fun j hj hjk => ?_⟩, by omega, Fits.of ?_ (by simp ) (by simp) hwf⟩
      · rcases Nat.lt_or_ge j k with h | h
        · exact hno j hj h
        · have : j = k := by omega
          subst this; exact Classical.not_not.1 ht
      · simp 
        exact wrap64 _ (by omega) (by omega)
  · refine ⟨?_, by simp⟩
    have : a = b := List.ext_getElem hll fun j h1 h2 => hno j h1 (by omega)
    simp [this]

end Go.Proofs.YtihhinbjhiankaaGreatDoor.Al
namespace Go.Proofs.YtihhinbjhiankaaGreatDoor.Al
open Go
attribute [local go_sem] W_mv W_pick W_alloc W_box W_build W_bslice W_load W_store W_bin W_isnil W_un W_convI W_convS W_mkiface W_mkfunc W_slice W_faddr W_iaddr W_idxA W_extract W_len W_min W_max W_append thenQ_normal thenQ_exit thenQ_ret blockQ_normal blockQ_ret blockQ_exit wpc_skip wpc_region wpc_draw wpc_seq wpc_cond wpc_block wpc_exit wpc_ret wpc_loop wpc_range condW_true condW_false condW_dec condW_any W_nil W_call resW_some evalOp Opd.ev updo_envL updo_none setL_cons setL_nil envL_cons Option.map_some Option.bind_some evBin evInt List.map_cons List.map_nil Option.pure_def Option.bind_eq_bind W_grd' grdW_tt grdW_ff grdW_tf grdW_ft grdW_tup grdW_dt grdW_df L_mv L_load L_bin L_un L_faddr L_iaddr L_nil L_call lresW_some upd_envL evUn beq_dec bne_dec leaves_ret1 leaves_ret0 leaves_end0 rowLen_ints load_iptr0 not_dec heap_get0 heap_get1 heap_set0 heap_set1 heap_len1 heap_app bslice1_int seen_one0 Nat.sub_zero Bool.not_true Bool.not_false List.length_nil List.length_cons List.nil_append List.cons_append Nat.zero_add canon_ptrI canon_bool canon_tup canon_agg canon_ints' canon_ints0 rowLen_octs seen_octs canon_octs' rowLen_nodes canon_nodes' rowLen_nodes0 rowLen_nodes3 seen_list cells_int oneIn_int cells_bool oneIn_bool cells_list oneIn_list cells_func oneIn_func cells_own cells_ptr cells_agg oneIn_own0 oneIn_own1 seenL1 seenM1 oneIn_ptr2 seenL2 oneIn_own3 seenL3 cells_ints oneIn_ints cells_octs oneIn_octs cells_nodes oneIn_nodes ldB0 ldA0 adB0 stB0 ldB1 ldA1 adB1 stB1 ldB2 ldA2 adB2 stB2 ldB3 stB3 List.getElem?_cons_zero List.getElem?_cons_succ beq_self_eq_true splice List.take_zero List.take_succ_cons List.drop_zero List.drop_succ_cons List.append_nil List.set_cons_zero List.set_cons_succ List.all_cons List.all_nil Bool.and_self and_self and_true true_and Nat.lt_irrefl Nat.zero_lt_one Nat.le_refl fillA evNil notA Bool.false_eq_true evMin_int evMax_int Option.map_none freezeP_all_nil freezeP_all_cons frzE_box frzE_arr foldA List.foldlM_cons List.foldlM_nil
attribute [local simp] envL_cons envL_nil idb_int idb_bool idb_ints idb_nil idb_own idb_ptr idb_octs idb_nodes idb_leafA idb_innerA idb_nodeA idb_agg idb_tup idb_iptr idb_fn entB_dead entB_box
theorem idx166_spec (l : List (List Int)) (p : List Int → Bool) (c : Nat) (f : IFn) (ht : trFn seat c = some f) (cap : List AV) (hcap : ∀ x ∈ cap, Idb 0 x) (h : ∀ x ∈ l, Fun seat c ([octs x] ++ cap) (.bool (p x))) : Fun seat 166 [encOcts.row l, .func (.f c) [] cap] (.int .i64 (idxF p l)) := by
  refine Fun.bd fun hbd => ?_
  have hlb : l.length ≤ 9223372036854775807 := encOcts.bd_len (t := false) hbd (by simp [Enc.row])
  refine Fun.of0 told166 (by simp [il166]) (by simpa [encOcts.idb_row] using hcap) (by simp ) 0 ?_
  simp only [il166, List.zipIdx_cons, List.zipIdx_nil, Nat.zero_add, go_sem, Nat.reduceEqDiff, reduceIte, Nat.reduceAdd, Nat.reduceLeDiff, Nat.reduceLT, Nat.reduceSub, encOcts.rowLen]
  refine WP.loop0 (fun k => k ≤ l.length ∧ ∀ j (hj : j < l.length), j < k → p l[j] = false) (fun k => [(0, encOcts.row l), (1, .func (.f c) [] cap), (7, .int .i64 l.length), (8, .int .i64 k)]) (fun k => l.length - k) 0 ⟨Nat.zero_le _, fun j _ h => by omega⟩
    (fun k _ => by simpa [encOcts.idb_row] using hcap) (by simp ) ?_
  rintro k ⟨hk, hno⟩
  refine wpc_sound ?_
  simp only [go_sem, Nat.reduceEqDiff, reduceIte, Nat.reduceAdd, Nat.reduceLeDiff, Nat.reduceLT, Nat.reduceSub]
  refine ⟨fun hlt => ?_, fun hge => ?_⟩
  · have hk' : k < l.length := by omega
    have ix : evIndex [] 1 (encOcts.row l) (.int .i64 (k : Int)) = some (.iptr ([octs l[k]]) 0) := encOcts.index [] l k hk'
    have ld : evLoad [] false 1 (.iptr ([octs l[k]]) 0) = some (octs l[k]) := rfl
    simp only [go_sem, Nat.reduceEqDiff, reduceIte, Nat.reduceAdd, Nat.reduceLeDiff, Nat.reduceLT, Nat.reduceSub, ix, ld]
    refine Callee.c ht (h l[k] (List.getElem_mem hk')) ?_
    cases hp : p l[k] with
    | true =>
      simp only [go_sem, Nat.reduceEqDiff, reduceIte, Nat.reduceAdd, Nat.reduceLeDiff, Nat.reduceLT, Nat.reduceSub]
      rw [findIdx_at hk' hp fun j hj => hno j (by omega) hj]
    | false =>
      simp only [go_sem, Nat.reduceEqDiff, reduceIte, Nat.reduceAdd, Nat.reduceLeDiff, Nat.reduceLT, Nat.reduceSub]
      refine ⟨k + 1, ⟨hk', fun j hj hjk => ?_⟩, by omega, by simp [wrapS (show k < 9223372036854775807 by omega)]⟩
      rcases Nat.lt_or_ge j k with hlt | hge
      · exact hno j hj hlt
      · obtain rfl : j = k := by omega
        exact hp
  · have hke : k = l.length := by omega
    subst hke
    rw [idxF_none fun j hj => hno j hj hj]

theorem idx167_spec (l : List (Int)) (p : Int → Bool) (c : Nat) (f : IFn) (ht : trFn seat c = some f) (cap : List AV) (hcap : ∀ x ∈ cap, Idb 0 x) (h : ∀ x ∈ l, Fun seat c ([.int .i64 x] ++ cap) (.bool (p x))) : Fun seat 167 [encI64.row l, .func (.f c) [] cap] (.int .i64 (idxF p l)) := by
  refine Fun.bd fun hbd => ?_
  have hlb : l.length ≤ 9223372036854775807 := encI64.bd_len (t := false) hbd (by simp [Enc.row])
  refine Fun.of0 told167 (by simp [il167]) (by simpa [encI64.idb_row] using hcap) (by simp ) 0 ?_
  simp only [il167, List.zipIdx_cons, List.zipIdx_nil, Nat.zero_add, go_sem, Nat.reduceEqDiff, reduceIte, Nat.reduceAdd, Nat.reduceLeDiff, Nat.reduceLT, Nat.reduceSub, encI64.rowLen]
  refine WP.loop0 (fun k => k ≤ l.length ∧ ∀ j (hj : j < l.length), j < k → p l[j] = false) (fun k => [(0, encI64.row l), (1, .func (.f c) [] cap), (7, .int .i64 l.length), (8, .int .i64 k)]) (fun k => l.length - k) 0 ⟨Nat.zero_le _, fun j _ h => by omega⟩
    (fun k _ => by simpa [encI64.idb_row] using hcap) (by simp ) ?_
  rintro k ⟨hk, hno⟩
  refine wpc_sound ?_
  simp only [go_sem, Nat.reduceEqDiff, reduceIte, Nat.reduceAdd, Nat.reduceLeDiff, Nat.reduceLT, Nat.reduceSub]
  refine ⟨fun hlt => ?_, fun hge => ?_⟩
  · have hk' : k < l.length := by omega
    have ix : evIndex [] 1 (encI64.row l) (.int .i64 (k : Int)) = some (.iptr ([.int .i64 l[k]]) 0) := encI64.index [] l k hk'
    have ld : evLoad [] false 1 (.iptr ([.int .i64 l[k]]) 0) = some (.int .i64 l[k]) := rfl
    simp only [go_sem, Nat.reduceEqDiff, reduceIte, Nat.reduceAdd, Nat.reduceLeDiff, Nat.reduceLT, Nat.reduceSub, ix, ld]
    refine Callee.c ht (h l[k] (List.getElem_mem hk')) ?_
    cases hp : p l[k] with
    | true =>
      simp only [go_sem, Nat.reduceEqDiff, reduceIte, Nat.reduceAdd, Nat.reduceLeDiff, Nat.reduceLT, Nat.reduceSub]
      rw [findIdx_at hk' hp fun j hj => hno j (by omega) hj]
    | false =>
      simp only [go_sem, Nat.reduceEqDiff, reduceIte, Nat.reduceAdd, Nat.reduceLeDiff, Nat.reduceLT, Nat.reduceSub]
      refine ⟨k + 1, ⟨hk', fun j hj hjk => ?_⟩, by omega, by simp [wrapS (show k < 9223372036854775807 by omega)]⟩
      rcases Nat.lt_or_ge j k with hlt | hge
      · exact hno j hj hlt
      · obtain rfl : j = k := by omega
        exact hp
  · have hke : k = l.length := by omega
    subst hke
    rw [idxF_none fun j hj => hno j hj hj]

theorem any159_spec (l : List (List Int)) (p : List Int → Bool) (c : Nat) (f : IFn) (ht : trFn seat c = some f) (cap : List AV) (hcap : ∀ x ∈ cap, Idb 0 x) (h : ∀ x ∈ l, Fun seat c ([octs x] ++ cap) (.bool (p x))) : Fun seat 159 [encOcts.row l, .func (.f c) [] cap] (.bool (l.any p)) := by
  refine Fun.of0 told159 (by simp [il159]) (by simpa [encOcts.idb_row] using hcap) (by simp ) 0 ?_
  rw [← idxF_ge]
  simp only [il159, List.zipIdx_cons, List.zipIdx_nil, Nat.zero_add, go_sem, Nat.reduceEqDiff, reduceIte, Nat.reduceAdd, Nat.reduceLeDiff, Nat.reduceLT, Nat.reduceSub]
  refine Callee.f told166 (idx166_spec l p c f ht cap hcap h) ?_
  simp only [go_sem, Nat.reduceEqDiff, reduceIte, Nat.reduceAdd, Nat.reduceLeDiff, Nat.reduceLT, Nat.reduceSub]
theorem any162_spec (l : List Int) (p : Int → Bool) (c : Nat) (f : IFn) (ht : trFn seat c = some f) (cap : List AV) (hcap : ∀ x ∈ cap, Idb 0 x) (h : ∀ x ∈ l, Fun seat c ([.int .i64 x] ++ cap) (.bool (p x))) : Fun seat 162 [encI64.row l, .func (.f c) [] cap] (.bool (l.any p)) := by
  refine Fun.of0 told162 (by simp [il162]) (by simpa [encI64.idb_row] using hcap) (by simp ) 0 ?_
  rw [← idxF_ge]
  simp only [il162, List.zipIdx_cons, List.zipIdx_nil, Nat.zero_add, go_sem, Nat.reduceEqDiff, reduceIte, Nat.reduceAdd, Nat.reduceLeDiff, Nat.reduceLT, Nat.reduceSub]
  refine Callee.f told167 (idx167_spec l p c f ht cap hcap h) ?_
  simp only [go_sem, Nat.reduceEqDiff, reduceIte, Nat.reduceAdd, Nat.reduceLeDiff, Nat.reduceLT, Nat.reduceSub]
end Go.Proofs.YtihhinbjhiankaaGreatDoor.Al

set_option linter.unusedSimpArgs false
set_option linter.unusedVariables false
namespace Go.Proofs.YtihhinbjhiankaaGreatDoor.Al
open Go
attribute [local go_sem] W_mv W_pick W_alloc W_box W_build W_bslice W_load W_store W_bin W_isnil W_un W_convI W_convS W_mkiface W_mkfunc W_slice W_faddr W_iaddr W_idxA W_extract W_len W_min W_max W_append thenQ_normal thenQ_exit thenQ_ret blockQ_normal blockQ_ret blockQ_exit wpc_skip wpc_region wpc_draw wpc_seq wpc_cond wpc_block wpc_exit wpc_ret wpc_loop wpc_range condW_true condW_false condW_dec condW_any W_nil W_call resW_some evalOp Opd.ev updo_envL updo_none setL_cons setL_nil envL_cons Option.map_some Option.bind_some evBin evInt List.map_cons List.map_nil Option.pure_def Option.bind_eq_bind W_grd' grdW_tt grdW_ff grdW_tf grdW_ft grdW_tup grdW_dt grdW_df L_mv L_load L_bin L_un L_faddr L_iaddr L_nil L_call lresW_some upd_envL evUn beq_dec bne_dec leaves_ret1 leaves_ret0 leaves_end0 rowLen_ints load_iptr0 not_dec heap_get0 heap_get1 heap_set0 heap_set1 heap_len1 heap_app bslice1_int seen_one0 Nat.sub_zero Bool.not_true Bool.not_false List.length_nil List.length_cons List.nil_append List.cons_append Nat.zero_add canon_ptrI canon_bool canon_tup canon_agg canon_ints' canon_ints0 rowLen_octs seen_octs canon_octs' rowLen_nodes canon_nodes' rowLen_nodes0 rowLen_nodes3 seen_list cells_int oneIn_int cells_bool oneIn_bool cells_list oneIn_list cells_func oneIn_func cells_own cells_ptr cells_agg oneIn_own0 oneIn_own1 seenL1 seenM1 oneIn_ptr2 seenL2 oneIn_own3 seenL3 cells_ints oneIn_ints cells_octs oneIn_octs cells_nodes oneIn_nodes ldB0 ldA0 adB0 stB0 ldB1 ldA1 adB1 stB1 ldB2 ldA2 adB2 stB2 ldB3 stB3 List.getElem?_cons_zero List.getElem?_cons_succ beq_self_eq_true splice List.take_zero List.take_succ_cons List.drop_zero List.drop_succ_cons List.append_nil List.set_cons_zero List.set_cons_succ List.all_cons List.all_nil Bool.and_self and_self and_true true_and Nat.lt_irrefl Nat.zero_lt_one Nat.le_refl fillA evNil notA Bool.false_eq_true evMin_int evMax_int Option.map_none freezeP_all_nil freezeP_all_cons frzE_box frzE_arr foldA List.foldlM_cons List.foldlM_nil
attribute [local simp] envL_cons envL_nil idb_int idb_bool idb_ints idb_nil idb_own idb_ptr idb_octs idb_nodes idb_leafA idb_innerA idb_nodeA idb_agg idb_tup idb_iptr idb_fn entB_dead entB_box
theorem thin_spec (l : List Int) (hl : l.length ≤ 4294967295) : Fun seat 163 [ints l] (ints (rise l)) := by
  refine Fun.of0 told163 (by simp [il163]) (by simp ) (by simp ) 1 ?_
  simp only [il163, List.zipIdx_cons, List.zipIdx_nil, Nat.zero_add, go_sem, Nat.reduceEqDiff, reduceIte, Nat.reduceAdd, Nat.reduceLeDiff, Nat.reduceLT, Nat.reduceSub]
  refine Callee.f told26 (values_spec l) ?_
  simp only [go_sem, Nat.reduceEqDiff, reduceIte, Nat.reduceAdd, Nat.reduceLeDiff, Nat.reduceLT, Nat.reduceSub]
  refine Callee.own told25 (sortedSeq_spec l hl 42 il42 told42 [.iptr [ints l] 0] (by simp ) (valuesIter l (by omega))) ?_
  simp only [go_sem, Nat.reduceEqDiff, reduceIte, Nat.reduceAdd, Nat.reduceLeDiff, Nat.reduceLT, Nat.reduceSub, List.length_map]
  refine Callee.plain (Callable.of told24) (compact_spec' (sorted l) rfl) ?_
  rintro _ _ ⟨rfl, rfl⟩
  simp only [go_sem, Nat.reduceEqDiff, reduceIte, Nat.reduceAdd, Nat.reduceLeDiff, Nat.reduceLT, Nat.reduceSub]
  rw [← compact_sorted]

theorem leafSame_spec (a b : Leaf) (ha : a.Ok) (hb : b.Ok) : Fun seat 142 [leafA a, leafA b] (.bool (decide (a = b))) := by
  refine Fun.of0 told142 (by simp [il142]) (by simp [idb_leafA]) (by simp ) 0 ?_
  simp only [il142, List.zipIdx_cons, List.zipIdx_nil, Nat.zero_add, leafA, Leaf.cells]
  have e : decide (a = b) = (decide (a.source = b.source) && decide (a.enc = b.enc) && decide (a.cred = b.cred) && decide (a.parent = b.parent)) := by
    cases a; cases b
    simp only [Leaf.mk.injEq]
    rw [Bool.eq_iff_iff]
    simp only [decide_eq_true_eq, Bool.and_eq_true]
    constructor
    · rintro ⟨h1, h2, h3, h4⟩; exact ⟨⟨⟨h3, h1⟩, h2⟩, h4⟩
    · rintro ⟨⟨⟨h3, h1⟩, h2⟩, h4⟩; exact ⟨h1, h2, h3, h4⟩
  rw [e]
  by_cases h1 : a.source = b.source
  · by_cases h2 : a.enc = b.enc
    · by_cases h3 : a.cred = b.cred
      · simp only [go_sem, Nat.reduceEqDiff, reduceIte, Nat.reduceAdd, Nat.reduceLeDiff, Nat.reduceLT, Nat.reduceSub, h1, decide_true]
        refine Callee.f told156 (bytesEq_spec a.enc b.enc ha.enc hb.enc) ?_
        simp only [go_sem, Nat.reduceEqDiff, reduceIte, Nat.reduceAdd, Nat.reduceLeDiff, Nat.reduceLT, Nat.reduceSub, h2, decide_true]
        refine Callee.f told156 (bytesEq_spec a.cred b.cred ha.cred hb.cred) ?_
        simp only [go_sem, Nat.reduceEqDiff, reduceIte, Nat.reduceAdd, Nat.reduceLeDiff, Nat.reduceLT, Nat.reduceSub, h3, decide_true]
        refine Callee.f told156 (bytesEq_spec a.parent b.parent ha.parent hb.parent) ?_
        simp only [go_sem, Nat.reduceEqDiff, reduceIte, Nat.reduceAdd, Nat.reduceLeDiff, Nat.reduceLT, Nat.reduceSub, Bool.true_and]
      · simp only [go_sem, Nat.reduceEqDiff, reduceIte, Nat.reduceAdd, Nat.reduceLeDiff, Nat.reduceLT, Nat.reduceSub, h1, decide_true]
        refine Callee.f told156 (bytesEq_spec a.enc b.enc ha.enc hb.enc) ?_
        simp only [go_sem, Nat.reduceEqDiff, reduceIte, Nat.reduceAdd, Nat.reduceLeDiff, Nat.reduceLT, Nat.reduceSub, h2, decide_true]
        refine Callee.f told156 (bytesEq_spec a.cred b.cred ha.cred hb.cred) ?_
        simp only [go_sem, Nat.reduceEqDiff, reduceIte, Nat.reduceAdd, Nat.reduceLeDiff, Nat.reduceLT, Nat.reduceSub, h3, decide_false, Bool.and_false, Bool.false_and]
    · simp only [go_sem, Nat.reduceEqDiff, reduceIte, Nat.reduceAdd, Nat.reduceLeDiff, Nat.reduceLT, Nat.reduceSub, h1, decide_true]
      refine Callee.f told156 (bytesEq_spec a.enc b.enc ha.enc hb.enc) ?_
      simp only [go_sem, Nat.reduceEqDiff, reduceIte, Nat.reduceAdd, Nat.reduceLeDiff, Nat.reduceLT, Nat.reduceSub, h2, decide_false, Bool.and_false, Bool.false_and]
  · simp only [go_sem, Nat.reduceEqDiff, reduceIte, Nat.reduceAdd, Nat.reduceLeDiff, Nat.reduceLT, Nat.reduceSub, h1, decide_false, Bool.false_and]

theorem innerSame_spec (a b : Inner) (ha : a.Ok) (hb : b.Ok) : Fun seat 143 [innerA a, innerA b] (.bool (decide (a = b))) := by
  refine Fun.of0 told143 (by simp [il143]) (by simp [idb_innerA]) (by simp ) 0 ?_
  simp only [il143, List.zipIdx_cons, List.zipIdx_nil, Nat.zero_add, innerA, Inner.cells]
  have e : decide (a = b) = (decide (a.enc = b.enc) && decide (a.hash = b.hash) && decide (a.unmerged = b.unmerged)) := by
    cases a; cases b
    simp only [Inner.mk.injEq]
    rw [Bool.eq_iff_iff]
    simp only [decide_eq_true_eq, Bool.and_eq_true, and_assoc]
  rw [e]
  simp only [go_sem, Nat.reduceEqDiff, reduceIte, Nat.reduceAdd, Nat.reduceLeDiff, Nat.reduceLT, Nat.reduceSub]
  refine Callee.f told156 (bytesEq_spec a.enc b.enc ha.enc hb.enc) ?_
  by_cases h2 : a.enc = b.enc
  · by_cases h3 : a.hash = b.hash
    · simp only [go_sem, Nat.reduceEqDiff, reduceIte, Nat.reduceAdd, Nat.reduceLeDiff, Nat.reduceLT, Nat.reduceSub, h2, decide_true]
      refine Callee.f told156 (bytesEq_spec a.hash b.hash ha.hash hb.hash) ?_
      simp only [go_sem, Nat.reduceEqDiff, reduceIte, Nat.reduceAdd, Nat.reduceLeDiff, Nat.reduceLT, Nat.reduceSub, h3, decide_true]
      refine Callee.f told157 (eqInts_spec a.unmerged b.unmerged) ?_
      simp only [go_sem, Nat.reduceEqDiff, reduceIte, Nat.reduceAdd, Nat.reduceLeDiff, Nat.reduceLT, Nat.reduceSub, Bool.true_and]
    · simp only [go_sem, Nat.reduceEqDiff, reduceIte, Nat.reduceAdd, Nat.reduceLeDiff, Nat.reduceLT, Nat.reduceSub, h2, decide_true]
      refine Callee.f told156 (bytesEq_spec a.hash b.hash ha.hash hb.hash) ?_
      simp only [go_sem, Nat.reduceEqDiff, reduceIte, Nat.reduceAdd, Nat.reduceLeDiff, Nat.reduceLT, Nat.reduceSub, h3, decide_false, Bool.and_false, Bool.false_and]
  · simp only [go_sem, Nat.reduceEqDiff, reduceIte, Nat.reduceAdd, Nat.reduceLeDiff, Nat.reduceLT, Nat.reduceSub, h2, decide_false, Bool.false_and]

end Go.Proofs.YtihhinbjhiankaaGreatDoor.Al
