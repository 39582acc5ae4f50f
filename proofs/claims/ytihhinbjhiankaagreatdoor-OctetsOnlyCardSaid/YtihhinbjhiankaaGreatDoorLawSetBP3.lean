/-
  JOINED: D, E1, P, P5, D6, D7
-/
import Derived.Test.YtihhinbjhiankaaGreatDoorLawSetBP2
import Derived.Shelf.Sort.Plain
import Derived.Shelf.Slices.In.SortNone
import Derived.Shelf.Slices.CompactI
import Derived.ProofKit
import Derived.OpenShut
import Derived.ShutString
import Derived.ChangeOld
import Derived.Below
import Derived.Carry
import Derived.SizedLaws
import Derived.Lib.SlicesCompact
set_option linter.unusedSimpArgs false
set_option linter.unusedVariables false
/- CLOSED CALLS: a call whose arguments name nothing that the caller made may be looked at in an empty heap. -/
namespace Go.Proofs.YtihhinbjhiankaaGreatDoor.Al
open Go
variable {S : Seat} {m m0 : List ME} {I I0 X X0 : Nat → Prop} {w w0 : World} {H : List Entry}

/-- All that the caller made is hidden. -/
theorem hide_sound (hs : Sim S m I X w H) : Sim S [] I (fun b => X b ∨ Lives m H b) w [] := by
  refine ⟨rfl, fun id e he => by simp at he, fun id e g he => by simp at he, fun id id' e e' g g' he => by simp at he, fun b hb => ?_, fun b hi hx => ?_, hs.gl⟩
  · rcases hb with hb | hb | ⟨id, e, g, he, hl, hg, hn, rfl⟩
    · exact hs.lt b (.inl hb)
    · exact hs.lt b (.inr hb)
    · exact hs.blk_lt he hl hg hn
  · rcases hx with hx | ⟨id, e, g, he, hl, hg, hn, rfl⟩
    · exact hs.disj b hi hx
    · exact (hs.sep id e g he hl hg hn).1 hi

/-- What the caller made is as it was. -/
theorem unhide_sound {I' : Nat → Prop} {w' : World} {m' : List ME} {H' : List Entry} (hs : Sim S m I X w H) (hs' : Sim S m' I' (fun b => X b ∨ Lives m H b) w' H') (hI : ∀ b, I b → I' b) (hx : Ext I (fun b => X b ∨ Lives m H b) w w') : Sim S m I' X w' H := by
  refine ⟨hs.len, fun id e he => ?_, fun id e g he hl hg hn => ?_, hs.inj, fun b hb => ?_, fun b hi hb => hs'.disj b hi (.inl hb), hs'.gl⟩
  · exact (hs.hok id e he).keep (.refl m) hI (fun b hb => hx.keep b (.inl hb)) rfl (fun g hg hn hl => hx.keep _ (.inr (.inr ⟨id, e, g, he, hl, hg, hn, rfl⟩)))
  · exact ⟨fun hi => hs'.disj _ hi (.inr ⟨id, e, g, he, hl, hg, hn, rfl⟩), (hs.sep id e g he hl hg hn).2⟩
  · rcases hb with hb | hb
    · exact hs'.lt b (.inl hb)
    · exact hs'.lt b (.inr (.inl hb))

theorem Rels.closed {args : List AV} {vs : Array Value} (hv : Rels S m I w args vs) (ha : ∀ x ∈ args, Idb 0 x) : Rels S [] I w args vs :=
  ⟨hv.1, fun i x hx => by have := (hv.2 i x hx).take (ha x (List.mem_of_getElem? hx)); rwa [List.take_zero] at this⟩

theorem MLe.nil (m : List ME) : MLe [] m := fun id e he => by simp at he

theorem Fun.zero {c : Nat} {args : List AV} {r : AV} (ha : ∀ x ∈ args, Idb 0 x) (hr : Idb 0 r) (h : ACall S c args [] fun r' _ => r' = r) : Fun S c args r := by
  intro H m I X w vs hs hv
  refine (h [] I _ w vs (hide_sound hs) (hv.closed ha)).mono ?_
  rintro e w' ⟨r', H', vv, m', I', h1, rfl, h3, h4, h5, h6, h7⟩
  refine ⟨_, _, vv, m, I', h1, ⟨rfl, rfl⟩, ?_, unhide_sound hs h4 h6 h7, .refl m, h6, ⟨h7.os, h7.tape, h7.output, h7.size, fun b hb => h7.keep b (hb.imp id .inl)⟩⟩
  have := h3.take hr
  rw [List.take_zero] at this
  exact this.mono (MLe.nil m) (fun _ hb => hb) (fun _ _ => rfl)

/-- A function that hands over a row of its own, looked at in an empty heap. -/
theorem FunOwn.zero {c : Nat} {args : List AV} {sz : Nat} {xs : List AV} (ha : ∀ x ∈ args, Idb 0 x) (hx : ∀ x ∈ xs, ∀ y ∈ x.cells, Idb 0 y) (h : ACall S c args [] fun r H' => r = .own 0 0 0 xs.length ∧ H' = [.arr sz 0 xs]) : FunOwn S c args sz xs := by
  intro H m I X w vs hs hv
  refine (h [] I _ w vs (hide_sound hs) (hv.closed ha)).mono ?_
  rintro e w' ⟨r', H', vv, m', I', h1, ⟨rfl, rfl⟩, h3, h4, h5, h6, h7⟩
  have hun := unhide_sound hs h4 h6 h7
  obtain ⟨g, hg, r1, r0, r2, r3, r4, r5⟩ := h4.hok 0 (.arr sz 0 xs) rfl
  have hsep := h4.sep 0 (.arr sz 0 xs) g rfl rfl hg
  have hmg : (m ++ [g])[H.length]? = some g := by rw [← hs.len, List.getElem?_append_right (Nat.le_refl _), Nat.sub_self]; rfl
  refine ⟨_, _, vv, m ++ [g], I', h1, ⟨rfl, rfl⟩, ?_, hun.add ?_ ?_, MLe.push m g, h6, ⟨h7.os, h7.tape, h7.output, h7.size, fun b hb => h7.keep b (hb.imp id .inl)⟩⟩
  · cases h3 with
    | own _ _ _ _ e2 _ he2 hver hrel =>
      rw [hg] at he2; cases he2
      exact .own _ _ _ _ g _ hmg hver hrel
  · refine ⟨g, hmg, r1, r0, r2, r3, r4, ?_⟩
    rcases r5 with r5 | ⟨r5, arr, T, ha, hsz, hc⟩
    · exact .inl r5
    · refine .inr ⟨r5, arr, T, ha, hsz, fun i x hi j y hy => ?_⟩
      have := (hc i x hi j y hy).take (hx x (List.mem_of_getElem? hi) y (List.mem_of_getElem? hy))
      rw [List.take_zero] at this
      exact this.mono (MLe.nil _) (fun _ hb => hb) (fun _ _ => rfl)
  · intro hn
    obtain ⟨n1, n2⟩ := hsep hn
    exact ⟨n1, fun hx => n2 (.inl hx), fun hl => n2 (.inr hl)⟩

theorem fresh_zero : fresh 0 = all := by funext i; simp [fresh, all]

/-- No list within is longer than memory: k deep. -/
def bd : Nat → AV → Prop
  | 0, _ => True
  | k + 1, v => match v with
    | .list _ xs => xs.length ≤ 9223372036854775807 ∧ ∀ x ∈ xs, bd k x
    | .agg cs => ∀ x ∈ cs, bd k x
    | _ => True

theorem bd_cells {k : Nat} {x : AV} (h : ∀ y ∈ x.cells, bd (k + 1) y) : bd (k + 1) x := by
  cases x with
  | agg cs =>
    have key : ∀ (k : Nat) (y : AV), bd (k + 1) y → bd k y := by
      intro k
      induction k with
      | zero => intros; trivial
      | succ k ih =>
        intro y hy
        cases y with
        | list t xs => exact ⟨hy.1, fun x hx => ih x (hy.2 x hx)⟩
        | agg cs => exact fun x hx => ih x (hy x hx)
        | _ => trivial
    exact fun y hy => key k y (h y hy)
  | _ => exact h _ (by simp [AV.cells])

theorem Rel.bd {x : AV} {v : Value} (h : Rel S m I w x v) : ∀ k, bd k x := by
  induction h with
  | empty => intro k; cases k <;> simp [Al.bd]
  | list t xs b off n c sz rd hn hnc hcm ht hI hsz hc hr ih =>
    intro k
    cases k with
    | zero => trivial
    | succ k =>
      refine ⟨by omega, fun x hx => ?_⟩
      cases k with
      | zero => trivial
      | succ k =>
        refine bd_cells fun y hy => ?_
        obtain ⟨i, hi⟩ := List.getElem?_of_mem hx
        obtain ⟨j, hj⟩ := List.getElem?_of_mem hy
        exact ih i x hi j y hj (k + 1)
  | agg cs vs hs h ih =>
    intro k
    cases k with
    | zero => trivial
    | succ k =>
      intro x hx
      obtain ⟨i, hi⟩ := List.getElem?_of_mem hx
      exact ih i x hi k
  | _ => intro k; cases k <;> trivial

theorem ACall.bd {c : Nat} {args : List AV} {R : AV → List Entry → Prop} (h : (∀ x ∈ args, ∀ k, Al.bd k x) → ACall S c args H R) : ACall S c args H R := by
  intro m I X w vs hs hv
  refine h (fun x hx k => ?_) m I X w vs hs hv
  obtain ⟨i, hi⟩ := List.getElem?_of_mem hx
  exact (hv.2 i _ hi).bd k

theorem Fun.bd {c : Nat} {args : List AV} {r : AV} (h : (∀ x ∈ args, ∀ k, Al.bd k x) → Fun S c args r) : Fun S c args r := fun H => ACall.bd fun hb => h hb H
/-- A function of closed values, out of its body. -/
theorem Fun.of0 {c : Nat} {f : IFn} (ht : trFn S c = some f) {args : List AV} {r : AV} (hn : args.length ≤ f.N) (ha : ∀ x ∈ args, Idb 0 x) (hr : Idb 0 r) (k : Nat)
    (h : wpc S [] none f.N 0 f.body (leaves f.res fun r' H' => canon H' k r' = r) ⟨envL (args.zipIdx.map fun p => (p.2, p.1)), []⟩) : Fun S c args r := by
  refine Fun.zero ha hr (ACall.out k (R := fun r' H' => canon H' k r' = r) (ACall.of_wp ht hn (wpc_sound ?_)) ?_)
  · rw [start_env]; exact h
  · intro r' H' h1
    simp only [List.length_nil, fresh_zero]
    have h2 : derefN (freezeP all H') k r' = r := h1
    exact ⟨by simp, by rw [h2]; exact hr, h2⟩

theorem Fun.of0R (T : List (Reg S)) {c : Nat} {f : IFn} (ht : trFn S c = some f) {args : List AV} {r : AV} (hn : args.length ≤ f.N) (ha : ∀ x ∈ args, Idb 0 x) (hr : Idb 0 r) (k : Nat)
    (h : wpc S T none f.N 0 f.body (leaves f.res fun r' H' => canon H' k r' = r) ⟨envL (args.zipIdx.map fun p => (p.2, p.1)), []⟩) : Fun S c args r := by
  refine Fun.zero ha hr (ACall.out k (R := fun r' H' => canon H' k r' = r) (ACall.of_wp ht hn (wpc_soundR T ?_)) ?_)
  · rw [start_env]; exact h
  · intro r' H' h1
    simp only [List.length_nil, fresh_zero]
    have h2 : derefN (freezeP all H') k r' = r := h1
    exact ⟨by simp, by rw [h2]; exact hr, h2⟩

theorem FunOwn.of0 {c : Nat} {f : IFn} (ht : trFn S c = some f) {args : List AV} {sz : Nat} {xs : List AV} (hn : args.length ≤ f.N) (ha : ∀ x ∈ args, Idb 0 x) (hx : ∀ x ∈ xs, ∀ y ∈ x.cells, Idb 0 y)
    (h : wpc S [] none f.N 0 f.body (leaves f.res fun r H' => ∃ id ver, r = .own id ver 0 xs.length ∧ H'[id]? = some (.arr sz ver xs)) ⟨envL (args.zipIdx.map fun p => (p.2, p.1)), []⟩) : FunOwn S c args sz xs := by
  refine FunOwn.zero ha hx (ACall.outOwn 0 (R := fun r H' => ∃ id ver, r = .own id ver 0 xs.length ∧ H'[id]? = some (.arr sz ver xs)) (ACall.of_wp ht hn (wpc_sound ?_)) ?_)
  · rw [start_env]; exact h
  · rintro r H' ⟨id, ver, rfl, h2⟩
    have hm : ∀ G : List Entry, xs.map (derefN G 0) = xs := fun G => by
      have : derefN G 0 = fun x => x := by funext x; rfl
      rw [this]; simp
    exact ⟨by simp, id, ver, sz, xs, by simp, Nat.zero_le _, h2, fun x hx' y hy => hx x hx' y hy, by simp, by rw [hm]; rfl⟩

theorem FunOwn.of0R (T : List (Reg S)) {c : Nat} {f : IFn} (ht : trFn S c = some f) {args : List AV} {sz : Nat} {xs : List AV} (hn : args.length ≤ f.N) (ha : ∀ x ∈ args, Idb 0 x) (hx : ∀ x ∈ xs, ∀ y ∈ x.cells, Idb 0 y)
    (h : wpc S T none f.N 0 f.body (leaves f.res fun r H' => ∃ id ver, r = .own id ver 0 xs.length ∧ H'[id]? = some (.arr sz ver xs)) ⟨envL (args.zipIdx.map fun p => (p.2, p.1)), []⟩) : FunOwn S c args sz xs := by
  refine FunOwn.zero ha hx (ACall.outOwn 0 (R := fun r H' => ∃ id ver, r = .own id ver 0 xs.length ∧ H'[id]? = some (.arr sz ver xs)) (ACall.of_wp ht hn (wpc_soundR T ?_)) ?_)
  · rw [start_env]; exact h
  · rintro r H' ⟨id, ver, rfl, h2⟩
    have hm : ∀ G : List Entry, xs.map (derefN G 0) = xs := fun G => by
      have : derefN G 0 = fun x => x := by funext x; rfl
      rw [this]; simp
    exact ⟨by simp, id, ver, sz, xs, by simp, Nat.zero_le _, h2, fun x hx' y hy => hx x hx' y hy, by simp, by rw [hm]; rfl⟩

/-! ### Calls within a body -/
theorem Callee.f {c : Nat} {f : IFn} {args : List AV} {r : AV} {K : AV → List Entry → Prop} (ht : trFn S c = some f) (h : Fun S c args r) (k : K r H) : Callee S (.func (.f c) [] []) args H K :=
  Callee.plain (Callable.of ht) (h H) (by rintro _ _ ⟨rfl, rfl⟩; exact k)
theorem Callee.own {c : Nat} {f : IFn} {args : List AV} {sz : Nat} {xs : List AV} {K : AV → List Entry → Prop} (ht : trFn S c = some f) (h : FunOwn S c args sz xs) (k : K (.own H.length 0 0 xs.length) (H ++ [.arr sz 0 xs])) : Callee S (.func (.f c) [] []) args H K :=
  Callee.plain (Callable.of ht) (h H) (by rintro _ _ ⟨rfl, rfl⟩; exact k)
/-- A call to which the caller's own rows are shown. -/
theorem Callee.lend {c : Nat} {f : IFn} {args : List AV} {r : AV} {K : AV → List Entry → Prop} (n : Nat) (ht : trFn S c = some f) (h : Fun S c (args.map (canon H n)) r) (hp : Plain r) (k : K r H) : Callee S (.func (.f c) [] []) args H K :=
  Callee.plain (Callable.of ht) (ACall.lend n h hp) (by rintro _ _ ⟨rfl, rfl⟩; exact k)
/-- A closure. -/
theorem Callee.c {c : Nat} {f : IFn} {first captured args : List AV} {r : AV} {K : AV → List Entry → Prop} (ht : trFn S c = some f) (h : Fun S c (first ++ args ++ captured) r) (k : K r H) : Callee S (.func (.f c) first captured) args H K :=
  Callee.fn (Callable.of ht) (h H) (by rintro _ _ ⟨rfl, rfl⟩; exact k)

/-! ### A box that is written no more -/
theorem Sim.sealB (hs : Sim S m I X w H) {id : Nat} {cs : List AV} {e : ME} (hH : H[id]? = some (.box cs)) (h1 : m[id]? = some e) :
    Sim S m (fun b => I b ∨ b = e.blk) X w (H.set id .dead) ∧ ∃ rd : Nat → Value, (∀ j y, cs[j]? = some y → w.cell? ⟨e.blk, 0 + j, none⟩ = some (rd j)) ∧ ∀ j y, cs[j]? = some y → Rel S m (fun b => I b ∨ b = e.blk) w y (rd j) := by
  obtain ⟨e', arr, T, h1', h2, h3, h4, h5⟩ := hs.hok id _ hH
  rw [h1] at h1'; cases h1'
  have hlt := heap_lt h4
  have hsep := hs.sep id _ e hH rfl h1 h3
  have hget : ∀ {j : Nat} {x : Entry}, (H.set id .dead)[j]? = some x → x.live = true → j ≠ id ∧ H[j]? = some x := by
    intro j x hj hl
    by_cases h : j = id
    · subst h
      rw [List.getElem?_set_self (lt_of_get hH)] at hj
      cases hj; cases hl
    · rw [List.getElem?_set_ne (Ne.symm h)] at hj; exact ⟨h, hj⟩
  refine ⟨⟨by simp [hs.len], fun j x hj => ?_, fun j x g hj hl hg hn => ?_, fun j j' x x' g g' hj hl hj' hl' hg hg' hn hn' hb => ?_, fun b hb => ?_, fun b hi hx => ?_, hs.gl.mono (fun _ hb => .inl hb) fun _ _ => rfl⟩, fun j => arr.getD j undef, fun j y hy => ?_, fun j y hy => ?_⟩
  · by_cases h : j = id
    · subst h
      rw [List.getElem?_set_self (lt_of_get hH)] at hj
      cases hj; trivial
    · rw [List.getElem?_set_ne (Ne.symm h)] at hj
      exact (hs.hok j x hj).keep (.refl m) (fun _ hb => .inl hb) (fun _ _ => rfl) rfl (fun _ _ _ _ => rfl)
  · obtain ⟨hne, hj'⟩ := hget hj hl
    refine ⟨?_, (hs.sep j x g hj' hl hg hn).2⟩
    rintro (hi | hb)
    · exact (hs.sep j x g hj' hl hg hn).1 hi
    · exact hne (hs.inj j id x _ g e hj' hl hH rfl hg h1 hn h3 hb)
  · exact hs.inj j j' x x' g g' (hget hj hl).2 hl (hget hj' hl').2 hl' hg hg' hn hn' hb
  · rcases hb with (hb | rfl) | hb
    · exact hs.lt b (.inl hb)
    · exact hlt
    · exact hs.lt b (.inr hb)
  · rcases hi with hi | rfl
    · exact hs.disj b hi hx
    · exact hsep.2 hx
  · have hj : j < arr.size := by rw [h5.1]; exact lt_of_get hy
    simp [World.cell?, h4, hj]
  · exact (h5.2 j y hy).mono (.refl m) (fun _ hb => .inl hb) (fun _ _ => rfl)

/-- A box that is written no more is told by what it holds. -/
theorem WP.sealB {r : Option Nat} {N b : Nat} {ic : IC} {Q : Exit → St → Prop} {env : Env} (d id : Nat) {cs : List AV} (hd : env d = .ptr id 0) (hH : H[id]? = some (.box cs))
    (h : WP S r N b ic Q ⟨upd env d (.iptr cs 0), H.set id .dead⟩) : WP S r N b ic Q ⟨env, H⟩ := by
  refine WP.ghost ?_ h
  intro m I X w n0 a hs hfr
  have hrel : Rel S m I w (env d) (a.tmps.getD d undef) := hfr.env d
  rw [hd] at hrel
  generalize hv : a.tmps.getD d undef = v at hrel
  cases hrel with
  | ptr _ _ e _ he h0 =>
    obtain ⟨e', arr, T, h1, h2, h3, h4, h5⟩ := hs.hok id _ hH
    rw [he] at h1; cases h1
    obtain ⟨hs', rd, hc, hr⟩ := hs.sealB hH he
    have := h0 h2
    subst this
    refine ⟨m, _, .refl m, fun _ hb => .inl hb, hs', (hfr.mono (.refl m) (fun _ hb => .inl hb) (.refl I X w)).upd_rel ?_⟩
    rw [hv]
    have := Rel.iptr (S := S) (m := m) (I := fun b => I b ∨ b = e.blk) (w := w) cs 0 e.blk 0 rd (.inr rfl) hc hr
    exact this

end Go.Proofs.YtihhinbjhiankaaGreatDoor.Al

/- ROWS OF ONE KIND: elements that are told by Lean values; what the operations answer of such rows. -/
namespace Go.Proofs.YtihhinbjhiankaaGreatDoor.Al
open Go

structure Enc (α : Type) where
  f : α → AV
  sz : Nat
  pos : 0 < sz
  cells : ∀ a, (f a).cells.length = sz
  one : ∀ a H, (f a).cells.all (AV.oneIn H) = true
  idb : ∀ a, ∀ y ∈ (f a).cells, Idb 0 y
  norm : ∀ H k a, derefN H k (f a) = f a

variable {α : Type} (E : Enc α)

def Enc.row (l : List α) : AV := .list false (l.map E.f)

theorem Enc.idbE (a : α) : Idb 0 (E.f a) := by
  have h := E.idb a
  generalize E.f a = x at h
  cases x with
  | agg cs => exact .agg cs h
  | _ => exact h _ (by simp [AV.cells])

theorem Enc.idb_row (n : Nat) (l : List α) : Idb n (E.row l) := by
  refine .list _ _ fun x hx y hy => ?_
  obtain ⟨z, _, rfl⟩ := List.mem_map.1 hx
  exact (E.idb z y hy).more (Nat.zero_le _)
theorem Enc.entB (n ver sz : Nat) (l : List α) : EntB n (.arr sz ver (l.map E.f)) := by
  intro x hx y hy
  obtain ⟨z, _, rfl⟩ := List.mem_map.1 hx
  exact (E.idb z y hy).more (Nat.zero_le _)
theorem Enc.xs_idb (l : List α) : ∀ x ∈ l.map E.f, ∀ y ∈ x.cells, Idb 0 y := by
  intro x hx y hy
  obtain ⟨z, _, rfl⟩ := List.mem_map.1 hx
  exact E.idb z y hy
theorem Enc.szOk (H : List Entry) (l : List α) : szOk H E.sz (l.map E.f) = true := by
  simp only [Al.szOk, List.all_map, List.all_eq_true, Function.comp, Bool.and_eq_true, beq_iff_eq]
  intro x _
  exact ⟨E.cells x, by have := E.one x H; rw [List.all_eq_true] at this; exact this⟩
theorem Enc.szOk1 (H : List Entry) (x : α) : Al.szOk H E.sz [E.f x] = true := E.szOk H [x]
theorem Enc.lenOk (l : List α) : lenOk E.sz (l.map E.f) = true := by
  simp only [Al.lenOk, List.all_map, List.all_eq_true, Function.comp, beq_iff_eq]
  intro x _; exact E.cells x
theorem Enc.rowLen (H : List Entry) (l : List α) : rowLen H (E.row l) = some l.length := by simp [Enc.row, Al.rowLen]
theorem Enc.index (H : List Entry) (l : List α) (k : Nat) (h : k < l.length) : evIndex H E.sz (E.row l) (.int .i64 (k : Int)) = some (.iptr (E.f l[k]).cells 0) := by
  simp [Enc.row, evIndex, h, E.cells]
theorem Enc.sliceF (H : List Entry) (l : List α) (a : Int) (h0 : 0 ≤ a) (h : a.toNat ≤ l.length) : evSlice H E.sz (E.row l) (some (.int .i64 a)) none none = some (E.row (l.drop a.toNat)) := by
  simp [Enc.row, evSlice, evBound, h0, h, E.lenOk, List.map_drop, List.take_of_length_le]
theorem Enc.sliceT (H : List Entry) (l : List α) (b : Int) (h0 : 0 ≤ b) (h : b.toNat ≤ l.length) : evSlice H E.sz (E.row l) none (some (.int .i64 b)) none = some (E.row (l.take b.toNat)) := by
  simp [Enc.row, evSlice, evBound, h0, h, E.lenOk, List.map_take]
theorem Enc.sliceFT (H : List Entry) (l : List α) (a b : Int) (h0 : 0 ≤ a) (h1 : a ≤ b) (h : b.toNat ≤ l.length) : evSlice H E.sz (E.row l) (some (.int .i64 a)) (some (.int .i64 b)) none = some (E.row ((l.take b.toNat).drop a.toNat)) := by
  have hb : 0 ≤ b := by omega
  have hab : a.toNat ≤ b.toNat := by omega
  simp [Enc.row, evSlice, evBound, h0, h, hb, hab, E.lenOk, List.map_take, List.map_drop]
theorem Enc.sliceTT (H : List Entry) (l : List α) (b : Int) (h0 : 0 ≤ b) (h : b.toNat ≤ l.length) : evSlice H E.sz (E.row l) none (some (.int .i64 b)) (some (.int .i64 b)) = some (.list true ((l.take b.toNat).map E.f)) := by
  simp [Enc.row, evSlice, evBound, h0, h, E.lenOk, List.map_take]
theorem Enc.norm_row (H : List Entry) (k : Nat) (l : List α) : derefN H k (E.row l) = E.row l := by
  cases k with
  | zero => rfl
  | succ k =>
    simp only [Enc.row, derefN, List.map_map]
    congr 1
    apply List.map_congr_left
    intro a _
    exact E.norm H k a
theorem Enc.norm_tight (H : List Entry) (k : Nat) (t : Bool) (l : List α) : derefN H (k + 1) (.list t (l.map E.f)) = E.row l := by
  simp only [Enc.row, derefN, List.map_map]
  congr 1
  apply List.map_congr_left
  intro a _
  exact E.norm H k a
theorem Enc.canon_row (H : List Entry) (k : Nat) (l : List α) : canon H k (E.row l) = E.row l := E.norm_row _ k l
theorem Enc.canon_tight (H : List Entry) (k : Nat) (t : Bool) (l : List α) : canon H (k + 1) (.list t (l.map E.f)) = E.row l := E.norm_tight _ k t l
/-- An owned row. -/
theorem Enc.canon_own {H : List Entry} {id sz ver lo hi : Nat} {l : List α} (h : H[id]? = some (.arr sz ver (l.map E.f))) (hhi : hi ≤ l.length) (k : Nat) : canon H (k + 1) (.own id ver lo hi) = E.row ((l.take hi).drop lo) := by
  simp only [canon, derefN, freezeP_get, h, Option.map_some, all, if_true, Entry.frzE]
  rw [if_pos ⟨trivial, by simpa using hhi⟩, ← List.map_take, ← List.map_drop, List.map_map, Enc.row]
  congr 1
  apply List.map_congr_left
  intro a _
  exact E.norm _ k a
theorem Enc.canon_own_all {H : List Entry} {id sz ver : Nat} {l : List α} (h : H[id]? = some (.arr sz ver (l.map E.f))) (k : Nat) : canon H (k + 1) (.own id ver 0 l.length) = E.row l := by
  rw [E.canon_own h (Nat.le_refl _)]; simp
theorem Enc.rowLen_own {H : List Entry} {id sz ver lo hi : Nat} {l : List α} (h : H[id]? = some (.arr sz ver (l.map E.f))) : Al.rowLen H (.own id ver lo hi) = some (hi - lo) := by
  simp [Al.rowLen, AV.oneIn, h]
theorem Enc.index_own {H : List Entry} {id ver k : Nat} {l : List α} (h : H[id]? = some (.arr E.sz ver (l.map E.f))) (hk : k < l.length) : evIndex H E.sz (.own id ver 0 l.length) (.int .i64 (k : Int)) = some (.eptr id ver k 0) := by
  simp [evIndex, h, hk]
theorem Enc.app_own {H : List Entry} {id ver bytes : Nat} {l : List α} {x : α} (h : H[id]? = some (.arr E.sz ver (l.map E.f))) (hl : l.length + 1 ≤ maxRow) (hb : bytes ≤ 4096) :
    evAppend H E.sz bytes (.own id ver 0 l.length) [E.f x] = some (.own id (ver + 1) 0 (l ++ [x]).length, H.set id (.arr E.sz (ver + 1) ((l ++ [x]).map E.f))) := by
  rw [Al.app_own h (by simp) (by simpa using hl) hb E.pos (by simp) (E.szOk1 H x), List.take_of_length_le (by simp)]
  simp
theorem Enc.app_owns {H : List Entry} {id ver bytes : Nat} {l ys : List α} (h : H[id]? = some (.arr E.sz ver (l.map E.f))) (hl : l.length + ys.length ≤ maxRow) (hb : bytes ≤ 4096) (hy : ys ≠ []) :
    evAppend H E.sz bytes (.own id ver 0 l.length) (ys.map E.f) = some (.own id (ver + 1) 0 (l ++ ys).length, H.set id (.arr E.sz (ver + 1) ((l ++ ys).map E.f))) := by
  rw [Al.app_own h (by simp) (by simpa using hl) hb E.pos (by simpa using hy) (E.szOk H ys)]
  rw [List.take_of_length_le (by simp)]
  simp
/-- Whatever is appended: some version of the row. -/
theorem Enc.app_any {H : List Entry} {id ver bytes : Nat} {l ys : List α} (h : H[id]? = some (.arr E.sz ver (l.map E.f))) (hl : l.length + ys.length ≤ maxRow) (hb : bytes ≤ 4096) :
    ∃ v, evAppend H E.sz bytes (.own id ver 0 l.length) (ys.map E.f) = some (.own id v 0 (l ++ ys).length, H.set id (.arr E.sz v ((l ++ ys).map E.f))) := by
  by_cases hy : ys = []
  · subst hy
    refine ⟨ver, ?_⟩
    have hs : H.set id (.arr E.sz ver (l.map E.f)) = H := by
      apply List.ext_getElem?
      intro i
      by_cases hi : i = id
      · subst hi; rw [List.getElem?_set_self (lt_of_get h), h]
      · rw [List.getElem?_set_ne (Ne.symm hi)]
    simp [evAppend, AV.oneIn, h, hs]
  · exact ⟨_, E.app_owns h hl hb hy⟩
theorem Enc.bd_len {l : List α} {t : Bool} {args : List AV} (hb : ∀ x ∈ args, ∀ k, bd k x) (h : AV.list t (l.map E.f) ∈ args) : l.length ≤ 9223372036854775807 := by
  have := (hb _ h 1).1
  simpa using this

/-! ### Loops, states told by slots and a heap -/
theorem WP.loopG {S : Seat} {r : Option Nat} {N b : Nat} {x : IC} {Q : Exit → St → Prop} {st : St} {α : Type} (P : α → Prop) (L : α → List (Nat × AV)) (G : α → List Entry) (μ : α → Nat) (a : α) (ha : P a)
    (hc : ∀ a, P a → b ≤ (G a).length ∧ (∀ p ∈ L a, Idb (G a).length p.2) ∧ ∀ e ∈ G a, EntB (G a).length e)
    (hst : (∀ p ∈ L a, st.env p.1 = p.2) ∧ st.H.take (G a).length = G a)
    (h : ∀ a, P a → WP S r N b x (thenQ (fun st' => ∃ a', P a' ∧ μ a' < μ a ∧ (∀ p ∈ L a', st'.env p.1 = p.2) ∧ st'.H.take (G a').length = G a') Q) ⟨envL (L a), G a⟩) : WP S r N b (.loop x) Q st := by
  have wf : ∀ a, P a → Wf (G a) := fun a ha id e he => (hc a ha).2.2 e (List.mem_of_getElem? he)
  refine WP.loopF P (fun a => ⟨envL (L a), G a⟩) μ a ha (Fits.of hst.1 (hc a ha).2.1 hst.2 (wf a ha)) (fun a ha => (hc a ha).1) fun a ha => (h a ha).mono fun e st' hq => ?_
  cases e with
  | normal =>
    obtain ⟨a', h1, h2, h3, h4⟩ := hq
    exact ⟨a', h1, h2, Fits.of h3 (hc a' h1).2.1 h4 (wf a' h1)⟩
  | _ => exact hq

/-- A loop in an empty heap. -/
theorem WP.loop0 {S : Seat} {r : Option Nat} {N : Nat} {x : IC} {Q : Exit → St → Prop} {st : St} {α : Type} (P : α → Prop) (L : α → List (Nat × AV)) (μ : α → Nat) (a : α) (ha : P a)
    (hc : ∀ a, P a → ∀ p ∈ L a, Idb 0 p.2) (hst : ∀ p ∈ L a, st.env p.1 = p.2)
    (h : ∀ a, P a → WP S r N 0 x (thenQ (fun st' => ∃ a', P a' ∧ μ a' < μ a ∧ ∀ p ∈ L a', st'.env p.1 = p.2) Q) ⟨envL (L a), []⟩) : WP S r N 0 (.loop x) Q st := by
  refine WP.loopG P L (fun _ => []) μ a ha (fun a ha => ⟨Nat.le_refl _, hc a ha, by simp⟩) ⟨hst, by simp⟩ fun a ha => (h a ha).mono fun e st' hq => ?_
  cases e with
  | normal =>
    obtain ⟨a', h1, h2, h3⟩ := hq
    exact ⟨a', h1, h2, h3, by simp⟩
  | _ => exact hq

end Go.Proofs.YtihhinbjhiankaaGreatDoor.Al

/- ROWS OF NUMBERS, OCTETS, NODES: the rules by their names. Printed by wip/tools/enc.py. -/
namespace Go.Proofs.YtihhinbjhiankaaGreatDoor.Al
open Go

def octs (l : List Int) : AV := .list false (l.map (AV.int .u8))
def intss (l : List (List Int)) : AV := .list false (l.map ints)
def octss (l : List (List Int)) : AV := .list false (l.map octs)

structure Leaf where
  enc : List Int
  cred : List Int
  source : Int
  parent : List Int
deriving DecidableEq
structure Inner where
  enc : List Int
  hash : List Int
  unmerged : List Int
deriving DecidableEq
structure Node where
  kind : Int
  leaf : Leaf
  inner : Inner
deriving DecidableEq

def Leaf.cells (l : Leaf) : List AV := [octs l.enc, octs l.cred, .int .i64 l.source, octs l.parent]
def Inner.cells (n : Inner) : List AV := [octs n.enc, octs n.hash, ints n.unmerged]
def Node.cells (n : Node) : List AV := [.int .i64 n.kind, octs n.leaf.enc, octs n.leaf.cred, .int .i64 n.leaf.source, octs n.leaf.parent, octs n.inner.enc, octs n.inner.hash, ints n.inner.unmerged]
def leafA (l : Leaf) : AV := .agg l.cells
def innerA (l : Inner) : AV := .agg l.cells
def nodeA (l : Node) : AV := .agg l.cells
def nodes (l : List Node) : AV := .list false (l.map nodeA)

def encI64 : Enc Int where
  f := AV.int .i64
  sz := 1
  pos := by decide
  cells := fun _ => rfl
  one := fun _ _ => rfl
  idb := fun a y hy => by simp [AV.cells] at hy; subst hy; exact .int _ _
  norm := fun H k a => by cases k <;> rfl
def encU8 : Enc Int where
  f := AV.int .u8
  sz := 1
  pos := by decide
  cells := fun _ => rfl
  one := fun _ _ => rfl
  idb := fun a y hy => by simp [AV.cells] at hy; subst hy; exact .int _ _
  norm := fun H k a => by cases k <;> rfl
theorem idb_octs (n : Nat) (l : List Int) : Idb n (octs l) = True := eq_true (encU8.idb_row n l)
def encInts : Enc (List Int) where
  f := ints
  sz := 1
  pos := by decide
  cells := fun _ => rfl
  one := fun _ _ => rfl
  idb := fun a y hy => by simp [AV.cells, ints] at hy; subst hy; exact encI64.idb_row 0 a
  norm := fun H k a => encI64.norm_row H k a
def encOcts : Enc (List Int) where
  f := octs
  sz := 1
  pos := by decide
  cells := fun _ => rfl
  one := fun _ _ => rfl
  idb := fun a y hy => by simp [AV.cells, octs] at hy; subst hy; exact encU8.idb_row 0 a
  norm := fun H k a => encU8.norm_row H k a
theorem norm_ints (H : List Entry) (k : Nat) (l : List Int) : derefN H k (ints l) = ints l := encI64.norm_row H k l
theorem norm_octs (H : List Entry) (k : Nat) (l : List Int) : derefN H k (octs l) = octs l := encU8.norm_row H k l
theorem norm_int (H : List Entry) (k : Nat) (t : IntKind) (l : Int) : derefN H k (.int t l) = .int t l := by cases k <;> rfl
theorem norm_bool (H : List Entry) (k : Nat) (b : Bool) : derefN H k (.bool b) = .bool b := by cases k <;> rfl
def encNode : Enc Node where
  f := nodeA
  sz := 8
  pos := by decide
  cells := fun _ => rfl
  one := fun _ _ => rfl
  idb := fun a y hy => by
    simp only [nodeA, AV.cells, Node.cells, List.mem_cons, List.not_mem_nil, or_false] at hy
    rcases hy with rfl | rfl | rfl | rfl | rfl | rfl | rfl | rfl <;> first | exact .int _ _ | exact encU8.idb_row _ _ | exact encI64.idb_row _ _
  norm := fun H k a => by cases k <;> simp [nodeA, Node.cells, derefN, norm_ints, norm_octs, norm_int]
theorem idb_leafA (n : Nat) (l : Leaf) : Idb n (leafA l) = True := by
  refine eq_true (.agg _ fun x hx => ?_)
  simp only [Leaf.cells, List.mem_cons, List.not_mem_nil, or_false] at hx
  rcases hx with rfl | rfl | rfl | rfl <;> first | exact .int _ _ | exact encU8.idb_row _ _ | exact encI64.idb_row _ _
theorem idb_innerA (n : Nat) (l : Inner) : Idb n (innerA l) = True := by
  refine eq_true (.agg _ fun x hx => ?_)
  simp only [Inner.cells, List.mem_cons, List.not_mem_nil, or_false] at hx
  rcases hx with rfl | rfl | rfl <;> first | exact .int _ _ | exact encU8.idb_row _ _ | exact encI64.idb_row _ _
theorem idb_nodeA (n : Nat) (l : Node) : Idb n (nodeA l) = True := eq_true ((encNode.idbE l).more (Nat.zero_le _))
theorem idb_agg (n : Nat) (cs : List AV) : Idb n (.agg cs) = ∀ x ∈ cs, Idb n x := propext ⟨fun h => by cases h; assumption, fun h => .agg _ h⟩
theorem idb_tup (n : Nat) (cs : List AV) : Idb n (.tup cs) = ∀ x ∈ cs, Idb n x := propext ⟨fun h => by cases h; assumption, fun h => .tup _ h⟩
theorem idb_iptr (n : Nat) (cs : List AV) (o : Nat) : Idb n (.iptr cs o) = ∀ x ∈ cs, Idb n x := propext ⟨fun h => by cases h; assumption, fun h => .iptr _ _ h⟩
theorem idb_fn (n c : Nat) (a b : List AV) : Idb n (.func (.f c) a b) = ((∀ x ∈ a, Idb n x) ∧ ∀ x ∈ b, Idb n x) := propext ⟨fun h => by cases h; exact ⟨by assumption, by assumption⟩, fun h => .func _ _ _ h.1 h.2⟩
theorem entB_dead (n : Nat) : EntB n .dead = True := rfl
theorem entB_box (n : Nat) (cs : List AV) : EntB n (.box cs) = ∀ x ∈ cs, Idb n x := rfl
theorem load_iptrA (H : List Entry) (n : Node) : evLoad H true 8 (.iptr n.cells 0) = some (nodeA n) := rfl
theorem canon_ptrI (H : List Entry) (k : Nat) (t : IntKind) (i : Int) : canon H k (.int t i) = .int t i := norm_int _ k t i
theorem canon_bool (H : List Entry) (k : Nat) (i : Bool) : canon H k (.bool i) = .bool i := norm_bool _ k i
theorem canon_tup (H : List Entry) (k : Nat) (vs : List AV) : canon H (k + 1) (.tup vs) = .tup (vs.map (canon H k)) := rfl
theorem canon_agg (H : List Entry) (k : Nat) (vs : List AV) : canon H (k + 1) (.agg vs) = .agg (vs.map (canon H k)) := rfl
theorem canon_ints' (H : List Entry) (k : Nat) (l : List (Int)) : canon H k (ints l) = ints l := encI64.canon_row H k l
theorem canon_ints0 {G : List Entry} {ver : Nat} {l : List (Int)} {k : Nat} : canon (.arr 1 ver (l.map (AV.int .i64)) :: G) (k + 1) (.own 0 ver 0 l.length) = ints l := encI64.canon_own_all rfl k
theorem rowLen_ints1 {G : List Entry} {e0 : Entry} {ver : Nat} {l : List (Int)} {lo hi : Nat} : rowLen (e0 :: .arr 1 ver (l.map (AV.int .i64)) :: G) (.own 1 ver lo hi) = some (hi - lo) := encI64.rowLen_own rfl
theorem rowLen_octs (H : List Entry) (l : List (Int)) : rowLen H (octs l) = some l.length := encU8.rowLen H l
theorem index_octs (H : List Entry) (l : List (Int)) (k : Nat) (h : k < l.length) : evIndex H 1 (octs l) (.int .i64 (k : Int)) = some (.iptr [.int .u8 l[k]] 0) := encU8.index H l k h
theorem seen_octs (H : List Entry) (l : List (Int)) : seen H (octs l) = some (l.map (AV.int .u8)) := rfl
theorem sliceF_octs (H : List Entry) (l : List (Int)) (a : Int) (h0 : 0 ≤ a) (h : a.toNat ≤ l.length) : evSlice H 1 (octs l) (some (.int .i64 a)) none none = some (octs (l.drop a.toNat)) := encU8.sliceF H l a h0 h
theorem sliceT_octs (H : List Entry) (l : List (Int)) (b : Int) (h0 : 0 ≤ b) (h : b.toNat ≤ l.length) : evSlice H 1 (octs l) none (some (.int .i64 b)) none = some (octs (l.take b.toNat)) := encU8.sliceT H l b h0 h
theorem sliceFT_octs (H : List Entry) (l : List (Int)) (a b : Int) (h0 : 0 ≤ a) (h1 : a ≤ b) (h : b.toNat ≤ l.length) : evSlice H 1 (octs l) (some (.int .i64 a)) (some (.int .i64 b)) none = some (octs ((l.take b.toNat).drop a.toNat)) := encU8.sliceFT H l a b h0 h1 h
theorem sliceTT_octs (H : List Entry) (l : List (Int)) (b : Int) (h0 : 0 ≤ b) (h : b.toNat ≤ l.length) : evSlice H 1 (octs l) none (some (.int .i64 b)) (some (.int .i64 b)) = some (.list true ((l.take b.toNat).map (AV.int .u8))) := encU8.sliceTT H l b h0 h
theorem canon_octs' (H : List Entry) (k : Nat) (l : List (Int)) : canon H k (octs l) = octs l := encU8.canon_row H k l
theorem seen_intss (H : List Entry) (l : List (List Int)) : seen H (intss l) = some (l.map (ints)) := rfl
theorem seen_octss (H : List Entry) (l : List (List Int)) : seen H (octss l) = some (l.map (octs)) := rfl
theorem rowLen_nodes (H : List Entry) (l : List (Node)) : rowLen H (nodes l) = some l.length := encNode.rowLen H l
theorem seen_nodes (H : List Entry) (l : List (Node)) : seen H (nodes l) = some (l.map (nodeA)) := rfl
theorem idb_nodes (n : Nat) (l : List (Node)) : Idb n (nodes l) = True := eq_true (encNode.idb_row n l)
theorem sliceT_nodes (H : List Entry) (l : List (Node)) (b : Int) (h0 : 0 ≤ b) (h : b.toNat ≤ l.length) : evSlice H 8 (nodes l) none (some (.int .i64 b)) none = some (nodes (l.take b.toNat)) := encNode.sliceT H l b h0 h
theorem canon_nodes' (H : List Entry) (k : Nat) (l : List (Node)) : canon H k (nodes l) = nodes l := encNode.canon_row H k l
theorem rowLen_nodes3 {G : List Entry} {e0 e1 e2 : Entry} {ver : Nat} {l : List (Node)} {lo hi : Nat} : rowLen (e0 :: e1 :: e2 :: .arr 8 ver (l.map (nodeA)) :: G) (.own 3 ver lo hi) = some (hi - lo) := encNode.rowLen_own rfl
theorem index_nodes3 {G : List Entry} {e0 e1 e2 : Entry} {ver : Nat} {l : List (Node)} {k : Nat} (hk : k < l.length) : evIndex (e0 :: e1 :: e2 :: .arr 8 ver (l.map (nodeA)) :: G) 8 (.own 3 ver 0 l.length) (.int .i64 (k : Int)) = some (.eptr 3 ver k 0) := encNode.index_own rfl hk
theorem cells_int (k : IntKind) (i : Int) : AV.cells (.int k i) = [(.int k i)] := rfl
theorem oneIn_int (H : List Entry) (k : IntKind) (i : Int) : AV.oneIn H (.int k i) = true := rfl
theorem cells_bool (b : Bool) : AV.cells (.bool b) = [(.bool b)] := rfl
theorem oneIn_bool (H : List Entry) (b : Bool) : AV.oneIn H (.bool b) = true := rfl
theorem cells_str (s : List UInt8) : AV.cells (.str s) = [(.str s)] := rfl
theorem oneIn_str (H : List Entry) (s : List UInt8) : AV.oneIn H (.str s) = true := rfl
theorem cells_list (t : Bool) (xs : List AV) : AV.cells (.list t xs) = [(.list t xs)] := rfl
theorem oneIn_list (H : List Entry) (t : Bool) (xs : List AV) : AV.oneIn H (.list t xs) = true := rfl
theorem cells_func (f : AFn) (a b : List AV) : AV.cells (.func f a b) = [(.func f a b)] := rfl
theorem oneIn_func (H : List Entry) (f : AFn) (a b : List AV) : AV.oneIn H (.func f a b) = true := rfl
theorem cells_nilfunc  : AV.cells (.nilfunc) = [(.nilfunc)] := rfl
theorem oneIn_nilfunc (H : List Entry)  : AV.oneIn H (.nilfunc) = true := rfl
theorem cells_iptr (cs : List AV) (o : Nat) : AV.cells (.iptr cs o) = [(.iptr cs o)] := rfl
theorem oneIn_iptr (H : List Entry) (cs : List AV) (o : Nat) : AV.oneIn H (.iptr cs o) = true := rfl
theorem cells_iface (t : Nat) (v : AV) : AV.cells (.iface t v) = [(.iface t v)] := rfl
theorem oneIn_iface (H : List Entry) (t : Nat) (v : AV) : AV.oneIn H (.iface t v) = true := rfl
theorem cells_nilIface  : AV.cells (.nilIface) = [(.nilIface)] := rfl
theorem oneIn_nilIface (H : List Entry)  : AV.oneIn H (.nilIface) = true := rfl
theorem cells_own (i v a b : Nat) : AV.cells (.own i v a b) = [(.own i v a b)] := rfl
theorem cells_ptr (i o : Nat) : AV.cells (.ptr i o) = [(.ptr i o)] := rfl
theorem cells_anybool  : AV.cells (.anybool) = [(.anybool)] := rfl
theorem oneIn_anybool (H : List Entry)  : AV.oneIn H (.anybool) = true := rfl
theorem cells_agg (cs : List AV) : AV.cells (.agg cs) = cs := rfl
theorem oneIn_own0 {G : List Entry}  {sz ver a b : Nat} {xs : List AV} : AV.oneIn (.arr sz ver xs :: G) (.own 0 ver a b) = true := by simp [AV.oneIn]
theorem oneIn_own1 {G : List Entry} {e0 : Entry}  {sz ver a b : Nat} {xs : List AV} : AV.oneIn (e0 :: .arr sz ver xs :: G) (.own 1 ver a b) = true := by simp [AV.oneIn]
theorem seenL1 {G : List Entry} {e0 : Entry}  {sz ver : Nat} {x : AV} : seen (e0 :: .arr sz ver [x] :: G) (.own 1 ver 0 1) = some [x] := by simp [seen]
theorem seenM1 {G : List Entry} {e0 : Entry}  {sz ver : Nat} {x y : AV} : seen (e0 :: .arr sz ver [x, y] :: G) (.own 1 ver 0 2) = some [x, y] := by simp [seen]
theorem oneIn_ptr2 {G : List Entry} {e0 e1 : Entry}  {o : Nat} {xs : List AV} : AV.oneIn (e0 :: e1 :: .box xs :: G) (.ptr 2 o) = true := by simp [AV.oneIn]
theorem seenL2 {G : List Entry} {e0 e1 : Entry}  {sz ver : Nat} {x : AV} : seen (e0 :: e1 :: .arr sz ver [x] :: G) (.own 2 ver 0 1) = some [x] := by simp [seen]
theorem oneIn_own3 {G : List Entry} {e0 e1 e2 : Entry}  {sz ver a b : Nat} {xs : List AV} : AV.oneIn (e0 :: e1 :: e2 :: .arr sz ver xs :: G) (.own 3 ver a b) = true := by simp [AV.oneIn]
theorem seenL3 {G : List Entry} {e0 e1 e2 : Entry}  {sz ver : Nat} {x : AV} : seen (e0 :: e1 :: e2 :: .arr sz ver [x] :: G) (.own 3 ver 0 1) = some [x] := by simp [seen]
theorem seen_list (H : List Entry) (t : Bool) (l : List AV) : seen H (.list t l) = some l := rfl
theorem cells_ints (l : List (Int)) : (ints l).cells = [ints l] := rfl
theorem oneIn_ints (H : List Entry) (l : List (Int)) : (ints l).oneIn H = true := rfl
theorem cells_octs (l : List (Int)) : (octs l).cells = [octs l] := rfl
theorem oneIn_octs (H : List Entry) (l : List (Int)) : (octs l).oneIn H = true := rfl
theorem cells_intss (l : List (List Int)) : (intss l).cells = [intss l] := rfl
theorem oneIn_intss (H : List Entry) (l : List (List Int)) : (intss l).oneIn H = true := rfl
theorem cells_octss (l : List (List Int)) : (octss l).cells = [octss l] := rfl
theorem oneIn_octss (H : List Entry) (l : List (List Int)) : (octss l).oneIn H = true := rfl
theorem cells_nodes (l : List (Node)) : (nodes l).cells = [nodes l] := rfl
theorem oneIn_nodes (H : List Entry) (l : List (Node)) : (nodes l).oneIn H = true := rfl
theorem ldB0 {G : List Entry} {cs : List AV} {n off : Nat} : evLoad (.box cs :: G) false n (.ptr 0 off) = cs[off]? := rfl
theorem ldA0 {G : List Entry} {cs : List AV} {n off : Nat} : evLoad (.box cs :: G) true n (.ptr 0 off) = if off + n ≤ cs.length then some (.agg ((cs.drop off).take n)) else none := rfl
theorem adB0 {G : List Entry} {cs : List AV} {k off : Nat} : evAddr (.box cs :: G) k (.ptr 0 off) = some (.ptr 0 (off + k)) := rfl
theorem stB0 {G : List Entry} {cs : List AV} {n off : Nat} {v : AV} : evStore (.box cs :: G) n (.ptr 0 off) v = if v.cells.length = n ∧ 0 < n ∧ v.cells.all (AV.oneIn (.box cs :: G)) = true then (if off + n ≤ cs.length then some (((.box cs :: G) : List Entry).set 0 (.box (splice cs off v.cells))) else none) else none := rfl
theorem ldB1 {G : List Entry} {e0 : Entry} {cs : List AV} {n off : Nat} : evLoad (e0 :: .box cs :: G) false n (.ptr 1 off) = cs[off]? := rfl
theorem ldA1 {G : List Entry} {e0 : Entry} {cs : List AV} {n off : Nat} : evLoad (e0 :: .box cs :: G) true n (.ptr 1 off) = if off + n ≤ cs.length then some (.agg ((cs.drop off).take n)) else none := rfl
theorem adB1 {G : List Entry} {e0 : Entry} {cs : List AV} {k off : Nat} : evAddr (e0 :: .box cs :: G) k (.ptr 1 off) = some (.ptr 1 (off + k)) := rfl
theorem stB1 {G : List Entry} {e0 : Entry} {cs : List AV} {n off : Nat} {v : AV} : evStore (e0 :: .box cs :: G) n (.ptr 1 off) v = if v.cells.length = n ∧ 0 < n ∧ v.cells.all (AV.oneIn (e0 :: .box cs :: G)) = true then (if off + n ≤ cs.length then some (((e0 :: .box cs :: G) : List Entry).set 1 (.box (splice cs off v.cells))) else none) else none := rfl
theorem ldB2 {G : List Entry} {e0 e1 : Entry} {cs : List AV} {n off : Nat} : evLoad (e0 :: e1 :: .box cs :: G) false n (.ptr 2 off) = cs[off]? := rfl
theorem ldA2 {G : List Entry} {e0 e1 : Entry} {cs : List AV} {n off : Nat} : evLoad (e0 :: e1 :: .box cs :: G) true n (.ptr 2 off) = if off + n ≤ cs.length then some (.agg ((cs.drop off).take n)) else none := rfl
theorem adB2 {G : List Entry} {e0 e1 : Entry} {cs : List AV} {k off : Nat} : evAddr (e0 :: e1 :: .box cs :: G) k (.ptr 2 off) = some (.ptr 2 (off + k)) := rfl
theorem stB2 {G : List Entry} {e0 e1 : Entry} {cs : List AV} {n off : Nat} {v : AV} : evStore (e0 :: e1 :: .box cs :: G) n (.ptr 2 off) v = if v.cells.length = n ∧ 0 < n ∧ v.cells.all (AV.oneIn (e0 :: e1 :: .box cs :: G)) = true then (if off + n ≤ cs.length then some (((e0 :: e1 :: .box cs :: G) : List Entry).set 2 (.box (splice cs off v.cells))) else none) else none := rfl
theorem ldB3 {G : List Entry} {e0 e1 e2 : Entry} {cs : List AV} {n off : Nat} : evLoad (e0 :: e1 :: e2 :: .box cs :: G) false n (.ptr 3 off) = cs[off]? := rfl
theorem ldA3 {G : List Entry} {e0 e1 e2 : Entry} {cs : List AV} {n off : Nat} : evLoad (e0 :: e1 :: e2 :: .box cs :: G) true n (.ptr 3 off) = if off + n ≤ cs.length then some (.agg ((cs.drop off).take n)) else none := rfl
theorem adB3 {G : List Entry} {e0 e1 e2 : Entry} {cs : List AV} {k off : Nat} : evAddr (e0 :: e1 :: e2 :: .box cs :: G) k (.ptr 3 off) = some (.ptr 3 (off + k)) := rfl
theorem stB3 {G : List Entry} {e0 e1 e2 : Entry} {cs : List AV} {n off : Nat} {v : AV} : evStore (e0 :: e1 :: e2 :: .box cs :: G) n (.ptr 3 off) v = if v.cells.length = n ∧ 0 < n ∧ v.cells.all (AV.oneIn (e0 :: e1 :: e2 :: .box cs :: G)) = true then (if off + n ≤ cs.length then some (((e0 :: e1 :: e2 :: .box cs :: G) : List Entry).set 3 (.box (splice cs off v.cells))) else none) else none := rfl
theorem ldB4 {G : List Entry} {e0 e1 e2 e3 : Entry} {cs : List AV} {n off : Nat} : evLoad (e0 :: e1 :: e2 :: e3 :: .box cs :: G) false n (.ptr 4 off) = cs[off]? := rfl
theorem ldA4 {G : List Entry} {e0 e1 e2 e3 : Entry} {cs : List AV} {n off : Nat} : evLoad (e0 :: e1 :: e2 :: e3 :: .box cs :: G) true n (.ptr 4 off) = if off + n ≤ cs.length then some (.agg ((cs.drop off).take n)) else none := rfl
theorem adB4 {G : List Entry} {e0 e1 e2 e3 : Entry} {cs : List AV} {k off : Nat} : evAddr (e0 :: e1 :: e2 :: e3 :: .box cs :: G) k (.ptr 4 off) = some (.ptr 4 (off + k)) := rfl
theorem stB4 {G : List Entry} {e0 e1 e2 e3 : Entry} {cs : List AV} {n off : Nat} {v : AV} : evStore (e0 :: e1 :: e2 :: e3 :: .box cs :: G) n (.ptr 4 off) v = if v.cells.length = n ∧ 0 < n ∧ v.cells.all (AV.oneIn (e0 :: e1 :: e2 :: e3 :: .box cs :: G)) = true then (if off + n ≤ cs.length then some (((e0 :: e1 :: e2 :: e3 :: .box cs :: G) : List Entry).set 4 (.box (splice cs off v.cells))) else none) else none := rfl
theorem ldB5 {G : List Entry} {e0 e1 e2 e3 e4 : Entry} {cs : List AV} {n off : Nat} : evLoad (e0 :: e1 :: e2 :: e3 :: e4 :: .box cs :: G) false n (.ptr 5 off) = cs[off]? := rfl
theorem ldA5 {G : List Entry} {e0 e1 e2 e3 e4 : Entry} {cs : List AV} {n off : Nat} : evLoad (e0 :: e1 :: e2 :: e3 :: e4 :: .box cs :: G) true n (.ptr 5 off) = if off + n ≤ cs.length then some (.agg ((cs.drop off).take n)) else none := rfl
theorem adB5 {G : List Entry} {e0 e1 e2 e3 e4 : Entry} {cs : List AV} {k off : Nat} : evAddr (e0 :: e1 :: e2 :: e3 :: e4 :: .box cs :: G) k (.ptr 5 off) = some (.ptr 5 (off + k)) := rfl
theorem stB5 {G : List Entry} {e0 e1 e2 e3 e4 : Entry} {cs : List AV} {n off : Nat} {v : AV} : evStore (e0 :: e1 :: e2 :: e3 :: e4 :: .box cs :: G) n (.ptr 5 off) v = if v.cells.length = n ∧ 0 < n ∧ v.cells.all (AV.oneIn (e0 :: e1 :: e2 :: e3 :: e4 :: .box cs :: G)) = true then (if off + n ≤ cs.length then some (((e0 :: e1 :: e2 :: e3 :: e4 :: .box cs :: G) : List Entry).set 5 (.box (splice cs off v.cells))) else none) else none := rfl
end Go.Proofs.YtihhinbjhiankaaGreatDoor.Al

/- WHAT THE LIBRARY's CONTRACTS SAY OF ROWS, told of one's own rows. -/
namespace Go.Proofs.YtihhinbjhiankaaGreatDoor.Al
open Go
variable {S : Seat} {m : List ME} {I X : Nat → Prop} {w : World} {H : List Entry}

theorem grow_heap_lt (w : World) (os : Array Obj) {k : Nat} (h : k < w.heap.size) : (Sort.grow w os).heap[k]? = w.heap[k]? := Sort.heap_grow_old w os h

theorem putRow_other {α : Type} [Inhabited α] (enc : α → Value) (w : World) (blk off : Nat) (d : Array α) {k : Nat} (h : k ≠ blk) : (Sort.putRow enc w blk off d).heap[k]? = w.heap[k]? := by
  simp [Sort.putRow, Sort.mapBlock, Array.getElem?_modify, Ne.symm h]

theorem putRow_self {α : Type} [Inhabited α] (enc : α → Value) (w : World) (blk off : Nat) (d : Array α) {arr : Array Value} {T : Nat} {fr : Nat × Nat} (h : w.heap[blk]? = some (.cells arr T fr)) :
    (Sort.putRow enc w blk off d).heap[blk]? = some (.cells (Sort.putCells enc off d arr) T fr) := by
  simp [Sort.putRow, Sort.mapBlock, Array.getElem?_modify, h, Sort.onCells]

theorem putCells_get {α : Type} [Inhabited α] (enc : α → Value) (off : Nat) (d : Array α) (arr : Array Value) (k : Nat) (hk : k < arr.size) : (Sort.putCells enc off d arr).getD k undef = if off ≤ k ∧ k < off + d.size then enc d[k - off]! else arr.getD k undef := by
  simp [Sort.putCells, Array.getD_eq_getD_getElem?, hk]

/-- An owned row of numbers, as the library's contracts see it. -/
theorem own_ints {id ver : Nat} {l : List Int} {v : Value} (hs : Sim S m I X w H) (hH : H[id]? = some (.arr 1 ver (l.map (AV.int .i64)))) (hv : Rel S m I w (.own id ver 0 l.length) v) :
    ∃ e, m[id]? = some e ∧ e.sz = 1 ∧ e.ver = ver ∧ ((l = [] ∧ ∃ a c, v = .slice a 0 c) ∨ (e.nilrow = false ∧ 0 < l.length ∧ l.length ≤ e.cap ∧ v = .slice (some ⟨e.blk, 0, none⟩) l.length e.cap ∧ Sort.Holds (Value.int .i64) w e.blk 0 l.toArray ∧ e.blk < w.heap.size ∧
      ∃ arr T, w.heap[e.blk]? = some (.cells arr T (0, 0)) ∧ arr.size = e.cap)) := by
  obtain ⟨e, h1, hrow⟩ := hs.hok id _ hH
  refine ⟨e, h1, hrow.2.1, hrow.1, ?_⟩
  rcases Nat.eq_zero_or_pos l.length with h0 | h0
  · left
    obtain ⟨a, c, hv', _⟩ := own_len h1 hrow hv
    rw [h0] at hv'
    exact ⟨List.eq_nil_of_length_eq_zero h0, a, c, hv'⟩
  · right
    obtain ⟨hn, hv'⟩ := own_val h1 hrow hv h0
    obtain ⟨r1, r0, r2, r3, r4, r5⟩ := hrow
    rcases r5 with ⟨q1, q2⟩ | ⟨q1, arr, T, ha, hsz, hc⟩
    · rw [hn] at q1; cases q1
    · rw [r0, Nat.mul_one] at hsz
      have hcap : l.length ≤ e.cap := by simpa using r2
      refine ⟨hn, h0, hcap, by simpa using hv', fun j hj => ?_, heap_lt ha, arr, T, ha, hsz⟩
      have hj' : j < l.length := by simpa using hj
      have := hc j (.int .i64 l[j]) (by simp [hj']) 0 (.int .i64 l[j]) (by simp [AV.cells])
      rw [r0, Nat.mul_one, Nat.add_zero] at this
      have hja : j < arr.size := by omega
      have hx : arr.getD j undef = .int .i64 l[j] := by
        generalize arr.getD j undef = u at this
        cases this; rfl
      constructor
      · have : arr[j]? = some (.int .i64 l[j]) := by
          rw [Array.getD_eq_getD_getElem?, Array.getElem?_eq_getElem hja] at hx
          rw [Array.getElem?_eq_getElem hja]; simpa using hx
        simp [World.cell?, ha, this, hj']
      · simp [World.frozen?, ha]

/-- The row holds other numbers, as many as before; new blocks lie behind. -/
theorem Sim.putInts (hs : Sim S m I X w H) {id ver n : Nat} {l l' : List Int} {e : ME} {os : Array Obj} {arr : Array Value} {T : Nat} (hH : H[id]? = some (.arr 1 ver (l.map (AV.int .i64)))) (h1 : m[id]? = some e) (hn : e.nilrow = false) (hsz : e.sz = 1) (hver : e.ver = ver)
    (ha : w.heap[e.blk]? = some (.cells arr T (0, 0))) (hasz : arr.size = e.cap) (hl : l'.length = l.length) (hcap : l.length ≤ e.cap) :
    Went S m I X w m (Sort.grow (Sort.putRow (Value.int .i64) (Sort.ahead w n) e.blk 0 l'.toArray) os) (H.set id (.arr 1 ver (l'.map (AV.int .i64)))) := by
  have hlt := heap_lt ha
  have hw : ∀ k : Nat, k < w.heap.size → (e.nilrow = false → k ≠ e.blk) → (Sort.grow (Sort.putRow (Value.int .i64) (Sort.ahead w n) e.blk 0 l'.toArray) os).heap[k]? = w.heap[k]? := fun k hk hne => by
    rw [grow_heap_lt _ _ (by simpa using hk), putRow_other _ _ _ _ _ (hne hn)]; rfl
  have hself : (Sort.grow (Sort.putRow (Value.int .i64) (Sort.ahead w n) e.blk 0 l'.toArray) os).heap[e.blk]? = some (.cells (Sort.putCells (Value.int .i64) 0 l'.toArray arr) T (0, 0)) := by
    rw [grow_heap_lt _ _ (by simpa using hlt)]; exact putRow_self _ _ _ _ _ ha
  obtain ⟨e', h1', hrow⟩ := hs.hok id _ hH
  rw [h1] at h1'; cases h1'
  have := hs.write (e := .arr 1 ver (l'.map (AV.int .i64))) hH rfl h1 (.inl rfl) hw (by simp) (fun _ => .inl ⟨hn, rfl⟩) (by
    rw [set_self h1]
    refine ⟨e, h1, hver, hsz, by simpa [hl] using hcap, hrow.2.2.2.1, fun x hx => ?_, .inr ⟨hn, _, T, hself, by simpa [Sort.putCells, hsz] using hasz, fun i x hx j y hy => ?_⟩⟩
    · obtain ⟨z, _, rfl⟩ := List.mem_map.1 hx
      rw [hsz]; rfl
    · rw [List.getElem?_map] at hx
      cases hz : l'[i]? with
      | none => rw [hz] at hx; cases hx
      | some z =>
        rw [hz] at hx; cases hx
        have hj : j = 0 := by
          have := lt_of_get hy
          simp [AV.cells] at this; exact this
        subst hj
        simp only [AV.cells, List.getElem?_cons_zero, Option.some.injEq] at hy
        subst hy
        have hi := lt_of_get hz
        rw [hsz, Nat.mul_one, Nat.add_zero, putCells_get _ _ _ _ _ (by omega), if_pos ⟨Nat.zero_le _, by simpa using hi⟩]
        have : l'.toArray[i - 0]! = z := by
          have h2 := (List.getElem?_eq_some_iff.1 hz).2
          simp [hi, h2]
        rw [this]
        exact .int _ _)
  rw [set_self h1] at this
  exact ⟨this, .refl m, hs.ext_write hH rfl h1 hw (by simp) rfl rfl rfl⟩

/-- A row's last elements are forgotten. -/
theorem Sim.shrink (hs : Sim S m I X w H) {id sz ver : Nat} {xs : List AV} (n : Nat) (hH : H[id]? = some (.arr sz ver xs)) : Sim S m I X w (H.set id (.arr sz ver (xs.take n))) := by
  have hid := lt_of_get hH
  have live : ∀ {j : Nat} {e : Entry}, (H.set id (.arr sz ver (xs.take n)))[j]? = some e → e.live = true → ∃ e', H[j]? = some e' ∧ e'.live = true := by
    intro j e hj hl
    by_cases h : j = id
    · subst h; exact ⟨_, hH, rfl⟩
    · rw [List.getElem?_set_ne (Ne.symm h)] at hj; exact ⟨e, hj, hl⟩
  refine ⟨by simp [hs.len], fun j e hj => ?_, fun j e g hj hl hg hn => ?_, fun j j' e e' g g' hj hl hj' hl' hg hg' hn hn' hb => ?_, hs.lt, hs.disj, hs.gl⟩
  · by_cases h : j = id
    · subst h
      rw [List.getElem?_set_self hid] at hj; cases hj
      obtain ⟨e, h1, r1, r0, r2, r3, r4, r5⟩ := hs.hok j _ hH
      refine ⟨e, h1, r1, r0, by rw [List.length_take]; omega, r3, fun x hx => r4 x (List.mem_of_mem_take hx), ?_⟩
      rcases r5 with r5 | ⟨r5, arr, T, ha, hsz, hc⟩
      · exact .inl r5
      · refine .inr ⟨r5, arr, T, ha, hsz, fun i x hx j y hy => hc i x ?_ j y hy⟩
        rw [List.getElem?_take] at hx
        split at hx
        · exact hx
        · cases hx
    · rw [List.getElem?_set_ne (Ne.symm h)] at hj
      exact hs.hok j e hj
  · obtain ⟨e', h1, h2⟩ := live hj hl
    exact hs.sep j e' g h1 h2 hg hn
  · obtain ⟨e1, h1, h2⟩ := live hj hl
    obtain ⟨e2, h3, h4⟩ := live hj' hl'
    exact hs.inj j j' e1 e2 g g' h1 h2 h3 h4 hg hg' hn hn' hb

theorem ACall.shrink {c : Nat} {args : List AV} {R R' : AV → List Entry → Prop} (h : ACall S c args H R)
    (hR : ∀ r H', R r H' → ∃ id sz ver xs n, H'[id]? = some (.arr sz ver xs) ∧ R' r (H'.set id (.arr sz ver (xs.take n)))) : ACall S c args H R' := by
  intro m I X w vs hs hv
  refine (h m I X w vs hs hv).mono ?_
  rintro e w' ⟨r, H', vv, m', I', h1, h2, h3, h4, h5, h6, h7⟩
  obtain ⟨id, sz, ver, xs, n, k1, k2⟩ := hR r H' h2
  exact ⟨r, _, vv, m', I', h1, k2, h3, h4.shrink n k1, h5, h6, h7⟩

end Go.Proofs.YtihhinbjhiankaaGreatDoor.Al

/- BODIES IN PARTS; what an iterator gives. -/
namespace Go.Proofs.YtihhinbjhiankaaGreatDoor.Al
open Go
variable {S : Seat}

theorem WP.seqK {r : Option Nat} {N b : Nat} {x y : IC} {Q : Exit → St → Prop} {st : St} (K : St → Prop) (h1 : WP S r N b x (thenQ K Q) st) (h2 : ∀ st', K st' → WP S r N b y Q st') : WP S r N b (.seq x y) Q st :=
  WP.seq (h1.mono fun e st' hq => by
    cases e with
    | normal => exact h2 st' hq
    | _ => exact hq)

/-- A first part that ends in one state. -/
theorem WP.seqS {r : Option Nat} {N b : Nat} {x y : IC} {Q : Exit → St → Prop} {st : St} (L : List (Nat × AV)) (H1 : List Entry) (h1 : wpc S [] r N b x (thenQ (fun st' => (∀ p ∈ L, st'.env p.1 = p.2) ∧ st'.H = H1) Q) st) (h2 : WP S r N b y Q ⟨envL L, H1⟩) : WP S r N b (.seq x y) Q st :=
  WP.seqK (fun st' => (∀ p ∈ L, st'.env p.1 = p.2) ∧ st'.H = H1) (wpc_sound h1) (fun st' h => WP.slots h.1 (by rw [h.2]; exact h2))

theorem WP.seqR (T : List (Reg S)) {r : Option Nat} {N b : Nat} {x y : IC} {Q : Exit → St → Prop} {st : St} (h : ∀ K : St → Prop, (∀ st', WP S r N b y Q st' → K st') → wpc S T r N b x (thenQ K Q) st) : WP S r N b (.seq x y) Q st :=
  WP.seqK (WP S r N b y Q) (wpc_soundR T (h _ fun _ h => h)) fun _ h => h
theorem Fun.of0W {c : Nat} {f : IFn} (ht : trFn S c = some f) {args : List AV} {r : AV} (hn : args.length ≤ f.N) (ha : ∀ x ∈ args, Idb 0 x) (hr : Idb 0 r) (k : Nat)
    (h : WP S none f.N 0 f.body (leaves f.res fun r' H' => canon H' k r' = r) ⟨envL (args.zipIdx.map fun p => (p.2, p.1)), []⟩) : Fun S c args r := by
  refine Fun.zero ha hr (ACall.out k (R := fun r' H' => canon H' k r' = r) (ACall.of_wp ht hn ?_) ?_)
  · rw [start_env]; exact h
  · intro r' H' h1
    simp only [List.length_nil, fresh_zero]
    have h2 : derefN (freezeP all H') k r' = r := h1
    exact ⟨by simp, by rw [h2]; exact hr, h2⟩

theorem FunOwn.of0W {c : Nat} {f : IFn} (ht : trFn S c = some f) {args : List AV} {sz : Nat} {xs : List AV} (hn : args.length ≤ f.N) (ha : ∀ x ∈ args, Idb 0 x) (hx : ∀ x ∈ xs, ∀ y ∈ x.cells, Idb 0 y)
    (h : WP S none f.N 0 f.body (leaves f.res fun r H' => (∃ id ver, r = .own id ver 0 xs.length ∧ H'[id]? = some (.arr sz ver xs)) ∨ (r = .list true [] ∧ xs = [])) ⟨envL (args.zipIdx.map fun p => (p.2, p.1)), []⟩) : FunOwn S c args sz xs := by
  refine FunOwn.zero ha hx (ACall.outOwn 0 (R := fun r H' => ∃ id ver, r = .own id ver 0 xs.length ∧ H'[id]? = some (.arr sz ver xs)) (ACall.adopt sz (ACall.of_wp ht hn (by rw [start_env]; exact h)) ?_) ?_)
  · rintro r H' (h1 | ⟨rfl, rfl⟩)
    · exact .inr h1
    · exact .inl ⟨rfl, H'.length, 0, rfl, by simp⟩
  · rintro r H' ⟨id, ver, rfl, h2⟩
    have hm : ∀ G : List Entry, xs.map (derefN G 0) = xs := fun G => by
      have : derefN G 0 = fun x => x := by funext x; rfl
      rw [this]; simp
    exact ⟨by simp, id, ver, sz, xs, by simp, Nat.zero_le _, h2, fun x hx' y hy => hx x hx' y hy, by simp, by rw [hm]; rfl⟩

/-- A row that is handed over, taken as a value. -/
theorem FunOwn.val {c : Nat} {args : List AV} {sz : Nat} {xs : List AV} (h : FunOwn S c args sz xs) (hx : ∀ x ∈ xs, ∀ y ∈ x.cells, Idb 0 y) : Fun S c args (.list false xs) := by
  intro H
  refine ACall.out 1 (h H) ?_
  rintro r H' ⟨rfl, rfl⟩
  have e : derefN (freezeP (fresh H.length) (H ++ [.arr sz 0 xs])) 1 (.own H.length 0 0 xs.length) = .list false xs := by
    simp only [derefN, freezeP_get, heap_get0, Option.map_some, fresh, Nat.le_refl, decide_true, if_true, Entry.frzE]
    simp [derefN]
  rw [e]
  exact ⟨by simp, .list _ _ fun x hx' y hy => (hx x hx' y hy).more (Nat.zero_le _), rfl, rfl⟩

/-- An iterator yields some values, one by one, to whatever loop. -/
def Gives (S : Seat) (c : Nat) (cap : List AV) (xs : List AV) : Prop :=
  ∀ (id : Nat) (H0 : List Entry) (J : Nat → List Entry → Prop) (Jx : List Entry → Prop), J 0 H0 →
    (∀ k (hk : k < xs.length) H1, J k H1 → AYield S id [xs[k]] H1 (fun r H2 => (r = .bool true ∧ J (k + 1) H2) ∨ (r = .bool false ∧ Jx H2))) →
    ACall S c ([.func (.y id) [] []] ++ cap) H0 (fun _ H' => J xs.length H' ∨ Jx H')

theorem load_box {H : List Entry} {id : Nat} {v : AV} (h : H[id]? = some (.box [v])) : evLoad H false 1 (.ptr id 0) = some v := by
  simp [evLoad, window, h]
theorem store_box {H : List Entry} {id : Nat} {u v : AV} (h : H[id]? = some (.box [u])) (hv : v.cells = [v]) (h1 : v.oneIn H = true) : evStore H 1 (.ptr id 0) v = some (H.set id (.box [v])) := by
  simp [evStore, hv, h1, h, splice]
theorem own_one {H : List Entry} {id ver lo hi sz : Nat} {xs : List AV} (h : H[id]? = some (.arr sz ver xs)) : (AV.own id ver lo hi).oneIn H = true := by
  simp [AV.oneIn, h]
theorem evMin_int (k k' : IntKind) (a b : Int) : evMin (.int k a) (.int k' b) = some (.int k (if b < a then b else a)) := rfl
theorem evMax_int (k k' : IntKind) (a b : Int) : evMax (.int k a) (.int k' b) = some (.int k (if b > a then b else a)) := rfl
def DR (S : Seat) (Hs : Nat → List Entry) (K : Nat) (l : List IOper) (labs : List Lab) (env : Env) (k : Nat) (E : Env) : Prop := ∃ tr, DRun S Hs K l labs env k tr E
theorem DR.nil {Hs : Nat → List Entry} {K : Nat} {env : Env} : DR S Hs K [] [] env K env := ⟨_, .nil _⟩
theorem DR.light {Hs : Nat → List Entry} {K : Nat} {o : IOper} {l : List IOper} {labs : List Lab} {env E : Env} {k : Nat} {b : Lab} {v : AV} (hg : gdec env o.guard = some true) (hd : ∀ j, j ≤ K → evalOp o.op env (Hs j) = some (v, Hs j)) (h : DR S Hs K l labs (updo env o.dst v) k E) : DR S Hs K (o :: l) (b :: labs) env k E :=
  let ⟨_, h⟩ := h; ⟨_, .light hg (fun j hj => .ev (hd j hj)) h⟩
theorem DR.heavy {Hs : Nat → List Entry} {K : Nat} {o : IOper} {l : List IOper} {labs : List Lab} {env E : Env} {k : Nat} {v : AV} (hg : gdec env o.guard = some true) (hd : evalOp o.op env (Hs k) = some (v, Hs (k + 1))) (h : DR S Hs K l labs (updo env o.dst v) (k + 1) E) : DR S Hs K (o :: l) (.h k :: labs) env k E :=
  let ⟨_, h⟩ := h; ⟨_, .heavy hg (.ev hd) h⟩
theorem DR.fixed {Hs : Nat → List Entry} {K : Nat} {o : IOper} {l : List IOper} {labs : List Lab} {env E : Env} {k lo hi : Nat} {v : AV} (hg : gdec env o.guard = some true) (h1 : lo ≤ k) (h2 : k ≤ hi) (hd : ∀ j, lo ≤ j → j ≤ hi → evalOp o.op env (Hs j) = some (v, Hs j)) (h : DR S Hs K l labs (updo env o.dst v) k E) : DR S Hs K (o :: l) (.g lo hi :: labs) env k E :=
  let ⟨_, h⟩ := h; ⟨_, .fixed hg h1 h2 (fun j a b _ => .ev (hd j a b)) h⟩
theorem WP.drawE {r : Option Nat} {N b : Nat} {Q : Exit → St → Prop} {l : List IOper} {H : List Entry} (hmx : S.P.follows .mixedOrders = true) (labs : List Lab) (hchk : drawOk l labs = true) (Hs : Nat → List Entry) (K : Nat) {env E : Env}
    (hH : Hs 0 = H) (hq : Q .normal ⟨E, Hs K⟩) (hd : DR S Hs K l labs env 0 E) : WP S r N b (.region l true) Q ⟨env, H⟩ :=
  let ⟨_, hd⟩ := hd; WP.draw hmx labs hchk Hs K hd hH hq
theorem freezeP_all_nil : freezeP all [] = [] := rfl
theorem freezeP_all_cons (e : Entry) (H : List Entry) : freezeP all (e :: H) = e.frzE :: freezeP all H := by
  simp [freezeP, all, List.mapIdx_cons]
theorem frzE_box (cs : List AV) : (Entry.box cs).frzE = .box cs := rfl
theorem frzE_arr (s v : Nat) (xs : List AV) : (Entry.arr s v xs).frzE = .frz s v xs := rfl
theorem frzE_dead : Entry.dead.frzE = .dead := rfl
theorem CallF.f {H : List Entry} {c : Nat} {f : IFn} {args : List AV} {r : AV} (ht : trFn S c = some f) (h : Fun S c args r) : CallF S (.func (.f c) [] []) args H r := CallF.plain (Callable.of ht) (h H)
/-- A call ahead of which the caller's rows are frozen. -/
theorem Callee.frz {H : List Entry} {c : Nat} {f : IFn} {args : List AV} {r : AV} {K : AV → List Entry → Prop} (n : Nat) (ht : trFn S c = some f) (h : Fun S c (args.map (canon H n)) r) (k : K r (freezeP all H)) : Callee S (.func (.f c) [] []) args H K :=
  Callee.plain (Callable.of ht) (ACall.frzN all n (h (freezeP all H))) (by rintro _ _ ⟨rfl, rfl⟩; exact k)
/-- One more round. -/
theorem wrapS {k : Nat} (h : k < 9223372036854775807) : IntKind.i64.wrap ((k : Int) + 1) = ((k + 1 : Nat) : Int) := wrap64 _ (by omega) (by omega)

end Go.Proofs.YtihhinbjhiankaaGreatDoor.Al

set_option linter.unusedSimpArgs false
set_option linter.unusedVariables false
namespace Go.Proofs.YtihhinbjhiankaaGreatDoor.Al
open Go Go.RowKit Go.ChangeShapes Go.WideShapes Go.ChangeAt

/-- Cells that are told by abstract ones, over memory that nobody writes. -/
def Tells (S : Seat) (w : World) (xs : List AV) (cs : List Value) : Prop := cs.length = xs.length ∧ ∀ j y, xs[j]? = some y → Rel S [] (fun b => b < w.heap.size) w y (cs.getD j undef)

/-- What is read at a type is told by an element of a type of Lean's. -/
def Shape (S : Seat) (t : TypeId) {α : Type} (E : α → AV) (W : α → Prop) : Prop :=
  ∀ {H : Type} {enc : TypeId × Value → H} {w : World} {base : Nat} {sp : Nat → Bool} {held : Bool} {fuel : Nat} {cs : List Value} {x : DataW H × List MemPlace},
    DataW.trod enc S.P w base sp held fuel t cs = some x → (x.1.weights S.P t).all (· ≤ reachBytes) = true → ∃ a, W a ∧ Tells S w (E a).cells cs

variable {S : Seat}

theorem weightsAll_mem {H : Type} {P : Program} {e : TypeId} : ∀ {ds : List (DataW H)} {d : DataW H}, d ∈ ds → ∀ n ∈ d.weights P e, n ∈ DataW.weightsAll P e ds
  | d0 :: ds, d, h, n, hn => by
    simp only [DataW.weightsAll, List.mem_append]
    rcases List.mem_cons.1 h with rfl | h
    · exact .inl hn
    · exact .inr (weightsAll_mem h n hn)
theorem sized_at {H : Type} {P : Program} {ts : List TypeId} {ds : List (DataW H)} (h : (DataW.weightsEach P ts ds).all (· ≤ reachBytes) = true) {j : Nat} {t : TypeId} {d : DataW H} (ht : ts[j]? = some t) (hd : ds[j]? = some d) : (d.weights P t).all (· ≤ reachBytes) = true :=
  List.all_eq_true.2 fun n hn => List.all_eq_true.1 h n (DataW.weights_mem_each ht hd n hn)

theorem Tells.one {w : World} {x : AV} {v : Value} (h : Rel S [] (fun b => b < w.heap.size) w x v) : Tells S w [x] [v] := ⟨rfl, fun j y hy => by
  cases j with
  | zero => simp only [List.getElem?_cons_zero, Option.some.injEq] at hy; subst hy; exact h
  | succ j => simp at hy⟩

theorem Shape.int {t : TypeId} {k : IntKind} (ht : S.P.underlying t = some (.int k)) : Shape S t (fun n => .int k n) (fun n => k.min ≤ n ∧ n ≤ k.max) := by
  intro H enc w base sp held fuel cs x h hsz
  cases fuel with
  | zero => simp [DataW.trod] at h
  | succ fuel =>
    unfold DataW.trod at h
    rw [ht] at h
    split at h
    all_goals (rename_i heq; first | (cases h; done) | (exfalso; cases heq; done) | skip)
    rename_i k1 k' n
    cases heq
    split at h
    · rename_i hk
      obtain ⟨rfl, hw⟩ := hk
      simp only [Lit.wf, Bool.and_eq_true, decide_eq_true_eq] at hw
      exact ⟨n, hw, Tells.one (.int _ _)⟩
    · cases h

theorem mapM_range {α : Type} {f : Nat → Option α} : ∀ {n : Nat} {xs : List α}, (List.range n).mapM f = some xs → xs.length = n ∧ ∀ i, i < n → ∃ x, f i = some x ∧ xs[i]? = some x := by
  intro n xs h
  obtain ⟨h1, h2⟩ := mapM_get h
  simp at h1
  refine ⟨h1, fun i hi => ?_⟩
  obtain ⟨x, hx, hy⟩ := h2 i i (by simp [hi])
  exact ⟨x, hx, hy⟩

theorem cells?_get {w : World} {base : Nat} {a : Addr} {n : Nat} {cs : List Value} (h : w.cells? base a n = some cs) : cs.length = n ∧ ∀ j, j < n → ∃ v, w.cell? (a.add j) = some v ∧ cs[j]? = some v := by
  unfold World.cells? at h
  split at h
  · exact mapM_range h
  · cases h

theorem cell_lt {w : World} {a : Addr} {v : Value} (h : w.cell? a = some v) : a.block < w.heap.size ∧ a.spot = none := by
  unfold World.cell? at h
  split at h
  · rename_i c x y hb
    refine ⟨heap_lt hb, ?_⟩
    split at h
    · cases h
    · rename_i hs; simpa using hs
  · cases h

theorem Shape.slice {t e : TypeId} {α : Type} {E : α → AV} {W : α → Prop} {sz : Nat} (ht : S.P.underlying t = some (.slice e)) (hz : S.P.cellsOf e = sz) (hpos : 0 < sz) (hE : ∀ a, (E a).cells.length = sz) (he : Shape S e E W) (hby : decide (0 < S.P.bytesOf e) = true := by kernel_rfl) :
    Shape S t (fun l : List α => .list false (l.map E)) (fun l => l.length ≤ 140737488355328 ∧ ∀ x ∈ l, W x) := by
  intro H enc w base sp held fuel cs x h hsz
  cases fuel with
  | zero => simp [DataW.trod] at h
  | succ fuel =>
    unfold DataW.trod at h
    rw [ht] at h
    split at h
    all_goals (rename_i heq; first | (cases h; done) | (exfalso; cases heq; done) | skip)
    · exact ⟨[], ⟨Nat.zero_le _, by simp⟩, Tells.one (.empty _ _ _ (by simp) (by simp))⟩
    · rename_i e' a len cap
      cases heq
      simp only at h
      split at h
      · rename_i hc
        obtain ⟨hb, hlc, hcm⟩ := hc
        obtain ⟨els, h1, h2⟩ := Option.bind_eq_some_iff.1 h
        obtain ⟨rest, _, rfl⟩ := Option.map_eq_some_iff.1 h2
        obtain ⟨hlen, hel⟩ := mapM_range h1
        rw [hz] at hel
        simp only [DataW.weights, ht, List.all_cons, List.all_append, Bool.and_eq_true, decide_eq_true_eq, List.length_map] at hsz
        obtain ⟨hs1, hs2, _⟩ := hsz
        have hsm : len ≤ 140737488355328 := by
          have h3 : (els.length + rest.length) * 1 ≤ (els.length + rest.length) * S.P.bytesOf e := Nat.mul_le_mul_left _ (of_decide_eq_true hby)
          have h4 : reachBytes = 140737488351232 := rfl
          omega
        have key : ∀ i, i < len → ∃ y : α, W y ∧ ∃ cs', w.cells? base (a.add (i * sz)) sz = some cs' ∧ Tells S w (E y).cells cs' := by
          intro i hi
          obtain ⟨z, hz', hzm⟩ := hel i hi
          obtain ⟨cs', h3, h4⟩ := Option.bind_eq_some_iff.1 hz'
          obtain ⟨y, hy, hty⟩ := he h4 (List.all_eq_true.2 fun n hn => List.all_eq_true.1 hs2 n (weightsAll_mem (List.mem_map.2 ⟨z, List.mem_of_getElem? hzm, rfl⟩) n hn))
          exact ⟨y, hy, cs', h3, hty⟩
        have hex : ∀ n, n ≤ len → ∃ l : List α, l.length = n ∧ ∀ i y, l[i]? = some y → W y ∧ ∃ cs', w.cells? base (a.add (i * sz)) sz = some cs' ∧ Tells S w (E y).cells cs' := by
          intro n
          induction n with
          | zero => intro _; exact ⟨[], rfl, fun i y h => by simp at h⟩
          | succ n ih =>
            intro hn
            obtain ⟨l, hl, hi⟩ := ih (by omega)
            obtain ⟨y, hy⟩ := key n (by omega)
            refine ⟨l ++ [y], by simp [hl], fun i z hz => ?_⟩
            rcases getElem?_push_cases hz with ⟨hz, _⟩ | ⟨rfl, rfl⟩
            · exact hi i z hz
            · rw [hl]; exact hy
        obtain ⟨l, hl, hi⟩ := hex len (Nat.le_refl _)
        refine ⟨l, ⟨by omega, fun x hx => ?_⟩, Tells.one ?_⟩
        · obtain ⟨i, hi'⟩ := List.getElem?_of_mem hx
          exact (hi i x hi').1
        · have hcm' : cap ≤ 9223372036854775807 := hcm
          rcases Nat.eq_zero_or_pos len with h0 | h0
          · have : l = [] := List.eq_nil_of_length_eq_zero (by omega)
            subst this
            rw [h0]
            exact .empty _ _ _ (by simp) hcm'
          · have first : a.spot = none ∧ a.block < w.heap.size := by
              obtain ⟨_, cs', h3, _⟩ := hi 0 l[0] (List.getElem?_eq_getElem (by omega))
              obtain ⟨_, h5⟩ := cells?_get h3
              obtain ⟨v, hv, _⟩ := h5 0 hpos
              have := cell_lt hv
              obtain ⟨b, off, spot⟩ := a
              cases spot with
              | none => exact ⟨rfl, by have h9 := this.1; rw [addr_add, addr_add] at h9; exact h9⟩
              | some sp => exact absurd this.2 (by simp [Addr.add])
            obtain ⟨b, off, spot⟩ := a
            obtain ⟨rfl, hblk⟩ := first
            have cellAt : ∀ i x, (l.map E)[i]? = some x → ∀ j y, x.cells[j]? = some y → ∃ v, w.cell? ⟨b, off + i * sz + j, none⟩ = some v ∧ Rel S [] (fun b => b < w.heap.size) w y v := by
              intro i x hx j y hy
              rw [List.getElem?_map] at hx
              cases hli : l[i]? with
              | none => rw [hli] at hx; cases hx
              | some z =>
                rw [hli] at hx; cases hx
                obtain ⟨_, cs', h3, h4⟩ := hi i z hli
                obtain ⟨h5, h6⟩ := cells?_get h3
                have hj : j < sz := by have := lt_of_get hy; rw [hE] at this; exact this
                obtain ⟨v, hv, hcv⟩ := h6 j hj
                rw [addr_add, addr_add] at hv
                refine ⟨v, hv, ?_⟩
                have := h4.2 j y hy
                rwa [List.getD_eq_getElem?_getD, hcv] at this
            refine .list false (l.map E) b off len cap sz (fun i j => (w.cell? ⟨b, off + i * sz + j, none⟩).getD undef) (by simpa using hl) hlc hcm' (by simp) hblk (fun x hx => ?_) (fun i x hx j y hy => ?_) (fun i x hx j y hy => ?_)
            · obtain ⟨z, _, rfl⟩ := List.mem_map.1 hx
              exact hE z
            · obtain ⟨v, hv, _⟩ := cellAt i x hx j y hy
              rw [hv]; rfl
            · obtain ⟨v, hv, hr⟩ := cellAt i x hx j y hy
              rw [hv]; exact hr
      · cases h

/-- Fields, one behind the other. -/
inductive Fields (S : Seat) : List Field → Nat → {α : Type} → (α → List AV) → (α → Prop) → Prop
  | nil (off : Nat) : Fields S [] off (fun _ : Unit => []) (fun _ => True)
  | cons {f : Field} {fs : List Field} {off sz : Nat} {α β : Type} {E : α → AV} {W : α → Prop} {F : β → List AV} {V : β → Prop} (ho : f.offset = off) (hz : S.P.cellsOf f.type = sz) (hE : ∀ a, (E a).cells.length = sz) (he : Shape S f.type E W)
      (h : Fields S fs (off + sz) F V) : Fields S (f :: fs) off (fun p : α × β => (E p.1).cells ++ F p.2) (fun p => W p.1 ∧ V p.2)

theorem Fields.open {fs : List Field} {off : Nat} {β : Type} {F : β → List AV} {V : β → Prop} (hf : Fields S fs off F V) :
    ∀ {H : Type} {enc : TypeId × Value → H} {w : World} {base : Nat} {sp : Nat → Bool} {held : Bool} {fuel : Nat} {cs : List Value} {xs : List (DataW H × List MemPlace)},
      (fs.mapM fun f => DataW.trod enc S.P w base sp held fuel f.type ((cs.drop f.offset).take (S.P.cellsOf f.type))) = some xs → (DataW.weightsEach S.P (fs.map (·.type)) (xs.map (·.1))).all (· ≤ reachBytes) = true → ∃ b, V b ∧ ∀ j y, (F b)[j]? = some y → Rel S [] (fun b => b < w.heap.size) w y (cs.getD (off + j) undef) := by
  induction hf with
  | nil off => intros; exact ⟨(), trivial, fun j y h => by simp at h⟩
  | @cons f fs off sz α β E W F V ho hz hE he h ih =>
    intro H enc w base sp held fuel cs xs hm hsz
    rw [List.mapM_cons] at hm
    obtain ⟨x, hx, hm⟩ := Option.bind_eq_some_iff.1 hm
    obtain ⟨ys, hys, hxs⟩ := Option.bind_eq_some_iff.1 hm
    cases hxs
    simp only [List.map_cons, DataW.weightsEach, List.all_append, Bool.and_eq_true] at hsz
    obtain ⟨a, ha, hta⟩ := he hx hsz.1
    obtain ⟨b, hb, htb⟩ := ih hys hsz.2
    refine ⟨(a, b), ⟨ha, hb⟩, fun j y hj => ?_⟩
    rcases Nat.lt_or_ge j sz with hlt | hge
    · rw [List.getElem?_append_left (by rw [hE]; exact hlt)] at hj
      have := hta.2 j y hj
      rw [List.getD_eq_getElem?_getD, List.getElem?_take, ho, hz, if_pos hlt, List.getElem?_drop] at this
      rw [List.getD_eq_getElem?_getD]; exact this
    · rw [List.getElem?_append_right (by rw [hE]; exact hge), hE] at hj
      have := htb (j - sz) y hj
      rwa [show off + sz + (j - sz) = off + j by omega] at this

theorem Shape.struct {t : TypeId} {fs : Array Field} {β : Type} {F : β → List AV} {V : β → Prop} {n : Nat} (ht : S.P.underlying t = some (.struct fs)) (hn : S.P.cellsOf t = n) (hF : ∀ b, (F b).length = n) (hf : Fields S fs.toList 0 F V) :
    Shape S t (fun b => .agg (F b)) V := by
  intro H enc w base sp held fuel cs x h hsz
  cases fuel with
  | zero => simp [DataW.trod] at h
  | succ fuel =>
    have step : (if cs.length = S.P.cellsOf t then (fs.toList.mapM fun f => DataW.trod enc S.P w base sp held fuel f.type ((cs.drop f.offset).take (S.P.cellsOf f.type))).map (fun xs => ((DataW.agg (xs.map (·.1)) : DataW H), xs.flatMap (·.2))) else none) = some x →
        ∃ a, V a ∧ Tells S w (AV.agg (F a)).cells cs := by
      intro h
      split at h
      · rename_i hl
        obtain ⟨xs, hxs, rfl⟩ := Option.map_eq_some_iff.1 h
        simp only [DataW.weights, ht] at hsz
        obtain ⟨b, hb, hr⟩ := hf.open hxs hsz
        refine ⟨b, hb, by rw [hl, hn]; exact (hF b).symm, fun j y hj => ?_⟩
        have := hr j y hj
        rwa [Nat.zero_add] at this
      · cases h
    unfold DataW.trod at h
    rw [ht] at h
    split at h
    all_goals (rename_i heq; first | (cases h; done) | (exfalso; cases heq; done) | exact step h | (cases heq; exact step h))

/-- What is handed over, told value by value. -/
def Handed (S : Seat) (w : World) (xs : List AV) (vs : List Value) : Prop := vs.length = xs.length ∧ ∀ i x, xs[i]? = some x → Rel S [] (fun b => b < w.heap.size) w x (vs.getD i undef)

theorem Handed.nil (S : Seat) (w : World) : Handed S w [] [] := ⟨rfl, fun i x h => by simp at h⟩
theorem Handed.cons {w : World} {x : AV} {v : Value} {xs : List AV} {vs : List Value} (h : Rel S [] (fun b => b < w.heap.size) w x v) (k : Handed S w xs vs) : Handed S w (x :: xs) (v :: vs) :=
  ⟨by simp [k.1], fun i y hy => by
    cases i with
    | zero => simp only [List.getElem?_cons_zero, Option.some.injEq] at hy; subst hy; exact h
    | succ i => simpa using k.2 i y (by simpa using hy)⟩

/-- A value that is one cell. -/
theorem Shape.one {t : TypeId} {α : Type} {E : α → AV} {W : α → Prop} (he : Shape S t E W) (h1 : ∀ a, (E a).cells = [E a]) {H : Type} {enc : TypeId × Value → H} {w : World} {base : Nat} {sp : Nat → Bool} {held : Bool} {v : Value} {d : DataW H} {ps : List MemPlace}
    (h : DataW.Trod enc S.P w base sp held t v d ps) (hsz : (d.weights S.P t).all (· ≤ reachBytes) = true) (hv : ∀ cs, v ≠ .agg cs) : ∃ a, W a ∧ Rel S [] (fun b => b < w.heap.size) w (E a) v := by
  obtain ⟨fuel, hf⟩ := h
  obtain ⟨a, ha, ht⟩ := he hf hsz
  refine ⟨a, ha, ?_⟩
  have hc : v.cells = #[v] := by cases v <;> first | rfl | (exact absurd rfl (hv _))
  rw [hc] at ht
  have := ht.2 0 (E a) (by rw [h1]; rfl)
  simpa using this
/-- The call of a law that answers 'true'. -/
theorem law_calls {c : Nat} {xs : List AV} {b : Bool} (h : Fun S c xs (.bool b)) {w : World} {vs : List Value} (hv : Handed S w xs vs) (hg : GlOk S (fun b => b < w.heap.size) w) : Calls S.P (S.fn c) vs.toArray w fun e w' => e = .returned (.bool b) ∧ Below w.heap.size w w' := by
  have hs : Sim S [] (fun b => b < w.heap.size) (fun _ => False) w [] := ⟨rfl, fun id e he => by simp at he, fun id e g he => by simp at he, fun id id' e e' g g' he => by simp at he, fun b hb => by rcases hb with hb | hb; exact hb; exact hb.elim, fun _ _ hx => hx, hg⟩
  refine (h [] [] _ _ w vs.toArray hs ⟨by simpa using hv.1, fun i x hx => ?_⟩).mono ?_
  · have := hv.2 i x hx
    simpa [List.getD_eq_getElem?_getD, Array.getD_eq_getD_getElem?] using this
  · rintro e w' ⟨r, H', vv, m', I', rfl, ⟨rfl, rfl⟩, h3, h4, h5, h6, h7⟩
    cases h3
    exact ⟨rfl, h7.os, h7.tape, h7.output, h7.size, fun k hk => h7.keep k (.inl hk)⟩

/-- What was handed over reads as it did. -/
theorem handed_back {H : Type} {enc : TypeId × Value → H} {P : Program} (hl : laidOutB P = true) {W W' : World} (hb : Below W.heap.size W W') : ∀ {ts : List TypeId} {vs : List Value} {ds : List (DataW H)} {ps : List MemPlace},
    ts.all (fun t => P.readableRec t && decide (t < P.types.size)) = true → DataW.TrodAll enc P W 0 (fun _ => true) true ts vs ds ps → DataW.TrodAll enc P W' 0 (fun b => decide (b < W.heap.size)) true ts vs ds ps := by
  intro ts
  induction ts with
  | nil => intro vs ds ps _ h; cases vs <;> cases ds <;> simp [DataW.TrodAll] at h ⊢; exact h
  | cons t ts ih =>
    intro vs ds ps ht h
    simp only [List.all_cons, Bool.and_eq_true, decide_eq_true_eq] at ht
    obtain ⟨v, vs', d, ds', p, q, rfl, rfl, rfl, h1, h2⟩ := trodAll_cons h
    refine trodAll_cons_mk (Below.trod hl ht.1.1 ht.1.2 h1 hb ?_) (ih ht.2 h2)
    obtain ⟨n, hn⟩ := h1
    exact DataW.trod_lt n _ _ _ hn

end Go.Proofs.YtihhinbjhiankaaGreatDoor.Al

set_option linter.unusedSimpArgs false
set_option linter.unusedVariables false
/- PLAIN LAWS: rising lists of numbers. -/
namespace Go.Proofs.YtihhinbjhiankaaGreatDoor.Al

def Rises (l : List Int) : Prop := l.Pairwise (· < ·)

theorem rises_ext : ∀ {a b : List Int}, Rises a → Rises b → (∀ x, x ∈ a ↔ x ∈ b) → a = b
  | [], [], _, _, _ => rfl
  | [], y :: b, _, _, h => absurd ((h y).2 (by simp)) (by simp)
  | x :: a, [], _, _, h => absurd ((h x).1 (by simp)) (by simp)
  | x :: a, y :: b, ha, hb, h => by
    have ha' := List.pairwise_cons.1 ha
    have hb' := List.pairwise_cons.1 hb
    have hxy : x = y := by
      have h1 := (h x).1 (by simp)
      have h2 := (h y).2 (by simp)
      rcases List.mem_cons.1 h1 with e | e
      · exact e
      · rcases List.mem_cons.1 h2 with e2 | e2
        · exact e2.symm
        · have := hb'.1 x e; have := ha'.1 y e2; omega
    subst hxy
    rw [rises_ext ha'.2 hb'.2 fun z => ?_]
    constructor
    · intro hz
      rcases List.mem_cons.1 ((h z).1 (by simp [hz])) with e | e
      · have := ha'.1 z hz; omega
      · exact e
    · intro hz
      rcases List.mem_cons.1 ((h z).2 (by simp [hz])) with e | e
      · have := hb'.1 z hz; omega
      · exact e

/-- A number is put where it belongs, once. -/
def ins (x : Int) : List Int → List Int
  | [] => [x]
  | y :: l => if x < y then x :: y :: l else if x = y then y :: l else y :: ins x l

theorem mem_ins {x z : Int} : ∀ {l : List Int}, z ∈ ins x l ↔ z = x ∨ z ∈ l
  | [] => by simp [ins]
  | y :: l => by
    simp only [ins]
    split
    · simp
    · split
      · rename_i h; subst h; simp
      · simp only [List.mem_cons, mem_ins (l := l)]
        constructor
        · rintro (h | h | h) <;> simp [h]
        · rintro (h | h | h) <;> simp [h]

theorem rises_ins {x : Int} : ∀ {l : List Int}, Rises l → Rises (ins x l)
  | [], _ => List.pairwise_singleton _ _
  | y :: l, h => by
    have h' := List.pairwise_cons.1 h
    simp only [ins]
    split
    · rename_i hlt
      exact List.pairwise_cons.2 ⟨fun z hz => by
        rcases List.mem_cons.1 hz with e | e
        · omega
        · have := h'.1 z e; omega, h⟩
    · split
      · exact h
      · refine List.pairwise_cons.2 ⟨fun z hz => ?_, rises_ins h'.2⟩
        rcases mem_ins.1 hz with e | e
        · omega
        · exact h'.1 z e

/-- The numbers of a list, rising, each once. -/
def rise (l : List Int) : List Int := l.foldr ins []

theorem mem_rise {z : Int} : ∀ {l : List Int}, z ∈ rise l ↔ z ∈ l
  | [] => by simp [rise]
  | x :: l => by
    have ih := mem_rise (z := z) (l := l)
    simp only [rise, List.foldr_cons] at ih ⊢
    rw [mem_ins, ih]; simp

theorem rises_rise : ∀ (l : List Int), Rises (rise l)
  | [] => List.Pairwise.nil
  | _ :: l => rises_ins (rises_rise l)

theorem rise_eq {l r : List Int} (h : Rises r) (hm : ∀ x, x ∈ r ↔ x ∈ l) : r = rise l := rises_ext h (rises_rise l) fun x => by rw [mem_rise]; exact hm x
theorem rises_snoc {l : List Int} {x : Int} (h : Rises l) (hx : ∀ y ∈ l, y < x) : Rises (l ++ [x]) := by
  refine List.pairwise_append.2 ⟨h, List.pairwise_singleton _ _, fun a ha b hb => ?_⟩
  rw [List.mem_singleton] at hb; subst hb; exact hx a ha
end Go.Proofs.YtihhinbjhiankaaGreatDoor.Al

/- PLAIN LAWS: what is sorted and thinned rises. -/
namespace Go.Proofs.YtihhinbjhiankaaGreatDoor.Al

def sorted (l : List Int) : List Int := l.mergeSort fun x y => decide (x ≤ y)

theorem sorted_perm (l : List Int) : (sorted l).Perm l := List.mergeSort_perm l _
theorem sorted_length (l : List Int) : (sorted l).length = l.length := (sorted_perm l).length_eq
theorem mem_sorted {l : List Int} {x : Int} : x ∈ sorted l ↔ x ∈ l := (sorted_perm l).mem_iff
theorem sorted_le (l : List Int) : (sorted l).Pairwise (· ≤ ·) := by
  have := List.pairwise_mergeSort (le := fun x y : Int => decide (x ≤ y)) (fun a b c h1 h2 => by simp at *; omega) (fun a b => by simp; omega) l
  exact List.Pairwise.imp (fun h => by simpa using h) this

theorem compact_of_le {s : List Int} (hs : s.Pairwise (· ≤ ·)) : ∀ m, m ≤ s.length → Rises (Lib.compactUpTo s.toArray m) ∧ ∀ x, x ∈ Lib.compactUpTo s.toArray m ↔ ∃ j, ∃ h : j < s.length, j < m ∧ s[j] = x := by
  have hle : ∀ (i j : Nat) (hi : i < s.length) (hj : j < s.length), i ≤ j → s[i] ≤ s[j] := by
    intro i j hi hj hij
    rcases Nat.lt_or_eq_of_le hij with h | h
    · exact List.pairwise_iff_getElem.1 hs i j hi hj h
    · subst h; exact Int.le_refl _
  intro m
  induction m with
  | zero => intro _; exact ⟨by simp [Lib.compactUpTo, Rises], fun x => by simp [Lib.compactUpTo]⟩
  | succ m ih =>
    intro hm
    obtain ⟨h1, h2⟩ := ih (by omega)
    have hml : m < s.length := by omega
    have hg : s.toArray[m]! = s[m] := by simp [hml]
    rw [Lib.compactUpTo_succ]
    by_cases hk : Lib.keeps s.toArray m = true
    · rw [if_pos hk, hg]
      have hlt : ∀ y ∈ Lib.compactUpTo s.toArray m, y < s[m] := by
        intro y hy
        obtain ⟨j, hj, hjm, rfl⟩ := (h2 y).1 hy
        have hm1 : m - 1 < s.length := by omega
        have a := hle j (m - 1) hj hm1 (by omega)
        have b := hle (m - 1) m hm1 hml (by omega)
        have c : s[m] ≠ s[m - 1] := by
          simp only [Lib.keeps, decide_eq_true_eq] at hk
          rcases hk with hk | hk
          · omega
          · simpa [hml, hm1] using hk
        omega
      refine ⟨rises_snoc h1 hlt, fun x => ?_⟩
      rw [List.mem_append, h2]
      constructor
      · rintro (⟨j, hj, hjm, rfl⟩ | hx)
        · exact ⟨j, hj, by omega, rfl⟩
        · simp at hx; subst hx; exact ⟨m, hml, by omega, rfl⟩
      · rintro ⟨j, hj, hjm, rfl⟩
        rcases Nat.lt_or_ge j m with h | h
        · exact .inl ⟨j, hj, h, rfl⟩
        · have : j = m := by omega
          subst this; exact .inr (by simp)
    · rw [if_neg hk]
      simp only [Lib.keeps, decide_eq_true_eq, not_or, Classical.not_not] at hk
      have hm1 : m - 1 < s.length := by omega
      have he : s[m] = s[m - 1] := by simpa [hml, hm1] using hk.2
      refine ⟨by simpa using h1, fun x => ?_⟩
      rw [List.append_nil, h2]
      constructor
      · rintro ⟨j, hj, hjm, rfl⟩
        exact ⟨j, hj, by omega, rfl⟩
      · rintro ⟨j, hj, hjm, rfl⟩
        rcases Nat.lt_or_ge j m with h | h
        · exact ⟨j, hj, h, rfl⟩
        · have : j = m := by omega
          subst this; exact ⟨j - 1, hm1, by omega, he.symm⟩

theorem compact_sorted (l : List Int) : Lib.compact (sorted l) = rise l := by
  obtain ⟨h1, h2⟩ := compact_of_le (sorted_le l) (sorted l).length (Nat.le_refl _)
  refine rise_eq h1 fun x => ?_
  rw [← mem_sorted (l := l)]
  refine (h2 x).trans ⟨?_, fun hx => ?_⟩
  · rintro ⟨j, hj, _, rfl⟩; exact List.getElem_mem _
  · obtain ⟨j, hj, e⟩ := List.getElem_of_mem hx
    exact ⟨j, hj, hj, e⟩

end Go.Proofs.YtihhinbjhiankaaGreatDoor.Al

/- PLAIN LAWS: binary heaps in lists. -/
namespace Go.Proofs.YtihhinbjhiankaaGreatDoor.Al

end Go.Proofs.YtihhinbjhiankaaGreatDoor.Al

/- PLAIN LAWS: numbers that are kept as a heap, and which they are. -/
namespace Go.Proofs.YtihhinbjhiankaaGreatDoor.Al

end Go.Proofs.YtihhinbjhiankaaGreatDoor.Al

set_option linter.unusedSimpArgs false
set_option linter.unusedVariables false
namespace Go.Proofs.YtihhinbjhiankaaGreatDoor.Al

def Small {α : Type} (l : List α) : Prop := l.length ≤ 140737488355328
def Oct (l : List Int) : Prop := Small l ∧ ∀ x ∈ l, IntKind.u8.min ≤ x ∧ x ≤ IntKind.u8.max
def Nums (l : List Int) : Prop := Small l ∧ ∀ x ∈ l, IntKind.i64.min ≤ x ∧ x ≤ IntKind.i64.max
def In64 (n : Int) : Prop := IntKind.i64.min ≤ n ∧ n ≤ IntKind.i64.max
structure Leaf.Ok (l : Leaf) : Prop where
  enc : Oct l.enc
  cred : Oct l.cred
  parent : Oct l.parent
  source : In64 l.source
structure Inner.Ok (l : Inner) : Prop where
  enc : Oct l.enc
  hash : Oct l.hash
  unmerged : Nums l.unmerged
structure Node.Ok (n : Node) : Prop where
  leaf : n.leaf.Ok
  inner : n.inner.Ok
  kind : In64 n.kind
def Tree.Ok (t : List Node) : Prop := Small t ∧ ∀ n ∈ t, n.Ok
def Leaf.zero : Leaf := ⟨[], [], 0, []⟩
def Inner.zero : Inner := ⟨[], [], []⟩
def Node.zero : Node := ⟨0, .zero, .zero⟩
theorem Oct.nil : Oct [] := ⟨Nat.zero_le _, fun _ h => by simp at h⟩
theorem Nums.nil : Nums [] := ⟨Nat.zero_le _, fun _ h => by simp at h⟩
theorem In64.zero : In64 0 := ⟨by decide, by decide⟩
theorem Oct.len {l : List Int} (h : Oct l) : l.length ≤ 140737488355328 := h.1
theorem Nums.len {l : List Int} (h : Nums l) : l.length ≤ 140737488355328 := h.1
theorem Leaf.Ok.zero : Leaf.zero.Ok := ⟨.nil, .nil, .nil, .zero⟩
theorem Inner.Ok.zero : Inner.zero.Ok := ⟨.nil, .nil, .nil⟩
theorem Node.Ok.zero : Node.zero.Ok := ⟨.zero, .zero, .zero⟩
theorem Tree.Ok.nil : Tree.Ok [] := ⟨Nat.zero_le _, fun _ h => by simp at h⟩
theorem Tree.Ok.len {t : List Node} (h : Tree.Ok t) : t.length ≤ 140737488355328 := h.1
theorem Tree.Ok.at {t : List Node} (h : Tree.Ok t) {k : Nat} (hk : k < t.length) : (t[k]).Ok := h.2 _ (List.getElem_mem hk)

/-- What is wrong with a leaf. -/
def leafCheck (l : Leaf) : Int :=
  if l.enc.length = 0 then 5 else if l.enc.length > 200 ∨ l.cred.length > 200 ∨ l.parent.length > 200 then 4
  else if l.source < 1 ∨ l.source > 3 then 7 else if l.source ≠ 3 ∧ l.parent.length > 0 then 2 else 0
/-- What is wrong with an inner node. -/
def innerCheck (n : Inner) : Int :=
  if n.enc.length = 0 then 5 else if n.enc.length > 200 ∨ n.hash.length > 200 ∨ n.unmerged.length > 64 then 4
  else if ∃ i ∈ n.unmerged, i < 0 ∨ i > 63 then 3 else if rise n.unmerged ≠ n.unmerged then 8 else 0
/-- What is wrong with a node. -/
def nodeCheck (n : Node) : Int :=
  if n.kind < 0 ∨ n.kind > 2 then 7 else if n.kind ≠ 1 ∧ n.leaf ≠ .zero ∨ n.kind ≠ 2 ∧ n.inner ≠ .zero then 2
  else if n.kind = 1 then leafCheck n.leaf else if n.kind = 2 then innerCheck n.inner else 0

/-- Where the first one stands of which p is true, or -1. -/
def idxF {α : Type} (p : α → Bool) (l : List α) : Int := if l.any p then (l.findIdx p : Int) else -1
theorem idxF_ge {α : Type} (p : α → Bool) (l : List α) : decide (idxF p l ≥ 0) = l.any p := by
  unfold idxF
  split
  · rename_i h; rw [h]; simp
  · rename_i h; simp at h; simp; exact h
theorem findIdx_at {α : Type} {p : α → Bool} {l : List α} {k : Nat} (hk : k < l.length) (h : p l[k] = true) (hno : ∀ j (hj : j < k), p (l[j]'(by omega)) = false) : idxF p l = k := by
  have ha : l.any p = true := List.any_eq_true.2 ⟨l[k], List.getElem_mem hk, h⟩
  unfold idxF
  rw [if_pos ha]
  congr 1
  rw [List.findIdx_eq hk]
  exact ⟨h, fun j hj => hno j hj⟩
theorem idxF_none {α : Type} {p : α → Bool} {l : List α} (hno : ∀ j (hj : j < l.length), p l[j] = false) : idxF p l = -1 := by
  unfold idxF
  rw [if_neg]
  intro h
  obtain ⟨x, hx, hp⟩ := List.any_eq_true.1 h
  obtain ⟨j, hj, rfl⟩ := List.getElem_of_mem hx
  rw [hno j hj] at hp; cases hp

end Go.Proofs.YtihhinbjhiankaaGreatDoor.Al

set_option linter.unusedSimpArgs false
set_option linter.unusedVariables false
namespace Go.Proofs.YtihhinbjhiankaaGreatDoor.Al
open Go
variable {S : Seat} {m m0 : List ME} {I I0 X X0 : Nat → Prop} {w w0 : World} {H : List Entry}

/-- What is known of a thing is told in other words. -/
theorem Sim.retell (hs : Sim S m I X w H) {id : Nat} {e0 e1 : Entry} (hH : H[id]? = some e0) (hl : e1.live = e0.live) (hok : HOk S m I w id e1) : Sim S m I X w (H.set id e1) := by
  have hid := lt_of_get hH
  have live : ∀ {j : Nat} {e : Entry}, (H.set id e1)[j]? = some e → e.live = true → ∃ e', H[j]? = some e' ∧ e'.live = true := by
    intro j e hj hv
    by_cases h : j = id
    · subst h
      rw [List.getElem?_set_self hid] at hj; cases hj
      exact ⟨_, hH, by rw [← hl]; exact hv⟩
    · rw [List.getElem?_set_ne (Ne.symm h)] at hj; exact ⟨e, hj, hv⟩
  refine ⟨by simp [hs.len], fun j e hj => ?_, fun j e g hj hl hg hn => ?_, fun j j' e e' g g' hj hl hj' hl' hg hg' hn hn' hb => ?_, hs.lt, hs.disj, hs.gl⟩
  · by_cases h : j = id
    · subst h
      rw [List.getElem?_set_self hid] at hj; cases hj
      exact hok
    · rw [List.getElem?_set_ne (Ne.symm h)] at hj
      exact hs.hok j e hj
  · obtain ⟨e', h1, h2⟩ := live hj hl
    exact hs.sep j e' g h1 h2 hg hn
  · obtain ⟨e1, h1, h2⟩ := live hj hl
    obtain ⟨e2, h3, h4⟩ := live hj' hl'
    exact hs.inj j j' e1 e2 g g' h1 h2 h3 h4 hg hg' hn hn' hb
/-- A nil slice in a box may be told as an owned row. -/
theorem WP.adoptB {r : Option Nat} {N b : Nat} {ic : IC} {Q : Exit → St → Prop} {env : Env} (id k sz : Nat) {cs : List AV} (hH : H[id]? = some (.box cs)) (hk : cs[k]? = some (.list true []))
    (h : WP S r N b ic Q ⟨env, H.set id (.box (cs.set k (.own H.length 0 0 0))) ++ [.arr sz 0 []]⟩) : WP S r N b ic Q ⟨env, H⟩ := by
  refine WP.ghost ?_ h
  intro m I X w n0 a hs hfr
  have hid := lt_of_get hH
  have hle := MLe.push m ⟨0, 0, sz, 0, true⟩
  have hget : (m ++ [(⟨0, 0, sz, 0, true⟩ : ME)])[H.length]? = some ⟨0, 0, sz, 0, true⟩ := by
    rw [← hs.len, List.getElem?_append_right (Nat.le_refl _), Nat.sub_self]; rfl
  have hp : Sim S (m ++ [⟨0, 0, sz, 0, true⟩]) I X w (H ++ [.arr sz 0 []]) := hs.push (fun _ _ => rfl) (Nat.le_refl _) (by simp) ⟨_, hget, rfl, rfl, by simp, by simp, by simp, .inl ⟨rfl, rfl⟩⟩
  have hH2 : (H ++ [Entry.arr sz 0 []])[id]? = some (.box cs) := by rw [List.getElem?_append_left hid]; exact hH
  refine ⟨m ++ [⟨0, 0, sz, 0, true⟩], I, hle, fun _ hb => hb, ?_, hfr.mono hle (fun _ hb => hb) (.refl I X w)⟩
  have := hp.retell (e1 := .box (cs.set k (.own H.length 0 0 0))) hH2 rfl ?_
  · rwa [List.set_append_left _ _ hid] at this
  · obtain ⟨e, arr, T, h1, h2, h3, h4, h5⟩ := hp.hok id _ hH2
    refine ⟨e, arr, T, h1, h2, h3, h4, by rw [List.length_set]; exact h5.1, fun i x hx => ?_⟩
    by_cases hi : i = k
    · subst hi
      rw [List.getElem?_set_self (lt_of_get hk)] at hx; cases hx
      have this := h5.2 i _ hk
      generalize arr.getD i undef = v at this
      cases this with
      | empty _ a c ht hc =>
        have := ht rfl
        subst this
        exact .own _ _ _ _ _ _ hget (Nat.le_refl _) (fun _ => ⟨Nat.le_refl _, by simp, .inl ⟨rfl, rfl, a, rfl⟩⟩)
      | list _ _ b off n c sz rd hn hnc hcm ht hI hsz hc hr =>
        simp at hn; subst hn
        have := ht rfl
        subst this
        exact .own _ _ _ _ _ _ hget (Nat.le_refl _) (fun _ => ⟨Nat.le_refl _, by simp, .inl ⟨rfl, rfl, _, rfl⟩⟩)
    · rw [List.getElem?_set_ne (Ne.symm hi)] at hx
      exact h5.2 i x hx

/-- What a box holds, frozen rows told by what they hold. -/
theorem WP.derefB {r : Option Nat} {N b : Nat} {ic : IC} {Q : Exit → St → Prop} {env : Env} (id k : Nat) {cs : List AV} (hH : H[id]? = some (.box cs))
    (h : WP S r N b ic Q ⟨env, H.set id (.box (cs.map (derefN H k)))⟩) : WP S r N b ic Q ⟨env, H⟩ := by
  refine WP.ghost ?_ h
  intro m I X w n0 a hs hfr
  refine ⟨m, I, .refl m, fun _ hb => hb, hs.retell (e1 := .box (cs.map (derefN H k))) hH rfl ?_, hfr⟩
  obtain ⟨e, arr, T, h1, h2, h3, h4, h5⟩ := hs.hok id _ hH
  refine ⟨e, arr, T, h1, h2, h3, h4, by rw [List.length_map]; exact h5.1, fun i x hx => ?_⟩
  rw [List.getElem?_map] at hx
  cases hc : cs[i]? with
  | none => rw [hc] at hx; cases hx
  | some y => rw [hc] at hx; cases hx; exact derefN_sound hs k (h5.2 i y hc)

end Go.Proofs.YtihhinbjhiankaaGreatDoor.Al

set_option linter.unusedSimpArgs false
set_option linter.unusedVariables false
namespace Go.Proofs.YtihhinbjhiankaaGreatDoor.Al
open Go
variable {S : Seat}

/-- An iterator yields some rows of values, one by one, to whatever loop. -/
def GivesL (S : Seat) (c : Nat) (cap : List AV) (xs : List (List AV)) : Prop :=
  ∀ (id : Nat) (H0 : List Entry) (J : Nat → List Entry → Prop) (Jx : List Entry → Prop), J 0 H0 →
    (∀ k (hk : k < xs.length) H1, J k H1 → AYield S id xs[k] H1 (fun r H2 => (r = .bool true ∧ J (k + 1) H2) ∨ (r = .bool false ∧ Jx H2))) →
    ACall S c ([.func (.y id) [] []] ++ cap) H0 (fun _ H' => J xs.length H' ∨ Jx H')

theorem GivesL.of {c : Nat} {cap xs : List AV} (h : Gives S c cap xs) : GivesL S c cap (xs.map fun x => [x]) := by
  intro id H0 J Jx h0 hr
  refine (h id H0 J Jx h0 fun k hk H1 hj => ?_).mono fun r H' hh => by simpa using hh
  have := hr k (by simpa using hk) H1 hj
  rwa [List.getElem_map] at this

/-- What a round leaves: what the caller made, H2; behind it nothing is turned. -/
def RoundQ (G : Nat → List Entry) (P : Nat → Prop) (n : Nat) (Q : Exit → St → Prop) (env : Env) (k : Nat) (T : List Entry) (e : Exit) (st : St) : Prop :=
  ∃ H2 T2, st.H = H2 ++ T2 ∧ H2.length = n ∧ (∀ i, i < T.length → T2[i]? = T[i]?) ∧ match e with
    | .normal => P (k + 1) ∧ H2 = G (k + 1)
    | e => ∃ j, jumped e = some j ∧ ∀ T3, Q j.leave ⟨env, H2 ++ T3⟩

/-- A loop over an iterator. G k: what the caller made, behind k rounds; what lies behind that is the loop's. The slots are those of the loop's start in each round. -/
theorem WP.rangeL {N b : Nat} {Q : Exit → St → Prop} {H : List Entry} {env : Env} {g : Opd} {ps : List Nat} {assign body : IC} {c : Nat} {cap : List AV} (xs : List (List AV)) (hg : g.ev env = .func (.f c) [] cap) (hcb : Callable S c) (hG : GivesL S c cap xs)
    (hps : ∀ x ∈ xs, x.length = ps.length) (G : Nat → List Entry) (P : Nat → Prop) (hlen : ∀ k, (G k).length = H.length) (hP : P 0) (h0 : G 0 = H)
    (hround : ∀ k (hk : k < xs.length), P k → ∀ (l : Nat) (T : List Entry) (b : Nat), b = H.length + T.length → WP S (some l) N b assign (fun e st => e = .normal ∧ ∃ X, st.H = G k ++ (T ++ X) ∧
      ∀ T', T'.length = T.length → WP S (some l) N b body (RoundQ G P H.length Q env k T') ⟨st.env, G k ++ (T' ++ X)⟩) ⟨setPs env ps xs[k], G k ++ T⟩)
    (hend : P xs.length → ∀ T, Q .normal ⟨env, G xs.length ++ T⟩) : WP S none N b (.rangeFunc g ps assign body) Q ⟨env, H⟩ := by
  refine WP.range (first := []) hg hcb fun L hy => ?_
  have getT : ∀ (A T : List Entry), A.length = H.length → (A ++ T)[H.length]? = T[0]? := fun A T h => by
    rw [List.getElem?_append_right (by omega), h, Nat.sub_self]
  have setT : ∀ (A T : List Entry) (x : Entry), A.length = H.length → (A ++ T).set H.length x = A ++ T.set 0 x := fun A T x h => by
    rw [List.set_append_right _ _ (by omega), h, Nat.sub_self]
  refine (hG H.length _ (fun k H1 => P k ∧ ∃ T, H1 = G k ++ T ∧ T[0]? = some (L .ready)) (fun H1 => ∃ j H2 T, H1 = H2 ++ T ∧ H2.length = H.length ∧ T[0]? = some (L (.done j)) ∧ ∀ T3, Q j.leave ⟨env, H2 ++ T3⟩) ⟨hP, [L .ready], by rw [h0], rfl⟩ ?_).mono ?_
  · rintro k hk H1 ⟨hp, T, rfl, hT⟩
    have hT0 : 0 < T.length := lt_of_get hT
    refine hy _ _ _ ⟨by rw [getT _ _ (hlen k)]; exact hT, hps _ (List.getElem_mem hk), fun l => ?_⟩
    refine WP.mono (hround k hk hp l T _ (by simp [hlen])) ?_
    rintro e st ⟨rfl, X, hH, hbody⟩
    have hTX : (T ++ X)[0]? = T[0]? := List.getElem?_append_left hT0
    have hTS : ∀ x, (T ++ X).set 0 x = T.set 0 x ++ X := fun x => by rw [List.set_append_left _ _ hT0]
    refine ⟨rfl, by rw [hH, getT _ _ (hlen k), hTX]; exact hT, ?_⟩
    rw [hH, setT _ _ _ (hlen k), hTS]
    have hb := hbody (T.set 0 (L .busy)) (by simp)
    refine WP.mono hb ?_
    rintro e' st' ⟨H2, T2, h1, h2, h3, h4⟩
    have hbz : T2[0]? = some (L .busy) := by
      rw [h3 0 (by simpa using hT0), List.getElem?_set_self hT0]
    refine ⟨by rw [h1, getT _ _ h2]; exact hbz, ?_⟩
    have hl2 := lt_of_get hbz
    cases e' with
    | normal =>
      obtain ⟨h5, rfl⟩ := h4
      exact .inl ⟨rfl, h5, T2.set 0 (L .ready), by rw [h1, setT _ _ _ h2], List.getElem?_set_self hl2⟩
    | _ =>
      obtain ⟨j, h5, h6⟩ := h4
      exact ⟨j, h5, .inr ⟨rfl, j, H2, T2.set 0 (L (.done j)), by rw [h1, setT _ _ _ h2], h2, List.getElem?_set_self hl2, h6⟩⟩
  · rintro r H' (⟨hp, T, rfl, hT⟩ | ⟨j, H2, T, rfl, h2, hT, hq⟩)
    · refine .inl ⟨by rw [getT _ _ (hlen _)]; exact hT, ?_⟩
      rw [setT _ _ _ (hlen _)]
      exact hend hp _
    · refine .inr ⟨j, by rw [getT _ _ h2]; exact hT, ?_⟩
      rw [setT _ _ _ h2]
      exact hq _

end Go.Proofs.YtihhinbjhiankaaGreatDoor.Al
