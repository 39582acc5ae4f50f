/-
  JOINED: D1, D2, D3, D4, D5
-/
import Derived.Test.YtihhinbjhiankaaGreatDoorAlC
import Derived.Shelf.Sort.Plain
import Derived.Shelf.Slices.In.SortNone
import Derived.Shelf.Slices.CompactI
set_option linter.unusedSimpArgs false
set_option linter.unusedVariables false
/- CLOSED CALLS: a call whose arguments name nothing that the caller made may be looked at in an empty heap. -/
namespace Go.Proofs.YtihhinbjhiankaaGreatDoor.Al
open Go
variable {S : Seat} {m m0 : List ME} {I I0 X X0 : Nat → Prop} {w w0 : World} {H : List Entry}

/-- All that the caller made is hidden. -/
theorem hide_sound (hs : Sim S m I X w H) : Sim S [] I (fun b => X b ∨ Lives m H b) w [] := by
  refine ⟨rfl, fun id e he => by simp at he, fun id e g he => by simp at he, fun id id' e e' g g' he => by simp at he, fun b hb => ?_, fun b hi hx => ?_, hs.gl⟩
  · rcases hb with hb | hb | ⟨id, e, g, he, hl, hg, hn, rfl⟩
    · exact hs.lt b (.inl hb)
    · exact hs.lt b (.inr hb)
    · exact hs.blk_lt he hl hg hn
  · rcases hx with hx | ⟨id, e, g, he, hl, hg, hn, rfl⟩
    · exact hs.disj b hi hx
    · exact (hs.sep id e g he hl hg hn).1 hi

/-- What the caller made is as it was. -/
theorem unhide_sound {I' : Nat → Prop} {w' : World} {m' : List ME} {H' : List Entry} (hs : Sim S m I X w H) (hs' : Sim S m' I' (fun b => X b ∨ Lives m H b) w' H') (hI : ∀ b, I b → I' b) (hx : Ext I (fun b => X b ∨ Lives m H b) w w') : Sim S m I' X w' H := by
  refine ⟨hs.len, fun id e he => ?_, fun id e g he hl hg hn => ?_, hs.inj, fun b hb => ?_, fun b hi hb => hs'.disj b hi (.inl hb), hs'.gl⟩
  · exact (hs.hok id e he).keep (.refl m) hI (fun b hb => hx.keep b (.inl hb)) rfl (fun g hg hn hl => hx.keep _ (.inr (.inr ⟨id, e, g, he, hl, hg, hn, rfl⟩)))
  · exact ⟨fun hi => hs'.disj _ hi (.inr ⟨id, e, g, he, hl, hg, hn, rfl⟩), (hs.sep id e g he hl hg hn).2⟩
  · rcases hb with hb | hb
    · exact hs'.lt b (.inl hb)
    · exact hs'.lt b (.inr (.inl hb))

theorem Rels.closed {args : List AV} {vs : Array Value} (hv : Rels S m I w args vs) (ha : ∀ x ∈ args, Idb 0 x) : Rels S [] I w args vs :=
  ⟨hv.1, fun i x hx => by have := (hv.2 i x hx).take (ha x (List.mem_of_getElem? hx)); rwa [List.take_zero] at this⟩

theorem MLe.nil (m : List ME) : MLe [] m := fun id e he => by simp at he

theorem Fun.zero {c : Nat} {args : List AV} {r : AV} (ha : ∀ x ∈ args, Idb 0 x) (hr : Idb 0 r) (h : ACall S c args [] fun r' _ => r' = r) : Fun S c args r := by
  intro H m I X w vs hs hv
  refine (h [] I _ w vs (hide_sound hs) (hv.closed ha)).mono ?_
  rintro e w' ⟨r', H', vv, m', I', h1, rfl, h3, h4, h5, h6, h7⟩
  refine ⟨_, _, vv, m, I', h1, ⟨rfl, rfl⟩, ?_, unhide_sound hs h4 h6 h7, .refl m, h6, ⟨h7.os, h7.tape, h7.output, h7.size, fun b hb => h7.keep b (hb.imp id .inl)⟩⟩
  have := h3.take hr
  rw [List.take_zero] at this
  exact this.mono (MLe.nil m) (fun _ hb => hb) (fun _ _ => rfl)

/-- A function that hands over a row of its own, looked at in an empty heap. -/
theorem FunOwn.zero {c : Nat} {args : List AV} {sz : Nat} {xs : List AV} (ha : ∀ x ∈ args, Idb 0 x) (hx : ∀ x ∈ xs, ∀ y ∈ x.cells, Idb 0 y) (h : ACall S c args [] fun r H' => r = .own 0 0 0 xs.length ∧ H' = [.arr sz 0 xs]) : FunOwn S c args sz xs := by
  intro H m I X w vs hs hv
  refine (h [] I _ w vs (hide_sound hs) (hv.closed ha)).mono ?_
  rintro e w' ⟨r', H', vv, m', I', h1, ⟨rfl, rfl⟩, h3, h4, h5, h6, h7⟩
  have hun := unhide_sound hs h4 h6 h7
  obtain ⟨g, hg, r1, r0, r2, r3, r4, r5⟩ := h4.hok 0 (.arr sz 0 xs) rfl
  have hsep := h4.sep 0 (.arr sz 0 xs) g rfl rfl hg
  have hmg : (m ++ [g])[H.length]? = some g := by rw [← hs.len, List.getElem?_append_right (Nat.le_refl _), Nat.sub_self]; rfl
  refine ⟨_, _, vv, m ++ [g], I', h1, ⟨rfl, rfl⟩, ?_, hun.add ?_ ?_, MLe.push m g, h6, ⟨h7.os, h7.tape, h7.output, h7.size, fun b hb => h7.keep b (hb.imp id .inl)⟩⟩
  · cases h3 with
    | own _ _ _ _ e2 _ he2 hver hrel =>
      rw [hg] at he2; cases he2
      exact .own _ _ _ _ g _ hmg hver hrel
  · refine ⟨g, hmg, r1, r0, r2, r3, r4, ?_⟩
    rcases r5 with r5 | ⟨r5, arr, T, ha, hsz, hc⟩
    · exact .inl r5
    · refine .inr ⟨r5, arr, T, ha, hsz, fun i x hi j y hy => ?_⟩
      have := (hc i x hi j y hy).take (hx x (List.mem_of_getElem? hi) y (List.mem_of_getElem? hy))
      rw [List.take_zero] at this
      exact this.mono (MLe.nil _) (fun _ hb => hb) (fun _ _ => rfl)
  · intro hn
    obtain ⟨n1, n2⟩ := hsep hn
    exact ⟨n1, fun hx => n2 (.inl hx), fun hl => n2 (.inr hl)⟩

theorem fresh_zero : fresh 0 = all := by funext i; simp [fresh, all]

/-- No list within is longer than memory: k deep. -/
def bd : Nat → AV → Prop
  | 0, _ => True
  | k + 1, v => match v with
    | .list _ xs => xs.length ≤ 9223372036854775807 ∧ ∀ x ∈ xs, bd k x
    | .agg cs => ∀ x ∈ cs, bd k x
    | _ => True

theorem bd_cells {k : Nat} {x : AV} (h : ∀ y ∈ x.cells, bd (k + 1) y) : bd (k + 1) x := by
  cases x with
  | agg cs =>
    have key : ∀ (k : Nat) (y : AV), bd (k + 1) y → bd k y := by
      intro k
      induction k with
      | zero => intros; trivial
      | succ k ih =>
        intro y hy
        cases y with
        | list t xs => exact ⟨hy.1, fun x hx => ih x (hy.2 x hx)⟩
        | agg cs => exact fun x hx => ih x (hy x hx)
        | _ => trivial
    exact fun y hy => key k y (h y hy)
  | _ => exact h _ (by simp [AV.cells])

theorem Rel.bd {x : AV} {v : Value} (h : Rel S m I w x v) : ∀ k, bd k x := by
  induction h with
  | empty => intro k; cases k <;> simp [Al.bd]
  | list t xs b off n c sz rd hn hnc hcm ht hI hsz hc hr ih =>
    intro k
    cases k with
    | zero => trivial
    | succ k =>
      refine ⟨by omega, fun x hx => ?_⟩
      cases k with
      | zero => trivial
      | succ k =>
        refine bd_cells fun y hy => ?_
        obtain ⟨i, hi⟩ := List.getElem?_of_mem hx
        obtain ⟨j, hj⟩ := List.getElem?_of_mem hy
        exact ih i x hi j y hj (k + 1)
  | agg cs vs hs h ih =>
    intro k
    cases k with
    | zero => trivial
    | succ k =>
      intro x hx
      obtain ⟨i, hi⟩ := List.getElem?_of_mem hx
      exact ih i x hi k
  | _ => intro k; cases k <;> trivial

theorem ACall.bd {c : Nat} {args : List AV} {R : AV → List Entry → Prop} (h : (∀ x ∈ args, ∀ k, Al.bd k x) → ACall S c args H R) : ACall S c args H R := by
  intro m I X w vs hs hv
  refine h (fun x hx k => ?_) m I X w vs hs hv
  obtain ⟨i, hi⟩ := List.getElem?_of_mem hx
  exact (hv.2 i _ hi).bd k

theorem Fun.bd {c : Nat} {args : List AV} {r : AV} (h : (∀ x ∈ args, ∀ k, Al.bd k x) → Fun S c args r) : Fun S c args r := fun H => ACall.bd fun hb => h hb H
theorem FunOwn.bd {c : Nat} {args : List AV} {sz : Nat} {xs : List AV} (h : (∀ x ∈ args, ∀ k, Al.bd k x) → FunOwn S c args sz xs) : FunOwn S c args sz xs := fun H => ACall.bd fun hb => h hb H

/-- A function of closed values, out of its body. -/
theorem Fun.of0 {c : Nat} {f : IFn} (ht : trFn S c = some f) {args : List AV} {r : AV} (hn : args.length ≤ f.N) (ha : ∀ x ∈ args, Idb 0 x) (hr : Idb 0 r) (k : Nat)
    (h : wpc S [] none f.N 0 f.body (leaves f.res fun r' H' => canon H' k r' = r) ⟨envL (args.zipIdx.map fun p => (p.2, p.1)), []⟩) : Fun S c args r := by
  refine Fun.zero ha hr (ACall.out k (R := fun r' H' => canon H' k r' = r) (ACall.of_wp ht hn (wpc_sound ?_)) ?_)
  · rw [start_env]; exact h
  · intro r' H' h1
    simp only [List.length_nil, fresh_zero]
    have h2 : derefN (freezeP all H') k r' = r := h1
    exact ⟨by simp, by rw [h2]; exact hr, h2⟩

theorem Fun.of0R (T : List (Reg S)) {c : Nat} {f : IFn} (ht : trFn S c = some f) {args : List AV} {r : AV} (hn : args.length ≤ f.N) (ha : ∀ x ∈ args, Idb 0 x) (hr : Idb 0 r) (k : Nat)
    (h : wpc S T none f.N 0 f.body (leaves f.res fun r' H' => canon H' k r' = r) ⟨envL (args.zipIdx.map fun p => (p.2, p.1)), []⟩) : Fun S c args r := by
  refine Fun.zero ha hr (ACall.out k (R := fun r' H' => canon H' k r' = r) (ACall.of_wp ht hn (wpc_soundR T ?_)) ?_)
  · rw [start_env]; exact h
  · intro r' H' h1
    simp only [List.length_nil, fresh_zero]
    have h2 : derefN (freezeP all H') k r' = r := h1
    exact ⟨by simp, by rw [h2]; exact hr, h2⟩

theorem FunOwn.of0 {c : Nat} {f : IFn} (ht : trFn S c = some f) {args : List AV} {sz : Nat} {xs : List AV} (hn : args.length ≤ f.N) (ha : ∀ x ∈ args, Idb 0 x) (hx : ∀ x ∈ xs, ∀ y ∈ x.cells, Idb 0 y)
    (h : wpc S [] none f.N 0 f.body (leaves f.res fun r H' => ∃ id ver, r = .own id ver 0 xs.length ∧ H'[id]? = some (.arr sz ver xs)) ⟨envL (args.zipIdx.map fun p => (p.2, p.1)), []⟩) : FunOwn S c args sz xs := by
  refine FunOwn.zero ha hx (ACall.outOwn 0 (R := fun r H' => ∃ id ver, r = .own id ver 0 xs.length ∧ H'[id]? = some (.arr sz ver xs)) (ACall.of_wp ht hn (wpc_sound ?_)) ?_)
  · rw [start_env]; exact h
  · rintro r H' ⟨id, ver, rfl, h2⟩
    have hm : ∀ G : List Entry, xs.map (derefN G 0) = xs := fun G => by
      have : derefN G 0 = fun x => x := by funext x; rfl
      rw [this]; simp
    exact ⟨by simp, id, ver, sz, xs, by simp, Nat.zero_le _, h2, fun x hx' y hy => hx x hx' y hy, by simp, by rw [hm]; rfl⟩

theorem FunOwn.of0R (T : List (Reg S)) {c : Nat} {f : IFn} (ht : trFn S c = some f) {args : List AV} {sz : Nat} {xs : List AV} (hn : args.length ≤ f.N) (ha : ∀ x ∈ args, Idb 0 x) (hx : ∀ x ∈ xs, ∀ y ∈ x.cells, Idb 0 y)
    (h : wpc S T none f.N 0 f.body (leaves f.res fun r H' => ∃ id ver, r = .own id ver 0 xs.length ∧ H'[id]? = some (.arr sz ver xs)) ⟨envL (args.zipIdx.map fun p => (p.2, p.1)), []⟩) : FunOwn S c args sz xs := by
  refine FunOwn.zero ha hx (ACall.outOwn 0 (R := fun r H' => ∃ id ver, r = .own id ver 0 xs.length ∧ H'[id]? = some (.arr sz ver xs)) (ACall.of_wp ht hn (wpc_soundR T ?_)) ?_)
  · rw [start_env]; exact h
  · rintro r H' ⟨id, ver, rfl, h2⟩
    have hm : ∀ G : List Entry, xs.map (derefN G 0) = xs := fun G => by
      have : derefN G 0 = fun x => x := by funext x; rfl
      rw [this]; simp
    exact ⟨by simp, id, ver, sz, xs, by simp, Nat.zero_le _, h2, fun x hx' y hy => hx x hx' y hy, by simp, by rw [hm]; rfl⟩

/-! ### Calls within a body -/
theorem Callee.f {c : Nat} {f : IFn} {args : List AV} {r : AV} {K : AV → List Entry → Prop} (ht : trFn S c = some f) (h : Fun S c args r) (k : K r H) : Callee S (.func (.f c) [] []) args H K :=
  Callee.plain (Callable.of ht) (h H) (by rintro _ _ ⟨rfl, rfl⟩; exact k)
theorem Callee.own {c : Nat} {f : IFn} {args : List AV} {sz : Nat} {xs : List AV} {K : AV → List Entry → Prop} (ht : trFn S c = some f) (h : FunOwn S c args sz xs) (k : K (.own H.length 0 0 xs.length) (H ++ [.arr sz 0 xs])) : Callee S (.func (.f c) [] []) args H K :=
  Callee.plain (Callable.of ht) (h H) (by rintro _ _ ⟨rfl, rfl⟩; exact k)
/-- A call to which the caller's own rows are shown. -/
theorem Callee.lend {c : Nat} {f : IFn} {args : List AV} {r : AV} {K : AV → List Entry → Prop} (n : Nat) (ht : trFn S c = some f) (h : Fun S c (args.map (canon H n)) r) (hp : Plain r) (k : K r H) : Callee S (.func (.f c) [] []) args H K :=
  Callee.plain (Callable.of ht) (ACall.lend n h hp) (by rintro _ _ ⟨rfl, rfl⟩; exact k)
/-- A closure. -/
theorem Callee.c {c : Nat} {f : IFn} {first captured args : List AV} {r : AV} {K : AV → List Entry → Prop} (ht : trFn S c = some f) (h : Fun S c (first ++ args ++ captured) r) (k : K r H) : Callee S (.func (.f c) first captured) args H K :=
  Callee.fn (Callable.of ht) (h H) (by rintro _ _ ⟨rfl, rfl⟩; exact k)

/-! ### A box that is written no more -/
theorem Sim.sealB (hs : Sim S m I X w H) {id : Nat} {cs : List AV} {e : ME} (hH : H[id]? = some (.box cs)) (h1 : m[id]? = some e) :
    Sim S m (fun b => I b ∨ b = e.blk) X w (H.set id .dead) ∧ ∃ rd : Nat → Value, (∀ j y, cs[j]? = some y → w.cell? ⟨e.blk, 0 + j, none⟩ = some (rd j)) ∧ ∀ j y, cs[j]? = some y → Rel S m (fun b => I b ∨ b = e.blk) w y (rd j) := by
  obtain ⟨e', arr, T, h1', h2, h3, h4, h5⟩ := hs.hok id _ hH
  rw [h1] at h1'; cases h1'
  have hlt := heap_lt h4
  have hsep := hs.sep id _ e hH rfl h1 h3
  have hget : ∀ {j : Nat} {x : Entry}, (H.set id .dead)[j]? = some x → x.live = true → j ≠ id ∧ H[j]? = some x := by
    intro j x hj hl
    by_cases h : j = id
    · subst h
      rw [List.getElem?_set_self (lt_of_get hH)] at hj
      cases hj; cases hl
    · rw [List.getElem?_set_ne (Ne.symm h)] at hj; exact ⟨h, hj⟩
  refine ⟨⟨by simp [hs.len], fun j x hj => ?_, fun j x g hj hl hg hn => ?_, fun j j' x x' g g' hj hl hj' hl' hg hg' hn hn' hb => ?_, fun b hb => ?_, fun b hi hx => ?_, hs.gl.mono (fun _ hb => .inl hb) fun _ _ => rfl⟩, fun j => arr.getD j undef, fun j y hy => ?_, fun j y hy => ?_⟩
  · by_cases h : j = id
    · subst h
      rw [List.getElem?_set_self (lt_of_get hH)] at hj
      cases hj; trivial
    · rw [List.getElem?_set_ne (Ne.symm h)] at hj
      exact (hs.hok j x hj).keep (.refl m) (fun _ hb => .inl hb) (fun _ _ => rfl) rfl (fun _ _ _ _ => rfl)
  · obtain ⟨hne, hj'⟩ := hget hj hl
    refine ⟨?_, (hs.sep j x g hj' hl hg hn).2⟩
    rintro (hi | hb)
    · exact (hs.sep j x g hj' hl hg hn).1 hi
    · exact hne (hs.inj j id x _ g e hj' hl hH rfl hg h1 hn h3 hb)
  · exact hs.inj j j' x x' g g' (hget hj hl).2 hl (hget hj' hl').2 hl' hg hg' hn hn' hb
  · rcases hb with (hb | rfl) | hb
    · exact hs.lt b (.inl hb)
    · exact hlt
    · exact hs.lt b (.inr hb)
  · rcases hi with hi | rfl
    · exact hs.disj b hi hx
    · exact hsep.2 hx
  · have hj : j < arr.size := by rw [h5.1]; exact lt_of_get hy
    simp [World.cell?, h4, hj]
  · exact (h5.2 j y hy).mono (.refl m) (fun _ hb => .inl hb) (fun _ _ => rfl)

/-- A box that is written no more is told by what it holds. -/
theorem WP.sealB {r : Option Nat} {N b : Nat} {ic : IC} {Q : Exit → St → Prop} {env : Env} (d id : Nat) {cs : List AV} (hd : env d = .ptr id 0) (hH : H[id]? = some (.box cs))
    (h : WP S r N b ic Q ⟨upd env d (.iptr cs 0), H.set id .dead⟩) : WP S r N b ic Q ⟨env, H⟩ := by
  refine WP.ghost ?_ h
  intro m I X w n0 a hs hfr
  have hrel : Rel S m I w (env d) (a.tmps.getD d undef) := hfr.env d
  rw [hd] at hrel
  generalize hv : a.tmps.getD d undef = v at hrel
  cases hrel with
  | ptr _ _ e _ he h0 =>
    obtain ⟨e', arr, T, h1, h2, h3, h4, h5⟩ := hs.hok id _ hH
    rw [he] at h1; cases h1
    obtain ⟨hs', rd, hc, hr⟩ := hs.sealB hH he
    have := h0 h2
    subst this
    refine ⟨m, _, .refl m, fun _ hb => .inl hb, hs', (hfr.mono (.refl m) (fun _ hb => .inl hb) (.refl I X w)).upd_rel ?_⟩
    rw [hv]
    have := Rel.iptr (S := S) (m := m) (I := fun b => I b ∨ b = e.blk) (w := w) cs 0 e.blk 0 rd (.inr rfl) hc hr
    exact this

end Go.Proofs.YtihhinbjhiankaaGreatDoor.Al

/- ROWS OF ONE KIND: elements that are told by Lean values; what the operations answer of such rows. -/
namespace Go.Proofs.YtihhinbjhiankaaGreatDoor.Al
open Go

structure Enc (α : Type) where
  f : α → AV
  sz : Nat
  pos : 0 < sz
  cells : ∀ a, (f a).cells.length = sz
  one : ∀ a H, (f a).cells.all (AV.oneIn H) = true
  idb : ∀ a, ∀ y ∈ (f a).cells, Idb 0 y
  norm : ∀ H k a, derefN H k (f a) = f a

variable {α : Type} (E : Enc α)

def Enc.row (l : List α) : AV := .list false (l.map E.f)

theorem Enc.idbE (a : α) : Idb 0 (E.f a) := by
  have h := E.idb a
  generalize E.f a = x at h
  cases x with
  | agg cs => exact .agg cs h
  | _ => exact h _ (by simp [AV.cells])

theorem Enc.idb_row (n : Nat) (l : List α) : Idb n (E.row l) := by
  refine .list _ _ fun x hx y hy => ?_
  obtain ⟨z, _, rfl⟩ := List.mem_map.1 hx
  exact (E.idb z y hy).more (Nat.zero_le _)
theorem Enc.entB (n ver sz : Nat) (l : List α) : EntB n (.arr sz ver (l.map E.f)) := by
  intro x hx y hy
  obtain ⟨z, _, rfl⟩ := List.mem_map.1 hx
  exact (E.idb z y hy).more (Nat.zero_le _)
theorem Enc.xs_idb (l : List α) : ∀ x ∈ l.map E.f, ∀ y ∈ x.cells, Idb 0 y := by
  intro x hx y hy
  obtain ⟨z, _, rfl⟩ := List.mem_map.1 hx
  exact E.idb z y hy
theorem Enc.szOk (H : List Entry) (l : List α) : szOk H E.sz (l.map E.f) = true := by
  simp only [Al.szOk, List.all_map, List.all_eq_true, Function.comp, Bool.and_eq_true, beq_iff_eq]
  intro x _
  exact ⟨E.cells x, by have := E.one x H; rw [List.all_eq_true] at this; exact this⟩
theorem Enc.szOk1 (H : List Entry) (x : α) : Al.szOk H E.sz [E.f x] = true := E.szOk H [x]
theorem Enc.lenOk (l : List α) : lenOk E.sz (l.map E.f) = true := by
  simp only [Al.lenOk, List.all_map, List.all_eq_true, Function.comp, beq_iff_eq]
  intro x _; exact E.cells x
theorem Enc.rowLen (H : List Entry) (l : List α) : rowLen H (E.row l) = some l.length := by simp [Enc.row, Al.rowLen]
theorem Enc.seen (H : List Entry) (l : List α) : seen H (E.row l) = some (l.map E.f) := rfl
theorem Enc.index (H : List Entry) (l : List α) (k : Nat) (h : k < l.length) : evIndex H E.sz (E.row l) (.int .i64 (k : Int)) = some (.iptr (E.f l[k]).cells 0) := by
  simp [Enc.row, evIndex, h, E.cells]
theorem Enc.indexI (H : List Entry) (l : List α) (k : Int) (h0 : 0 ≤ k) (h : k.toNat < l.length) : evIndex H E.sz (E.row l) (.int .i64 k) = some (.iptr (E.f l[k.toNat]).cells 0) := by
  simp [Enc.row, evIndex, h, h0, E.cells]
theorem Enc.sliceF (H : List Entry) (l : List α) (a : Int) (h0 : 0 ≤ a) (h : a.toNat ≤ l.length) : evSlice H E.sz (E.row l) (some (.int .i64 a)) none none = some (E.row (l.drop a.toNat)) := by
  simp [Enc.row, evSlice, evBound, h0, h, E.lenOk, List.map_drop, List.take_of_length_le]
theorem Enc.sliceT (H : List Entry) (l : List α) (b : Int) (h0 : 0 ≤ b) (h : b.toNat ≤ l.length) : evSlice H E.sz (E.row l) none (some (.int .i64 b)) none = some (E.row (l.take b.toNat)) := by
  simp [Enc.row, evSlice, evBound, h0, h, E.lenOk, List.map_take]
theorem Enc.sliceFT (H : List Entry) (l : List α) (a b : Int) (h0 : 0 ≤ a) (h1 : a ≤ b) (h : b.toNat ≤ l.length) : evSlice H E.sz (E.row l) (some (.int .i64 a)) (some (.int .i64 b)) none = some (E.row ((l.take b.toNat).drop a.toNat)) := by
  have hb : 0 ≤ b := by omega
  have hab : a.toNat ≤ b.toNat := by omega
  simp [Enc.row, evSlice, evBound, h0, h, hb, hab, E.lenOk, List.map_take, List.map_drop]
theorem Enc.sliceTT (H : List Entry) (l : List α) (b : Int) (h0 : 0 ≤ b) (h : b.toNat ≤ l.length) : evSlice H E.sz (E.row l) none (some (.int .i64 b)) (some (.int .i64 b)) = some (.list true ((l.take b.toNat).map E.f)) := by
  simp [Enc.row, evSlice, evBound, h0, h, E.lenOk, List.map_take]
theorem Enc.norm_row (H : List Entry) (k : Nat) (l : List α) : derefN H k (E.row l) = E.row l := by
  cases k with
  | zero => rfl
  | succ k =>
    simp only [Enc.row, derefN, List.map_map]
    congr 1
    apply List.map_congr_left
    intro a _
    exact E.norm H k a
theorem Enc.norm_tight (H : List Entry) (k : Nat) (t : Bool) (l : List α) : derefN H (k + 1) (.list t (l.map E.f)) = E.row l := by
  simp only [Enc.row, derefN, List.map_map]
  congr 1
  apply List.map_congr_left
  intro a _
  exact E.norm H k a
theorem Enc.canon_row (H : List Entry) (k : Nat) (l : List α) : canon H k (E.row l) = E.row l := E.norm_row _ k l
theorem Enc.canon_tight (H : List Entry) (k : Nat) (t : Bool) (l : List α) : canon H (k + 1) (.list t (l.map E.f)) = E.row l := E.norm_tight _ k t l
/-- An owned row. -/
theorem Enc.canon_own {H : List Entry} {id sz ver lo hi : Nat} {l : List α} (h : H[id]? = some (.arr sz ver (l.map E.f))) (hhi : hi ≤ l.length) (k : Nat) : canon H (k + 1) (.own id ver lo hi) = E.row ((l.take hi).drop lo) := by
  simp only [canon, derefN, freezeP_get, h, Option.map_some, all, if_true, Entry.frzE]
  rw [if_pos ⟨trivial, by simpa using hhi⟩, ← List.map_take, ← List.map_drop, List.map_map, Enc.row]
  congr 1
  apply List.map_congr_left
  intro a _
  exact E.norm _ k a
theorem Enc.canon_own_all {H : List Entry} {id sz ver : Nat} {l : List α} (h : H[id]? = some (.arr sz ver (l.map E.f))) (k : Nat) : canon H (k + 1) (.own id ver 0 l.length) = E.row l := by
  rw [E.canon_own h (Nat.le_refl _)]; simp
theorem Enc.rowLen_own {H : List Entry} {id sz ver lo hi : Nat} {l : List α} (h : H[id]? = some (.arr sz ver (l.map E.f))) : Al.rowLen H (.own id ver lo hi) = some (hi - lo) := by
  simp [Al.rowLen, AV.oneIn, h]
theorem Enc.seen_own {H : List Entry} {id sz ver : Nat} {l : List α} (h : H[id]? = some (.arr sz ver (l.map E.f))) : Al.seen H (.own id ver 0 l.length) = some (l.map E.f) := by
  simp [Al.seen, h, List.take_of_length_le]
theorem Enc.index_own {H : List Entry} {id ver k : Nat} {l : List α} (h : H[id]? = some (.arr E.sz ver (l.map E.f))) (hk : k < l.length) : evIndex H E.sz (.own id ver 0 l.length) (.int .i64 (k : Int)) = some (.eptr id ver k 0) := by
  simp [evIndex, h, hk]
theorem Enc.indexI_own {H : List Entry} {id ver : Nat} {k : Int} {l : List α} (h : H[id]? = some (.arr E.sz ver (l.map E.f))) (h0 : 0 ≤ k) (hk : k.toNat < l.length) : evIndex H E.sz (.own id ver 0 l.length) (.int .i64 k) = some (.eptr id ver k.toNat 0) := by
  simp [evIndex, h, hk, h0]
theorem Enc.app_own {H : List Entry} {id ver bytes : Nat} {l : List α} {x : α} (h : H[id]? = some (.arr E.sz ver (l.map E.f))) (hl : l.length + 1 ≤ maxRow) (hb : bytes ≤ 4096) :
    evAppend H E.sz bytes (.own id ver 0 l.length) [E.f x] = some (.own id (ver + 1) 0 (l ++ [x]).length, H.set id (.arr E.sz (ver + 1) ((l ++ [x]).map E.f))) := by
  rw [Al.app_own h (by simp) (by simpa using hl) hb E.pos (by simp) (E.szOk1 H x), List.take_of_length_le (by simp)]
  simp
theorem Enc.app_owns {H : List Entry} {id ver bytes : Nat} {l ys : List α} (h : H[id]? = some (.arr E.sz ver (l.map E.f))) (hl : l.length + ys.length ≤ maxRow) (hb : bytes ≤ 4096) (hy : ys ≠ []) :
    evAppend H E.sz bytes (.own id ver 0 l.length) (ys.map E.f) = some (.own id (ver + 1) 0 (l ++ ys).length, H.set id (.arr E.sz (ver + 1) ((l ++ ys).map E.f))) := by
  rw [Al.app_own h (by simp) (by simpa using hl) hb E.pos (by simpa using hy) (E.szOk H ys)]
  rw [List.take_of_length_le (by simp)]
  simp
/-- Whatever is appended: some version of the row. -/
theorem Enc.app_any {H : List Entry} {id ver bytes : Nat} {l ys : List α} (h : H[id]? = some (.arr E.sz ver (l.map E.f))) (hl : l.length + ys.length ≤ maxRow) (hb : bytes ≤ 4096) :
    ∃ v, evAppend H E.sz bytes (.own id ver 0 l.length) (ys.map E.f) = some (.own id v 0 (l ++ ys).length, H.set id (.arr E.sz v ((l ++ ys).map E.f))) := by
  by_cases hy : ys = []
  · subst hy
    refine ⟨ver, ?_⟩
    have hs : H.set id (.arr E.sz ver (l.map E.f)) = H := by
      apply List.ext_getElem?
      intro i
      by_cases hi : i = id
      · subst hi; rw [List.getElem?_set_self (lt_of_get h), h]
      · rw [List.getElem?_set_ne (Ne.symm hi)]
    simp [evAppend, AV.oneIn, h, hs]
  · exact ⟨_, E.app_owns h hl hb hy⟩
theorem Enc.app_tight {H : List Entry} {bytes : Nat} {l : List α} {x : α} (hl : l.length + 1 ≤ maxRow) (hb : bytes ≤ 4096) :
    evAppend H E.sz bytes (.list true (l.map E.f)) [E.f x] = some (.own H.length 0 0 (l ++ [x]).length, H ++ [.arr E.sz 0 ((l ++ [x]).map E.f)]) := by
  simp [evAppend, hb, E.pos, E.szOk1, E.szOk, hl]
theorem Enc.app_tights {H : List Entry} {bytes : Nat} {l ys : List α} (hl : l.length + ys.length ≤ maxRow) (hb : bytes ≤ 4096) (hy : ys ≠ []) :
    evAppend H E.sz bytes (.list true (l.map E.f)) (ys.map E.f) = some (.own H.length 0 0 (l ++ ys).length, H ++ [.arr E.sz 0 ((l ++ ys).map E.f)]) := by
  simp [evAppend, hb, E.pos, E.szOk, hl, hy]
theorem Enc.bd_len {l : List α} {t : Bool} {args : List AV} (hb : ∀ x ∈ args, ∀ k, bd k x) (h : AV.list t (l.map E.f) ∈ args) : l.length ≤ 9223372036854775807 := by
  have := (hb _ h 1).1
  simpa using this

/-! ### Loops, states told by slots and a heap -/
theorem WP.loopG {S : Seat} {r : Option Nat} {N b : Nat} {x : IC} {Q : Exit → St → Prop} {st : St} {α : Type} (P : α → Prop) (L : α → List (Nat × AV)) (G : α → List Entry) (μ : α → Nat) (a : α) (ha : P a)
    (hc : ∀ a, P a → b ≤ (G a).length ∧ (∀ p ∈ L a, Idb (G a).length p.2) ∧ ∀ e ∈ G a, EntB (G a).length e)
    (hst : (∀ p ∈ L a, st.env p.1 = p.2) ∧ st.H.take (G a).length = G a)
    (h : ∀ a, P a → WP S r N b x (thenQ (fun st' => ∃ a', P a' ∧ μ a' < μ a ∧ (∀ p ∈ L a', st'.env p.1 = p.2) ∧ st'.H.take (G a').length = G a') Q) ⟨envL (L a), G a⟩) : WP S r N b (.loop x) Q st := by
  have wf : ∀ a, P a → Wf (G a) := fun a ha id e he => (hc a ha).2.2 e (List.mem_of_getElem? he)
  refine WP.loopF P (fun a => ⟨envL (L a), G a⟩) μ a ha (Fits.of hst.1 (hc a ha).2.1 hst.2 (wf a ha)) (fun a ha => (hc a ha).1) fun a ha => (h a ha).mono fun e st' hq => ?_
  cases e with
  | normal =>
    obtain ⟨a', h1, h2, h3, h4⟩ := hq
    exact ⟨a', h1, h2, Fits.of h3 (hc a' h1).2.1 h4 (wf a' h1)⟩
  | _ => exact hq

/-- A loop in an empty heap. -/
theorem WP.loop0 {S : Seat} {r : Option Nat} {N : Nat} {x : IC} {Q : Exit → St → Prop} {st : St} {α : Type} (P : α → Prop) (L : α → List (Nat × AV)) (μ : α → Nat) (a : α) (ha : P a)
    (hc : ∀ a, P a → ∀ p ∈ L a, Idb 0 p.2) (hst : ∀ p ∈ L a, st.env p.1 = p.2)
    (h : ∀ a, P a → WP S r N 0 x (thenQ (fun st' => ∃ a', P a' ∧ μ a' < μ a ∧ ∀ p ∈ L a', st'.env p.1 = p.2) Q) ⟨envL (L a), []⟩) : WP S r N 0 (.loop x) Q st := by
  refine WP.loopG P L (fun _ => []) μ a ha (fun a ha => ⟨Nat.le_refl _, hc a ha, by simp⟩) ⟨hst, by simp⟩ fun a ha => (h a ha).mono fun e st' hq => ?_
  cases e with
  | normal =>
    obtain ⟨a', h1, h2, h3⟩ := hq
    exact ⟨a', h1, h2, h3, by simp⟩
  | _ => exact hq

end Go.Proofs.YtihhinbjhiankaaGreatDoor.Al

/- ROWS OF NUMBERS, OCTETS, NODES: the rules by their names. Printed by wip/tools/enc.py. -/
namespace Go.Proofs.YtihhinbjhiankaaGreatDoor.Al
open Go

def octs (l : List Int) : AV := .list false (l.map (AV.int .u8))
def intss (l : List (List Int)) : AV := .list false (l.map ints)
def octss (l : List (List Int)) : AV := .list false (l.map octs)

structure Leaf where
  enc : List Int
  cred : List Int
  source : Int
  parent : List Int
deriving DecidableEq
structure Inner where
  enc : List Int
  hash : List Int
  unmerged : List Int
deriving DecidableEq
structure Node where
  kind : Int
  leaf : Leaf
  inner : Inner
deriving DecidableEq

def Leaf.cells (l : Leaf) : List AV := [octs l.enc, octs l.cred, .int .i64 l.source, octs l.parent]
def Inner.cells (n : Inner) : List AV := [octs n.enc, octs n.hash, ints n.unmerged]
def Node.cells (n : Node) : List AV := [.int .i64 n.kind, octs n.leaf.enc, octs n.leaf.cred, .int .i64 n.leaf.source, octs n.leaf.parent, octs n.inner.enc, octs n.inner.hash, ints n.inner.unmerged]
def leafA (l : Leaf) : AV := .agg l.cells
def innerA (l : Inner) : AV := .agg l.cells
def nodeA (l : Node) : AV := .agg l.cells
def nodes (l : List Node) : AV := .list false (l.map nodeA)

def encI64 : Enc Int where
  f := AV.int .i64
  sz := 1
  pos := by decide
  cells := fun _ => rfl
  one := fun _ _ => rfl
  idb := fun a y hy => by simp [AV.cells] at hy; subst hy; exact .int _ _
  norm := fun H k a => by cases k <;> rfl
def encU8 : Enc Int where
  f := AV.int .u8
  sz := 1
  pos := by decide
  cells := fun _ => rfl
  one := fun _ _ => rfl
  idb := fun a y hy => by simp [AV.cells] at hy; subst hy; exact .int _ _
  norm := fun H k a => by cases k <;> rfl
theorem idb_octs (n : Nat) (l : List Int) : Idb n (octs l) = True := eq_true (encU8.idb_row n l)
def encInts : Enc (List Int) where
  f := ints
  sz := 1
  pos := by decide
  cells := fun _ => rfl
  one := fun _ _ => rfl
  idb := fun a y hy => by simp [AV.cells, ints] at hy; subst hy; exact encI64.idb_row 0 a
  norm := fun H k a => encI64.norm_row H k a
def encOcts : Enc (List Int) where
  f := octs
  sz := 1
  pos := by decide
  cells := fun _ => rfl
  one := fun _ _ => rfl
  idb := fun a y hy => by simp [AV.cells, octs] at hy; subst hy; exact encU8.idb_row 0 a
  norm := fun H k a => encU8.norm_row H k a
theorem norm_ints (H : List Entry) (k : Nat) (l : List Int) : derefN H k (ints l) = ints l := encI64.norm_row H k l
theorem norm_octs (H : List Entry) (k : Nat) (l : List Int) : derefN H k (octs l) = octs l := encU8.norm_row H k l
theorem norm_int (H : List Entry) (k : Nat) (t : IntKind) (l : Int) : derefN H k (.int t l) = .int t l := by cases k <;> rfl
theorem norm_bool (H : List Entry) (k : Nat) (b : Bool) : derefN H k (.bool b) = .bool b := by cases k <;> rfl
def encNode : Enc Node where
  f := nodeA
  sz := 8
  pos := by decide
  cells := fun _ => rfl
  one := fun _ _ => rfl
  idb := fun a y hy => by
    simp only [nodeA, AV.cells, Node.cells, List.mem_cons, List.not_mem_nil, or_false] at hy
    rcases hy with rfl | rfl | rfl | rfl | rfl | rfl | rfl | rfl <;> first | exact .int _ _ | exact encU8.idb_row _ _ | exact encI64.idb_row _ _
  norm := fun H k a => by cases k <;> simp [nodeA, Node.cells, derefN, norm_ints, norm_octs, norm_int]
theorem norm_leafA (H : List Entry) (k : Nat) (a : Leaf) : derefN H k (leafA a) = leafA a := by cases k <;> simp [leafA, Leaf.cells, derefN, norm_ints, norm_octs, norm_int]
theorem norm_innerA (H : List Entry) (k : Nat) (a : Inner) : derefN H k (innerA a) = innerA a := by cases k <;> simp [innerA, Inner.cells, derefN, norm_ints, norm_octs, norm_int]
theorem norm_nodeA (H : List Entry) (k : Nat) (a : Node) : derefN H k (nodeA a) = nodeA a := encNode.norm H k a
theorem norm_tup (H : List Entry) (k : Nat) (vs : List AV) : derefN H (k + 1) (.tup vs) = .tup (vs.map (derefN H k)) := rfl
theorem norm_agg (H : List Entry) (k : Nat) (vs : List AV) : derefN H (k + 1) (.agg vs) = .agg (vs.map (derefN H k)) := rfl
theorem idb_leafA (n : Nat) (l : Leaf) : Idb n (leafA l) = True := by
  refine eq_true (.agg _ fun x hx => ?_)
  simp only [Leaf.cells, List.mem_cons, List.not_mem_nil, or_false] at hx
  rcases hx with rfl | rfl | rfl | rfl <;> first | exact .int _ _ | exact encU8.idb_row _ _ | exact encI64.idb_row _ _
theorem idb_innerA (n : Nat) (l : Inner) : Idb n (innerA l) = True := by
  refine eq_true (.agg _ fun x hx => ?_)
  simp only [Inner.cells, List.mem_cons, List.not_mem_nil, or_false] at hx
  rcases hx with rfl | rfl | rfl <;> first | exact .int _ _ | exact encU8.idb_row _ _ | exact encI64.idb_row _ _
theorem idb_nodeA (n : Nat) (l : Node) : Idb n (nodeA l) = True := eq_true ((encNode.idbE l).more (Nat.zero_le _))
theorem idb_agg (n : Nat) (cs : List AV) : Idb n (.agg cs) = ∀ x ∈ cs, Idb n x := propext ⟨fun h => by cases h; assumption, fun h => .agg _ h⟩
theorem idb_tup (n : Nat) (cs : List AV) : Idb n (.tup cs) = ∀ x ∈ cs, Idb n x := propext ⟨fun h => by cases h; assumption, fun h => .tup _ h⟩
theorem idb_iptr (n : Nat) (cs : List AV) (o : Nat) : Idb n (.iptr cs o) = ∀ x ∈ cs, Idb n x := propext ⟨fun h => by cases h; assumption, fun h => .iptr _ _ h⟩
theorem idb_fn (n c : Nat) (a b : List AV) : Idb n (.func (.f c) a b) = ((∀ x ∈ a, Idb n x) ∧ ∀ x ∈ b, Idb n x) := propext ⟨fun h => by cases h; exact ⟨by assumption, by assumption⟩, fun h => .func _ _ _ h.1 h.2⟩
theorem idb_undef (n : Nat) : Idb n .undef = True := eq_true .undef
theorem entB_dead (n : Nat) : EntB n .dead = True := rfl
theorem entB_box (n : Nat) (cs : List AV) : EntB n (.box cs) = ∀ x ∈ cs, Idb n x := rfl
theorem load_iptrA (H : List Entry) (n : Node) : evLoad H true 8 (.iptr n.cells 0) = some (nodeA n) := rfl
theorem canon_ptrI (H : List Entry) (k : Nat) (t : IntKind) (i : Int) : canon H k (.int t i) = .int t i := norm_int _ k t i
theorem canon_bool (H : List Entry) (k : Nat) (i : Bool) : canon H k (.bool i) = .bool i := norm_bool _ k i
theorem canon_tup (H : List Entry) (k : Nat) (vs : List AV) : canon H (k + 1) (.tup vs) = .tup (vs.map (canon H k)) := rfl
theorem canon_agg (H : List Entry) (k : Nat) (vs : List AV) : canon H (k + 1) (.agg vs) = .agg (vs.map (canon H k)) := rfl
theorem canon_leafA (H : List Entry) (k : Nat) (a : Leaf) : canon H k (leafA a) = leafA a := norm_leafA _ k a
theorem canon_innerA (H : List Entry) (k : Nat) (a : Inner) : canon H k (innerA a) = innerA a := norm_innerA _ k a
theorem canon_nodeA (H : List Entry) (k : Nat) (a : Node) : canon H k (nodeA a) = nodeA a := norm_nodeA _ k a

theorem entB_ints' (n sz ver : Nat) (l : List (Int)) : EntB n (.arr sz ver (l.map (AV.int .i64))) = True := eq_true (encI64.entB n ver sz l)
theorem indexI_ints (H : List Entry) (l : List (Int)) (k : Int) (h0 : 0 ≤ k) (h : k.toNat < l.length) : evIndex H 1 (ints l) (.int .i64 k) = some (.iptr [.int .i64 l[k.toNat]] 0) := encI64.indexI H l k h0 h
theorem sliceF_ints (H : List Entry) (l : List (Int)) (a : Int) (h0 : 0 ≤ a) (h : a.toNat ≤ l.length) : evSlice H 1 (ints l) (some (.int .i64 a)) none none = some (ints (l.drop a.toNat)) := encI64.sliceF H l a h0 h
theorem sliceT_ints (H : List Entry) (l : List (Int)) (b : Int) (h0 : 0 ≤ b) (h : b.toNat ≤ l.length) : evSlice H 1 (ints l) none (some (.int .i64 b)) none = some (ints (l.take b.toNat)) := encI64.sliceT H l b h0 h
theorem sliceFT_ints (H : List Entry) (l : List (Int)) (a b : Int) (h0 : 0 ≤ a) (h1 : a ≤ b) (h : b.toNat ≤ l.length) : evSlice H 1 (ints l) (some (.int .i64 a)) (some (.int .i64 b)) none = some (ints ((l.take b.toNat).drop a.toNat)) := encI64.sliceFT H l a b h0 h1 h
theorem sliceTT_ints (H : List Entry) (l : List (Int)) (b : Int) (h0 : 0 ≤ b) (h : b.toNat ≤ l.length) : evSlice H 1 (ints l) none (some (.int .i64 b)) (some (.int .i64 b)) = some (.list true ((l.take b.toNat).map (AV.int .i64))) := encI64.sliceTT H l b h0 h
theorem canon_ints' (H : List Entry) (k : Nat) (l : List (Int)) : canon H k (ints l) = ints l := encI64.canon_row H k l
theorem canon_tints (H : List Entry) (k : Nat) (t : Bool) (l : List (Int)) : canon H (k + 1) (.list t (l.map (AV.int .i64))) = ints l := encI64.canon_tight H k t l
theorem canon_nil_ints (H : List Entry) (k : Nat) (t : Bool) : canon H (k + 1) (.list t []) = ints [] := rfl
theorem app_t_ints (H : List Entry) (bytes : Nat) (l : List (Int)) (x : Int) (hl : l.length + 1 ≤ maxRow) (hb : bytes ≤ 4096) : evAppend H 1 bytes (.list true (l.map (AV.int .i64))) [AV.int .i64 x] = some (.own H.length 0 0 (l ++ [x]).length, H ++ [.arr 1 0 ((l ++ [x]).map (AV.int .i64))]) := encI64.app_tight hl hb
theorem app_ts_ints (H : List Entry) (bytes : Nat) (l ys : List (Int)) (hl : l.length + ys.length ≤ maxRow) (hb : bytes ≤ 4096) (hy : ys ≠ []) : evAppend H 1 bytes (.list true (l.map (AV.int .i64))) (ys.map (AV.int .i64)) = some (.own H.length 0 0 (l ++ ys).length, H ++ [.arr 1 0 ((l ++ ys).map (AV.int .i64))]) := encI64.app_tights hl hb hy
theorem rowLen_ints0 {G : List Entry} {ver : Nat} {l : List (Int)} {lo hi : Nat} : rowLen (.arr 1 ver (l.map (AV.int .i64)) :: G) (.own 0 ver lo hi) = some (hi - lo) := encI64.rowLen_own rfl
theorem seen_ints0 {G : List Entry} {ver : Nat} {l : List (Int)} : seen (.arr 1 ver (l.map (AV.int .i64)) :: G) (.own 0 ver 0 l.length) = some (l.map (AV.int .i64)) := encI64.seen_own rfl
theorem index_ints0 {G : List Entry} {ver : Nat} {l : List (Int)} {k : Nat} (hk : k < l.length) : evIndex (.arr 1 ver (l.map (AV.int .i64)) :: G) 1 (.own 0 ver 0 l.length) (.int .i64 (k : Int)) = some (.eptr 0 ver k 0) := encI64.index_own rfl hk
theorem indexI_ints0 {G : List Entry} {ver : Nat} {l : List (Int)} {k : Int} (h0 : 0 ≤ k) (hk : k.toNat < l.length) : evIndex (.arr 1 ver (l.map (AV.int .i64)) :: G) 1 (.own 0 ver 0 l.length) (.int .i64 k) = some (.eptr 0 ver k.toNat 0) := encI64.indexI_own rfl h0 hk
theorem app_ints0 {G : List Entry} {ver : Nat} {l : List (Int)} {bytes : Nat} {x : Int} (hl : l.length + 1 ≤ maxRow) (hb : bytes ≤ 4096) : evAppend (.arr 1 ver (l.map (AV.int .i64)) :: G) 1 bytes (.own 0 ver 0 l.length) [AV.int .i64 x] = some (.own 0 (ver + 1) 0 (l ++ [x]).length, (.arr 1 (ver + 1) ((l ++ [x]).map (AV.int .i64)) :: G)) := encI64.app_own rfl hl hb
theorem apps_ints0 {G : List Entry} {ver : Nat} {l : List (Int)} {bytes : Nat} {ys : List (Int)} (hl : l.length + ys.length ≤ maxRow) (hb : bytes ≤ 4096) (hy : ys ≠ []) : evAppend (.arr 1 ver (l.map (AV.int .i64)) :: G) 1 bytes (.own 0 ver 0 l.length) (ys.map (AV.int .i64)) = some (.own 0 (ver + 1) 0 (l ++ ys).length, (.arr 1 (ver + 1) ((l ++ ys).map (AV.int .i64)) :: G)) := encI64.app_owns rfl hl hb hy
theorem appv_ints0 {G : List Entry} {ver : Nat} {l : List (Int)} {bytes : Nat} (ys : List (Int)) (hl : l.length + ys.length ≤ maxRow) (hb : bytes ≤ 4096) : ∃ v, evAppend (.arr 1 ver (l.map (AV.int .i64)) :: G) 1 bytes (.own 0 ver 0 l.length) (ys.map (AV.int .i64)) = some (.own 0 v 0 (l ++ ys).length, (.arr 1 v ((l ++ ys).map (AV.int .i64)) :: G)) := encI64.app_any rfl hl hb
theorem canon_ints0 {G : List Entry} {ver : Nat} {l : List (Int)} {k : Nat} : canon (.arr 1 ver (l.map (AV.int .i64)) :: G) (k + 1) (.own 0 ver 0 l.length) = ints l := encI64.canon_own_all rfl k
theorem canon_sints0 {G : List Entry} {ver : Nat} {l : List (Int)} {k lo hi : Nat} (h : hi ≤ l.length) : canon (.arr 1 ver (l.map (AV.int .i64)) :: G) (k + 1) (.own 0 ver lo hi) = ints ((l.take hi).drop lo) := encI64.canon_own rfl h k
theorem oneIn_ints0 {G : List Entry} {ver : Nat} {l : List (Int)} {lo hi : Nat} : (AV.own 0 ver lo hi).oneIn (.arr 1 ver (l.map (AV.int .i64)) :: G) = true := by simp [AV.oneIn]
theorem rowLen_ints1 {G : List Entry} {e0 : Entry} {ver : Nat} {l : List (Int)} {lo hi : Nat} : rowLen (e0 :: .arr 1 ver (l.map (AV.int .i64)) :: G) (.own 1 ver lo hi) = some (hi - lo) := encI64.rowLen_own rfl
theorem seen_ints1 {G : List Entry} {e0 : Entry} {ver : Nat} {l : List (Int)} : seen (e0 :: .arr 1 ver (l.map (AV.int .i64)) :: G) (.own 1 ver 0 l.length) = some (l.map (AV.int .i64)) := encI64.seen_own rfl
theorem index_ints1 {G : List Entry} {e0 : Entry} {ver : Nat} {l : List (Int)} {k : Nat} (hk : k < l.length) : evIndex (e0 :: .arr 1 ver (l.map (AV.int .i64)) :: G) 1 (.own 1 ver 0 l.length) (.int .i64 (k : Int)) = some (.eptr 1 ver k 0) := encI64.index_own rfl hk
theorem indexI_ints1 {G : List Entry} {e0 : Entry} {ver : Nat} {l : List (Int)} {k : Int} (h0 : 0 ≤ k) (hk : k.toNat < l.length) : evIndex (e0 :: .arr 1 ver (l.map (AV.int .i64)) :: G) 1 (.own 1 ver 0 l.length) (.int .i64 k) = some (.eptr 1 ver k.toNat 0) := encI64.indexI_own rfl h0 hk
theorem app_ints1 {G : List Entry} {e0 : Entry} {ver : Nat} {l : List (Int)} {bytes : Nat} {x : Int} (hl : l.length + 1 ≤ maxRow) (hb : bytes ≤ 4096) : evAppend (e0 :: .arr 1 ver (l.map (AV.int .i64)) :: G) 1 bytes (.own 1 ver 0 l.length) [AV.int .i64 x] = some (.own 1 (ver + 1) 0 (l ++ [x]).length, (e0 :: .arr 1 (ver + 1) ((l ++ [x]).map (AV.int .i64)) :: G)) := encI64.app_own rfl hl hb
theorem apps_ints1 {G : List Entry} {e0 : Entry} {ver : Nat} {l : List (Int)} {bytes : Nat} {ys : List (Int)} (hl : l.length + ys.length ≤ maxRow) (hb : bytes ≤ 4096) (hy : ys ≠ []) : evAppend (e0 :: .arr 1 ver (l.map (AV.int .i64)) :: G) 1 bytes (.own 1 ver 0 l.length) (ys.map (AV.int .i64)) = some (.own 1 (ver + 1) 0 (l ++ ys).length, (e0 :: .arr 1 (ver + 1) ((l ++ ys).map (AV.int .i64)) :: G)) := encI64.app_owns rfl hl hb hy
theorem appv_ints1 {G : List Entry} {e0 : Entry} {ver : Nat} {l : List (Int)} {bytes : Nat} (ys : List (Int)) (hl : l.length + ys.length ≤ maxRow) (hb : bytes ≤ 4096) : ∃ v, evAppend (e0 :: .arr 1 ver (l.map (AV.int .i64)) :: G) 1 bytes (.own 1 ver 0 l.length) (ys.map (AV.int .i64)) = some (.own 1 v 0 (l ++ ys).length, (e0 :: .arr 1 v ((l ++ ys).map (AV.int .i64)) :: G)) := encI64.app_any rfl hl hb
theorem canon_ints1 {G : List Entry} {e0 : Entry} {ver : Nat} {l : List (Int)} {k : Nat} : canon (e0 :: .arr 1 ver (l.map (AV.int .i64)) :: G) (k + 1) (.own 1 ver 0 l.length) = ints l := encI64.canon_own_all rfl k
theorem canon_sints1 {G : List Entry} {e0 : Entry} {ver : Nat} {l : List (Int)} {k lo hi : Nat} (h : hi ≤ l.length) : canon (e0 :: .arr 1 ver (l.map (AV.int .i64)) :: G) (k + 1) (.own 1 ver lo hi) = ints ((l.take hi).drop lo) := encI64.canon_own rfl h k
theorem oneIn_ints1 {G : List Entry} {e0 : Entry} {ver : Nat} {l : List (Int)} {lo hi : Nat} : (AV.own 1 ver lo hi).oneIn (e0 :: .arr 1 ver (l.map (AV.int .i64)) :: G) = true := by simp [AV.oneIn]
theorem rowLen_ints2 {G : List Entry} {e0 e1 : Entry} {ver : Nat} {l : List (Int)} {lo hi : Nat} : rowLen (e0 :: e1 :: .arr 1 ver (l.map (AV.int .i64)) :: G) (.own 2 ver lo hi) = some (hi - lo) := encI64.rowLen_own rfl
theorem seen_ints2 {G : List Entry} {e0 e1 : Entry} {ver : Nat} {l : List (Int)} : seen (e0 :: e1 :: .arr 1 ver (l.map (AV.int .i64)) :: G) (.own 2 ver 0 l.length) = some (l.map (AV.int .i64)) := encI64.seen_own rfl
theorem index_ints2 {G : List Entry} {e0 e1 : Entry} {ver : Nat} {l : List (Int)} {k : Nat} (hk : k < l.length) : evIndex (e0 :: e1 :: .arr 1 ver (l.map (AV.int .i64)) :: G) 1 (.own 2 ver 0 l.length) (.int .i64 (k : Int)) = some (.eptr 2 ver k 0) := encI64.index_own rfl hk
theorem indexI_ints2 {G : List Entry} {e0 e1 : Entry} {ver : Nat} {l : List (Int)} {k : Int} (h0 : 0 ≤ k) (hk : k.toNat < l.length) : evIndex (e0 :: e1 :: .arr 1 ver (l.map (AV.int .i64)) :: G) 1 (.own 2 ver 0 l.length) (.int .i64 k) = some (.eptr 2 ver k.toNat 0) := encI64.indexI_own rfl h0 hk
theorem app_ints2 {G : List Entry} {e0 e1 : Entry} {ver : Nat} {l : List (Int)} {bytes : Nat} {x : Int} (hl : l.length + 1 ≤ maxRow) (hb : bytes ≤ 4096) : evAppend (e0 :: e1 :: .arr 1 ver (l.map (AV.int .i64)) :: G) 1 bytes (.own 2 ver 0 l.length) [AV.int .i64 x] = some (.own 2 (ver + 1) 0 (l ++ [x]).length, (e0 :: e1 :: .arr 1 (ver + 1) ((l ++ [x]).map (AV.int .i64)) :: G)) := encI64.app_own rfl hl hb
theorem apps_ints2 {G : List Entry} {e0 e1 : Entry} {ver : Nat} {l : List (Int)} {bytes : Nat} {ys : List (Int)} (hl : l.length + ys.length ≤ maxRow) (hb : bytes ≤ 4096) (hy : ys ≠ []) : evAppend (e0 :: e1 :: .arr 1 ver (l.map (AV.int .i64)) :: G) 1 bytes (.own 2 ver 0 l.length) (ys.map (AV.int .i64)) = some (.own 2 (ver + 1) 0 (l ++ ys).length, (e0 :: e1 :: .arr 1 (ver + 1) ((l ++ ys).map (AV.int .i64)) :: G)) := encI64.app_owns rfl hl hb hy
theorem appv_ints2 {G : List Entry} {e0 e1 : Entry} {ver : Nat} {l : List (Int)} {bytes : Nat} (ys : List (Int)) (hl : l.length + ys.length ≤ maxRow) (hb : bytes ≤ 4096) : ∃ v, evAppend (e0 :: e1 :: .arr 1 ver (l.map (AV.int .i64)) :: G) 1 bytes (.own 2 ver 0 l.length) (ys.map (AV.int .i64)) = some (.own 2 v 0 (l ++ ys).length, (e0 :: e1 :: .arr 1 v ((l ++ ys).map (AV.int .i64)) :: G)) := encI64.app_any rfl hl hb
theorem canon_ints2 {G : List Entry} {e0 e1 : Entry} {ver : Nat} {l : List (Int)} {k : Nat} : canon (e0 :: e1 :: .arr 1 ver (l.map (AV.int .i64)) :: G) (k + 1) (.own 2 ver 0 l.length) = ints l := encI64.canon_own_all rfl k
theorem canon_sints2 {G : List Entry} {e0 e1 : Entry} {ver : Nat} {l : List (Int)} {k lo hi : Nat} (h : hi ≤ l.length) : canon (e0 :: e1 :: .arr 1 ver (l.map (AV.int .i64)) :: G) (k + 1) (.own 2 ver lo hi) = ints ((l.take hi).drop lo) := encI64.canon_own rfl h k
theorem oneIn_ints2 {G : List Entry} {e0 e1 : Entry} {ver : Nat} {l : List (Int)} {lo hi : Nat} : (AV.own 2 ver lo hi).oneIn (e0 :: e1 :: .arr 1 ver (l.map (AV.int .i64)) :: G) = true := by simp [AV.oneIn]
theorem rowLen_ints3 {G : List Entry} {e0 e1 e2 : Entry} {ver : Nat} {l : List (Int)} {lo hi : Nat} : rowLen (e0 :: e1 :: e2 :: .arr 1 ver (l.map (AV.int .i64)) :: G) (.own 3 ver lo hi) = some (hi - lo) := encI64.rowLen_own rfl
theorem seen_ints3 {G : List Entry} {e0 e1 e2 : Entry} {ver : Nat} {l : List (Int)} : seen (e0 :: e1 :: e2 :: .arr 1 ver (l.map (AV.int .i64)) :: G) (.own 3 ver 0 l.length) = some (l.map (AV.int .i64)) := encI64.seen_own rfl
theorem index_ints3 {G : List Entry} {e0 e1 e2 : Entry} {ver : Nat} {l : List (Int)} {k : Nat} (hk : k < l.length) : evIndex (e0 :: e1 :: e2 :: .arr 1 ver (l.map (AV.int .i64)) :: G) 1 (.own 3 ver 0 l.length) (.int .i64 (k : Int)) = some (.eptr 3 ver k 0) := encI64.index_own rfl hk
theorem indexI_ints3 {G : List Entry} {e0 e1 e2 : Entry} {ver : Nat} {l : List (Int)} {k : Int} (h0 : 0 ≤ k) (hk : k.toNat < l.length) : evIndex (e0 :: e1 :: e2 :: .arr 1 ver (l.map (AV.int .i64)) :: G) 1 (.own 3 ver 0 l.length) (.int .i64 k) = some (.eptr 3 ver k.toNat 0) := encI64.indexI_own rfl h0 hk
theorem app_ints3 {G : List Entry} {e0 e1 e2 : Entry} {ver : Nat} {l : List (Int)} {bytes : Nat} {x : Int} (hl : l.length + 1 ≤ maxRow) (hb : bytes ≤ 4096) : evAppend (e0 :: e1 :: e2 :: .arr 1 ver (l.map (AV.int .i64)) :: G) 1 bytes (.own 3 ver 0 l.length) [AV.int .i64 x] = some (.own 3 (ver + 1) 0 (l ++ [x]).length, (e0 :: e1 :: e2 :: .arr 1 (ver + 1) ((l ++ [x]).map (AV.int .i64)) :: G)) := encI64.app_own rfl hl hb
theorem apps_ints3 {G : List Entry} {e0 e1 e2 : Entry} {ver : Nat} {l : List (Int)} {bytes : Nat} {ys : List (Int)} (hl : l.length + ys.length ≤ maxRow) (hb : bytes ≤ 4096) (hy : ys ≠ []) : evAppend (e0 :: e1 :: e2 :: .arr 1 ver (l.map (AV.int .i64)) :: G) 1 bytes (.own 3 ver 0 l.length) (ys.map (AV.int .i64)) = some (.own 3 (ver + 1) 0 (l ++ ys).length, (e0 :: e1 :: e2 :: .arr 1 (ver + 1) ((l ++ ys).map (AV.int .i64)) :: G)) := encI64.app_owns rfl hl hb hy
theorem appv_ints3 {G : List Entry} {e0 e1 e2 : Entry} {ver : Nat} {l : List (Int)} {bytes : Nat} (ys : List (Int)) (hl : l.length + ys.length ≤ maxRow) (hb : bytes ≤ 4096) : ∃ v, evAppend (e0 :: e1 :: e2 :: .arr 1 ver (l.map (AV.int .i64)) :: G) 1 bytes (.own 3 ver 0 l.length) (ys.map (AV.int .i64)) = some (.own 3 v 0 (l ++ ys).length, (e0 :: e1 :: e2 :: .arr 1 v ((l ++ ys).map (AV.int .i64)) :: G)) := encI64.app_any rfl hl hb
theorem canon_ints3 {G : List Entry} {e0 e1 e2 : Entry} {ver : Nat} {l : List (Int)} {k : Nat} : canon (e0 :: e1 :: e2 :: .arr 1 ver (l.map (AV.int .i64)) :: G) (k + 1) (.own 3 ver 0 l.length) = ints l := encI64.canon_own_all rfl k
theorem canon_sints3 {G : List Entry} {e0 e1 e2 : Entry} {ver : Nat} {l : List (Int)} {k lo hi : Nat} (h : hi ≤ l.length) : canon (e0 :: e1 :: e2 :: .arr 1 ver (l.map (AV.int .i64)) :: G) (k + 1) (.own 3 ver lo hi) = ints ((l.take hi).drop lo) := encI64.canon_own rfl h k
theorem oneIn_ints3 {G : List Entry} {e0 e1 e2 : Entry} {ver : Nat} {l : List (Int)} {lo hi : Nat} : (AV.own 3 ver lo hi).oneIn (e0 :: e1 :: e2 :: .arr 1 ver (l.map (AV.int .i64)) :: G) = true := by simp [AV.oneIn]
theorem rowLen_octs (H : List Entry) (l : List (Int)) : rowLen H (octs l) = some l.length := encU8.rowLen H l
theorem index_octs (H : List Entry) (l : List (Int)) (k : Nat) (h : k < l.length) : evIndex H 1 (octs l) (.int .i64 (k : Int)) = some (.iptr [.int .u8 l[k]] 0) := encU8.index H l k h
theorem seen_octs (H : List Entry) (l : List (Int)) : seen H (octs l) = some (l.map (AV.int .u8)) := rfl
theorem entB_octs (n sz ver : Nat) (l : List (Int)) : EntB n (.arr sz ver (l.map (AV.int .u8))) = True := eq_true (encU8.entB n ver sz l)
theorem szOk_octs (H : List Entry) (l : List (Int)) : szOk H 1 (l.map (AV.int .u8)) = true := encU8.szOk H l
theorem indexI_octs (H : List Entry) (l : List (Int)) (k : Int) (h0 : 0 ≤ k) (h : k.toNat < l.length) : evIndex H 1 (octs l) (.int .i64 k) = some (.iptr [.int .u8 l[k.toNat]] 0) := encU8.indexI H l k h0 h
theorem sliceF_octs (H : List Entry) (l : List (Int)) (a : Int) (h0 : 0 ≤ a) (h : a.toNat ≤ l.length) : evSlice H 1 (octs l) (some (.int .i64 a)) none none = some (octs (l.drop a.toNat)) := encU8.sliceF H l a h0 h
theorem sliceT_octs (H : List Entry) (l : List (Int)) (b : Int) (h0 : 0 ≤ b) (h : b.toNat ≤ l.length) : evSlice H 1 (octs l) none (some (.int .i64 b)) none = some (octs (l.take b.toNat)) := encU8.sliceT H l b h0 h
theorem sliceFT_octs (H : List Entry) (l : List (Int)) (a b : Int) (h0 : 0 ≤ a) (h1 : a ≤ b) (h : b.toNat ≤ l.length) : evSlice H 1 (octs l) (some (.int .i64 a)) (some (.int .i64 b)) none = some (octs ((l.take b.toNat).drop a.toNat)) := encU8.sliceFT H l a b h0 h1 h
theorem sliceTT_octs (H : List Entry) (l : List (Int)) (b : Int) (h0 : 0 ≤ b) (h : b.toNat ≤ l.length) : evSlice H 1 (octs l) none (some (.int .i64 b)) (some (.int .i64 b)) = some (.list true ((l.take b.toNat).map (AV.int .u8))) := encU8.sliceTT H l b h0 h
theorem canon_octs' (H : List Entry) (k : Nat) (l : List (Int)) : canon H k (octs l) = octs l := encU8.canon_row H k l
theorem canon_tocts (H : List Entry) (k : Nat) (t : Bool) (l : List (Int)) : canon H (k + 1) (.list t (l.map (AV.int .u8))) = octs l := encU8.canon_tight H k t l
theorem canon_nil_octs (H : List Entry) (k : Nat) (t : Bool) : canon H (k + 1) (.list t []) = octs [] := rfl
theorem app_t_octs (H : List Entry) (bytes : Nat) (l : List (Int)) (x : Int) (hl : l.length + 1 ≤ maxRow) (hb : bytes ≤ 4096) : evAppend H 1 bytes (.list true (l.map (AV.int .u8))) [AV.int .u8 x] = some (.own H.length 0 0 (l ++ [x]).length, H ++ [.arr 1 0 ((l ++ [x]).map (AV.int .u8))]) := encU8.app_tight hl hb
theorem app_ts_octs (H : List Entry) (bytes : Nat) (l ys : List (Int)) (hl : l.length + ys.length ≤ maxRow) (hb : bytes ≤ 4096) (hy : ys ≠ []) : evAppend H 1 bytes (.list true (l.map (AV.int .u8))) (ys.map (AV.int .u8)) = some (.own H.length 0 0 (l ++ ys).length, H ++ [.arr 1 0 ((l ++ ys).map (AV.int .u8))]) := encU8.app_tights hl hb hy
theorem rowLen_octs0 {G : List Entry} {ver : Nat} {l : List (Int)} {lo hi : Nat} : rowLen (.arr 1 ver (l.map (AV.int .u8)) :: G) (.own 0 ver lo hi) = some (hi - lo) := encU8.rowLen_own rfl
theorem seen_octs0 {G : List Entry} {ver : Nat} {l : List (Int)} : seen (.arr 1 ver (l.map (AV.int .u8)) :: G) (.own 0 ver 0 l.length) = some (l.map (AV.int .u8)) := encU8.seen_own rfl
theorem index_octs0 {G : List Entry} {ver : Nat} {l : List (Int)} {k : Nat} (hk : k < l.length) : evIndex (.arr 1 ver (l.map (AV.int .u8)) :: G) 1 (.own 0 ver 0 l.length) (.int .i64 (k : Int)) = some (.eptr 0 ver k 0) := encU8.index_own rfl hk
theorem indexI_octs0 {G : List Entry} {ver : Nat} {l : List (Int)} {k : Int} (h0 : 0 ≤ k) (hk : k.toNat < l.length) : evIndex (.arr 1 ver (l.map (AV.int .u8)) :: G) 1 (.own 0 ver 0 l.length) (.int .i64 k) = some (.eptr 0 ver k.toNat 0) := encU8.indexI_own rfl h0 hk
theorem app_octs0 {G : List Entry} {ver : Nat} {l : List (Int)} {bytes : Nat} {x : Int} (hl : l.length + 1 ≤ maxRow) (hb : bytes ≤ 4096) : evAppend (.arr 1 ver (l.map (AV.int .u8)) :: G) 1 bytes (.own 0 ver 0 l.length) [AV.int .u8 x] = some (.own 0 (ver + 1) 0 (l ++ [x]).length, (.arr 1 (ver + 1) ((l ++ [x]).map (AV.int .u8)) :: G)) := encU8.app_own rfl hl hb
theorem apps_octs0 {G : List Entry} {ver : Nat} {l : List (Int)} {bytes : Nat} {ys : List (Int)} (hl : l.length + ys.length ≤ maxRow) (hb : bytes ≤ 4096) (hy : ys ≠ []) : evAppend (.arr 1 ver (l.map (AV.int .u8)) :: G) 1 bytes (.own 0 ver 0 l.length) (ys.map (AV.int .u8)) = some (.own 0 (ver + 1) 0 (l ++ ys).length, (.arr 1 (ver + 1) ((l ++ ys).map (AV.int .u8)) :: G)) := encU8.app_owns rfl hl hb hy
theorem appv_octs0 {G : List Entry} {ver : Nat} {l : List (Int)} {bytes : Nat} (ys : List (Int)) (hl : l.length + ys.length ≤ maxRow) (hb : bytes ≤ 4096) : ∃ v, evAppend (.arr 1 ver (l.map (AV.int .u8)) :: G) 1 bytes (.own 0 ver 0 l.length) (ys.map (AV.int .u8)) = some (.own 0 v 0 (l ++ ys).length, (.arr 1 v ((l ++ ys).map (AV.int .u8)) :: G)) := encU8.app_any rfl hl hb
theorem canon_octs0 {G : List Entry} {ver : Nat} {l : List (Int)} {k : Nat} : canon (.arr 1 ver (l.map (AV.int .u8)) :: G) (k + 1) (.own 0 ver 0 l.length) = octs l := encU8.canon_own_all rfl k
theorem canon_socts0 {G : List Entry} {ver : Nat} {l : List (Int)} {k lo hi : Nat} (h : hi ≤ l.length) : canon (.arr 1 ver (l.map (AV.int .u8)) :: G) (k + 1) (.own 0 ver lo hi) = octs ((l.take hi).drop lo) := encU8.canon_own rfl h k
theorem oneIn_octs0 {G : List Entry} {ver : Nat} {l : List (Int)} {lo hi : Nat} : (AV.own 0 ver lo hi).oneIn (.arr 1 ver (l.map (AV.int .u8)) :: G) = true := by simp [AV.oneIn]
theorem rowLen_octs1 {G : List Entry} {e0 : Entry} {ver : Nat} {l : List (Int)} {lo hi : Nat} : rowLen (e0 :: .arr 1 ver (l.map (AV.int .u8)) :: G) (.own 1 ver lo hi) = some (hi - lo) := encU8.rowLen_own rfl
theorem seen_octs1 {G : List Entry} {e0 : Entry} {ver : Nat} {l : List (Int)} : seen (e0 :: .arr 1 ver (l.map (AV.int .u8)) :: G) (.own 1 ver 0 l.length) = some (l.map (AV.int .u8)) := encU8.seen_own rfl
theorem index_octs1 {G : List Entry} {e0 : Entry} {ver : Nat} {l : List (Int)} {k : Nat} (hk : k < l.length) : evIndex (e0 :: .arr 1 ver (l.map (AV.int .u8)) :: G) 1 (.own 1 ver 0 l.length) (.int .i64 (k : Int)) = some (.eptr 1 ver k 0) := encU8.index_own rfl hk
theorem indexI_octs1 {G : List Entry} {e0 : Entry} {ver : Nat} {l : List (Int)} {k : Int} (h0 : 0 ≤ k) (hk : k.toNat < l.length) : evIndex (e0 :: .arr 1 ver (l.map (AV.int .u8)) :: G) 1 (.own 1 ver 0 l.length) (.int .i64 k) = some (.eptr 1 ver k.toNat 0) := encU8.indexI_own rfl h0 hk
theorem app_octs1 {G : List Entry} {e0 : Entry} {ver : Nat} {l : List (Int)} {bytes : Nat} {x : Int} (hl : l.length + 1 ≤ maxRow) (hb : bytes ≤ 4096) : evAppend (e0 :: .arr 1 ver (l.map (AV.int .u8)) :: G) 1 bytes (.own 1 ver 0 l.length) [AV.int .u8 x] = some (.own 1 (ver + 1) 0 (l ++ [x]).length, (e0 :: .arr 1 (ver + 1) ((l ++ [x]).map (AV.int .u8)) :: G)) := encU8.app_own rfl hl hb
theorem apps_octs1 {G : List Entry} {e0 : Entry} {ver : Nat} {l : List (Int)} {bytes : Nat} {ys : List (Int)} (hl : l.length + ys.length ≤ maxRow) (hb : bytes ≤ 4096) (hy : ys ≠ []) : evAppend (e0 :: .arr 1 ver (l.map (AV.int .u8)) :: G) 1 bytes (.own 1 ver 0 l.length) (ys.map (AV.int .u8)) = some (.own 1 (ver + 1) 0 (l ++ ys).length, (e0 :: .arr 1 (ver + 1) ((l ++ ys).map (AV.int .u8)) :: G)) := encU8.app_owns rfl hl hb hy
theorem appv_octs1 {G : List Entry} {e0 : Entry} {ver : Nat} {l : List (Int)} {bytes : Nat} (ys : List (Int)) (hl : l.length + ys.length ≤ maxRow) (hb : bytes ≤ 4096) : ∃ v, evAppend (e0 :: .arr 1 ver (l.map (AV.int .u8)) :: G) 1 bytes (.own 1 ver 0 l.length) (ys.map (AV.int .u8)) = some (.own 1 v 0 (l ++ ys).length, (e0 :: .arr 1 v ((l ++ ys).map (AV.int .u8)) :: G)) := encU8.app_any rfl hl hb
theorem canon_octs1 {G : List Entry} {e0 : Entry} {ver : Nat} {l : List (Int)} {k : Nat} : canon (e0 :: .arr 1 ver (l.map (AV.int .u8)) :: G) (k + 1) (.own 1 ver 0 l.length) = octs l := encU8.canon_own_all rfl k
theorem canon_socts1 {G : List Entry} {e0 : Entry} {ver : Nat} {l : List (Int)} {k lo hi : Nat} (h : hi ≤ l.length) : canon (e0 :: .arr 1 ver (l.map (AV.int .u8)) :: G) (k + 1) (.own 1 ver lo hi) = octs ((l.take hi).drop lo) := encU8.canon_own rfl h k
theorem oneIn_octs1 {G : List Entry} {e0 : Entry} {ver : Nat} {l : List (Int)} {lo hi : Nat} : (AV.own 1 ver lo hi).oneIn (e0 :: .arr 1 ver (l.map (AV.int .u8)) :: G) = true := by simp [AV.oneIn]
theorem rowLen_octs2 {G : List Entry} {e0 e1 : Entry} {ver : Nat} {l : List (Int)} {lo hi : Nat} : rowLen (e0 :: e1 :: .arr 1 ver (l.map (AV.int .u8)) :: G) (.own 2 ver lo hi) = some (hi - lo) := encU8.rowLen_own rfl
theorem seen_octs2 {G : List Entry} {e0 e1 : Entry} {ver : Nat} {l : List (Int)} : seen (e0 :: e1 :: .arr 1 ver (l.map (AV.int .u8)) :: G) (.own 2 ver 0 l.length) = some (l.map (AV.int .u8)) := encU8.seen_own rfl
theorem index_octs2 {G : List Entry} {e0 e1 : Entry} {ver : Nat} {l : List (Int)} {k : Nat} (hk : k < l.length) : evIndex (e0 :: e1 :: .arr 1 ver (l.map (AV.int .u8)) :: G) 1 (.own 2 ver 0 l.length) (.int .i64 (k : Int)) = some (.eptr 2 ver k 0) := encU8.index_own rfl hk
theorem indexI_octs2 {G : List Entry} {e0 e1 : Entry} {ver : Nat} {l : List (Int)} {k : Int} (h0 : 0 ≤ k) (hk : k.toNat < l.length) : evIndex (e0 :: e1 :: .arr 1 ver (l.map (AV.int .u8)) :: G) 1 (.own 2 ver 0 l.length) (.int .i64 k) = some (.eptr 2 ver k.toNat 0) := encU8.indexI_own rfl h0 hk
theorem app_octs2 {G : List Entry} {e0 e1 : Entry} {ver : Nat} {l : List (Int)} {bytes : Nat} {x : Int} (hl : l.length + 1 ≤ maxRow) (hb : bytes ≤ 4096) : evAppend (e0 :: e1 :: .arr 1 ver (l.map (AV.int .u8)) :: G) 1 bytes (.own 2 ver 0 l.length) [AV.int .u8 x] = some (.own 2 (ver + 1) 0 (l ++ [x]).length, (e0 :: e1 :: .arr 1 (ver + 1) ((l ++ [x]).map (AV.int .u8)) :: G)) := encU8.app_own rfl hl hb
theorem apps_octs2 {G : List Entry} {e0 e1 : Entry} {ver : Nat} {l : List (Int)} {bytes : Nat} {ys : List (Int)} (hl : l.length + ys.length ≤ maxRow) (hb : bytes ≤ 4096) (hy : ys ≠ []) : evAppend (e0 :: e1 :: .arr 1 ver (l.map (AV.int .u8)) :: G) 1 bytes (.own 2 ver 0 l.length) (ys.map (AV.int .u8)) = some (.own 2 (ver + 1) 0 (l ++ ys).length, (e0 :: e1 :: .arr 1 (ver + 1) ((l ++ ys).map (AV.int .u8)) :: G)) := encU8.app_owns rfl hl hb hy
theorem appv_octs2 {G : List Entry} {e0 e1 : Entry} {ver : Nat} {l : List (Int)} {bytes : Nat} (ys : List (Int)) (hl : l.length + ys.length ≤ maxRow) (hb : bytes ≤ 4096) : ∃ v, evAppend (e0 :: e1 :: .arr 1 ver (l.map (AV.int .u8)) :: G) 1 bytes (.own 2 ver 0 l.length) (ys.map (AV.int .u8)) = some (.own 2 v 0 (l ++ ys).length, (e0 :: e1 :: .arr 1 v ((l ++ ys).map (AV.int .u8)) :: G)) := encU8.app_any rfl hl hb
theorem canon_octs2 {G : List Entry} {e0 e1 : Entry} {ver : Nat} {l : List (Int)} {k : Nat} : canon (e0 :: e1 :: .arr 1 ver (l.map (AV.int .u8)) :: G) (k + 1) (.own 2 ver 0 l.length) = octs l := encU8.canon_own_all rfl k
theorem canon_socts2 {G : List Entry} {e0 e1 : Entry} {ver : Nat} {l : List (Int)} {k lo hi : Nat} (h : hi ≤ l.length) : canon (e0 :: e1 :: .arr 1 ver (l.map (AV.int .u8)) :: G) (k + 1) (.own 2 ver lo hi) = octs ((l.take hi).drop lo) := encU8.canon_own rfl h k
theorem oneIn_octs2 {G : List Entry} {e0 e1 : Entry} {ver : Nat} {l : List (Int)} {lo hi : Nat} : (AV.own 2 ver lo hi).oneIn (e0 :: e1 :: .arr 1 ver (l.map (AV.int .u8)) :: G) = true := by simp [AV.oneIn]
theorem rowLen_octs3 {G : List Entry} {e0 e1 e2 : Entry} {ver : Nat} {l : List (Int)} {lo hi : Nat} : rowLen (e0 :: e1 :: e2 :: .arr 1 ver (l.map (AV.int .u8)) :: G) (.own 3 ver lo hi) = some (hi - lo) := encU8.rowLen_own rfl
theorem seen_octs3 {G : List Entry} {e0 e1 e2 : Entry} {ver : Nat} {l : List (Int)} : seen (e0 :: e1 :: e2 :: .arr 1 ver (l.map (AV.int .u8)) :: G) (.own 3 ver 0 l.length) = some (l.map (AV.int .u8)) := encU8.seen_own rfl
theorem index_octs3 {G : List Entry} {e0 e1 e2 : Entry} {ver : Nat} {l : List (Int)} {k : Nat} (hk : k < l.length) : evIndex (e0 :: e1 :: e2 :: .arr 1 ver (l.map (AV.int .u8)) :: G) 1 (.own 3 ver 0 l.length) (.int .i64 (k : Int)) = some (.eptr 3 ver k 0) := encU8.index_own rfl hk
theorem indexI_octs3 {G : List Entry} {e0 e1 e2 : Entry} {ver : Nat} {l : List (Int)} {k : Int} (h0 : 0 ≤ k) (hk : k.toNat < l.length) : evIndex (e0 :: e1 :: e2 :: .arr 1 ver (l.map (AV.int .u8)) :: G) 1 (.own 3 ver 0 l.length) (.int .i64 k) = some (.eptr 3 ver k.toNat 0) := encU8.indexI_own rfl h0 hk
theorem app_octs3 {G : List Entry} {e0 e1 e2 : Entry} {ver : Nat} {l : List (Int)} {bytes : Nat} {x : Int} (hl : l.length + 1 ≤ maxRow) (hb : bytes ≤ 4096) : evAppend (e0 :: e1 :: e2 :: .arr 1 ver (l.map (AV.int .u8)) :: G) 1 bytes (.own 3 ver 0 l.length) [AV.int .u8 x] = some (.own 3 (ver + 1) 0 (l ++ [x]).length, (e0 :: e1 :: e2 :: .arr 1 (ver + 1) ((l ++ [x]).map (AV.int .u8)) :: G)) := encU8.app_own rfl hl hb
theorem apps_octs3 {G : List Entry} {e0 e1 e2 : Entry} {ver : Nat} {l : List (Int)} {bytes : Nat} {ys : List (Int)} (hl : l.length + ys.length ≤ maxRow) (hb : bytes ≤ 4096) (hy : ys ≠ []) : evAppend (e0 :: e1 :: e2 :: .arr 1 ver (l.map (AV.int .u8)) :: G) 1 bytes (.own 3 ver 0 l.length) (ys.map (AV.int .u8)) = some (.own 3 (ver + 1) 0 (l ++ ys).length, (e0 :: e1 :: e2 :: .arr 1 (ver + 1) ((l ++ ys).map (AV.int .u8)) :: G)) := encU8.app_owns rfl hl hb hy
theorem appv_octs3 {G : List Entry} {e0 e1 e2 : Entry} {ver : Nat} {l : List (Int)} {bytes : Nat} (ys : List (Int)) (hl : l.length + ys.length ≤ maxRow) (hb : bytes ≤ 4096) : ∃ v, evAppend (e0 :: e1 :: e2 :: .arr 1 ver (l.map (AV.int .u8)) :: G) 1 bytes (.own 3 ver 0 l.length) (ys.map (AV.int .u8)) = some (.own 3 v 0 (l ++ ys).length, (e0 :: e1 :: e2 :: .arr 1 v ((l ++ ys).map (AV.int .u8)) :: G)) := encU8.app_any rfl hl hb
theorem canon_octs3 {G : List Entry} {e0 e1 e2 : Entry} {ver : Nat} {l : List (Int)} {k : Nat} : canon (e0 :: e1 :: e2 :: .arr 1 ver (l.map (AV.int .u8)) :: G) (k + 1) (.own 3 ver 0 l.length) = octs l := encU8.canon_own_all rfl k
theorem canon_socts3 {G : List Entry} {e0 e1 e2 : Entry} {ver : Nat} {l : List (Int)} {k lo hi : Nat} (h : hi ≤ l.length) : canon (e0 :: e1 :: e2 :: .arr 1 ver (l.map (AV.int .u8)) :: G) (k + 1) (.own 3 ver lo hi) = octs ((l.take hi).drop lo) := encU8.canon_own rfl h k
theorem oneIn_octs3 {G : List Entry} {e0 e1 e2 : Entry} {ver : Nat} {l : List (Int)} {lo hi : Nat} : (AV.own 3 ver lo hi).oneIn (e0 :: e1 :: e2 :: .arr 1 ver (l.map (AV.int .u8)) :: G) = true := by simp [AV.oneIn]
theorem rowLen_intss (H : List Entry) (l : List (List Int)) : rowLen H (intss l) = some l.length := encInts.rowLen H l
theorem index_intss (H : List Entry) (l : List (List Int)) (k : Nat) (h : k < l.length) : evIndex H 1 (intss l) (.int .i64 (k : Int)) = some (.iptr [ints l[k]] 0) := encInts.index H l k h
theorem seen_intss (H : List Entry) (l : List (List Int)) : seen H (intss l) = some (l.map (ints)) := rfl
theorem idb_intss (n : Nat) (l : List (List Int)) : Idb n (intss l) = True := eq_true (encInts.idb_row n l)
theorem entB_intss (n sz ver : Nat) (l : List (List Int)) : EntB n (.arr sz ver (l.map (ints))) = True := eq_true (encInts.entB n ver sz l)
theorem szOk_intss (H : List Entry) (l : List (List Int)) : szOk H 1 (l.map (ints)) = true := encInts.szOk H l
theorem indexI_intss (H : List Entry) (l : List (List Int)) (k : Int) (h0 : 0 ≤ k) (h : k.toNat < l.length) : evIndex H 1 (intss l) (.int .i64 k) = some (.iptr [ints l[k.toNat]] 0) := encInts.indexI H l k h0 h
theorem sliceF_intss (H : List Entry) (l : List (List Int)) (a : Int) (h0 : 0 ≤ a) (h : a.toNat ≤ l.length) : evSlice H 1 (intss l) (some (.int .i64 a)) none none = some (intss (l.drop a.toNat)) := encInts.sliceF H l a h0 h
theorem sliceT_intss (H : List Entry) (l : List (List Int)) (b : Int) (h0 : 0 ≤ b) (h : b.toNat ≤ l.length) : evSlice H 1 (intss l) none (some (.int .i64 b)) none = some (intss (l.take b.toNat)) := encInts.sliceT H l b h0 h
theorem sliceFT_intss (H : List Entry) (l : List (List Int)) (a b : Int) (h0 : 0 ≤ a) (h1 : a ≤ b) (h : b.toNat ≤ l.length) : evSlice H 1 (intss l) (some (.int .i64 a)) (some (.int .i64 b)) none = some (intss ((l.take b.toNat).drop a.toNat)) := encInts.sliceFT H l a b h0 h1 h
theorem sliceTT_intss (H : List Entry) (l : List (List Int)) (b : Int) (h0 : 0 ≤ b) (h : b.toNat ≤ l.length) : evSlice H 1 (intss l) none (some (.int .i64 b)) (some (.int .i64 b)) = some (.list true ((l.take b.toNat).map (ints))) := encInts.sliceTT H l b h0 h
theorem canon_intss' (H : List Entry) (k : Nat) (l : List (List Int)) : canon H k (intss l) = intss l := encInts.canon_row H k l
theorem canon_tintss (H : List Entry) (k : Nat) (t : Bool) (l : List (List Int)) : canon H (k + 1) (.list t (l.map (ints))) = intss l := encInts.canon_tight H k t l
theorem canon_nil_intss (H : List Entry) (k : Nat) (t : Bool) : canon H (k + 1) (.list t []) = intss [] := rfl
theorem app_t_intss (H : List Entry) (bytes : Nat) (l : List (List Int)) (x : List Int) (hl : l.length + 1 ≤ maxRow) (hb : bytes ≤ 4096) : evAppend H 1 bytes (.list true (l.map (ints))) [ints x] = some (.own H.length 0 0 (l ++ [x]).length, H ++ [.arr 1 0 ((l ++ [x]).map (ints))]) := encInts.app_tight hl hb
theorem app_ts_intss (H : List Entry) (bytes : Nat) (l ys : List (List Int)) (hl : l.length + ys.length ≤ maxRow) (hb : bytes ≤ 4096) (hy : ys ≠ []) : evAppend H 1 bytes (.list true (l.map (ints))) (ys.map (ints)) = some (.own H.length 0 0 (l ++ ys).length, H ++ [.arr 1 0 ((l ++ ys).map (ints))]) := encInts.app_tights hl hb hy
theorem rowLen_intss0 {G : List Entry} {ver : Nat} {l : List (List Int)} {lo hi : Nat} : rowLen (.arr 1 ver (l.map (ints)) :: G) (.own 0 ver lo hi) = some (hi - lo) := encInts.rowLen_own rfl
theorem seen_intss0 {G : List Entry} {ver : Nat} {l : List (List Int)} : seen (.arr 1 ver (l.map (ints)) :: G) (.own 0 ver 0 l.length) = some (l.map (ints)) := encInts.seen_own rfl
theorem index_intss0 {G : List Entry} {ver : Nat} {l : List (List Int)} {k : Nat} (hk : k < l.length) : evIndex (.arr 1 ver (l.map (ints)) :: G) 1 (.own 0 ver 0 l.length) (.int .i64 (k : Int)) = some (.eptr 0 ver k 0) := encInts.index_own rfl hk
theorem indexI_intss0 {G : List Entry} {ver : Nat} {l : List (List Int)} {k : Int} (h0 : 0 ≤ k) (hk : k.toNat < l.length) : evIndex (.arr 1 ver (l.map (ints)) :: G) 1 (.own 0 ver 0 l.length) (.int .i64 k) = some (.eptr 0 ver k.toNat 0) := encInts.indexI_own rfl h0 hk
theorem app_intss0 {G : List Entry} {ver : Nat} {l : List (List Int)} {bytes : Nat} {x : List Int} (hl : l.length + 1 ≤ maxRow) (hb : bytes ≤ 4096) : evAppend (.arr 1 ver (l.map (ints)) :: G) 1 bytes (.own 0 ver 0 l.length) [ints x] = some (.own 0 (ver + 1) 0 (l ++ [x]).length, (.arr 1 (ver + 1) ((l ++ [x]).map (ints)) :: G)) := encInts.app_own rfl hl hb
theorem apps_intss0 {G : List Entry} {ver : Nat} {l : List (List Int)} {bytes : Nat} {ys : List (List Int)} (hl : l.length + ys.length ≤ maxRow) (hb : bytes ≤ 4096) (hy : ys ≠ []) : evAppend (.arr 1 ver (l.map (ints)) :: G) 1 bytes (.own 0 ver 0 l.length) (ys.map (ints)) = some (.own 0 (ver + 1) 0 (l ++ ys).length, (.arr 1 (ver + 1) ((l ++ ys).map (ints)) :: G)) := encInts.app_owns rfl hl hb hy
theorem appv_intss0 {G : List Entry} {ver : Nat} {l : List (List Int)} {bytes : Nat} (ys : List (List Int)) (hl : l.length + ys.length ≤ maxRow) (hb : bytes ≤ 4096) : ∃ v, evAppend (.arr 1 ver (l.map (ints)) :: G) 1 bytes (.own 0 ver 0 l.length) (ys.map (ints)) = some (.own 0 v 0 (l ++ ys).length, (.arr 1 v ((l ++ ys).map (ints)) :: G)) := encInts.app_any rfl hl hb
theorem canon_intss0 {G : List Entry} {ver : Nat} {l : List (List Int)} {k : Nat} : canon (.arr 1 ver (l.map (ints)) :: G) (k + 1) (.own 0 ver 0 l.length) = intss l := encInts.canon_own_all rfl k
theorem canon_sintss0 {G : List Entry} {ver : Nat} {l : List (List Int)} {k lo hi : Nat} (h : hi ≤ l.length) : canon (.arr 1 ver (l.map (ints)) :: G) (k + 1) (.own 0 ver lo hi) = intss ((l.take hi).drop lo) := encInts.canon_own rfl h k
theorem oneIn_intss0 {G : List Entry} {ver : Nat} {l : List (List Int)} {lo hi : Nat} : (AV.own 0 ver lo hi).oneIn (.arr 1 ver (l.map (ints)) :: G) = true := by simp [AV.oneIn]
theorem rowLen_intss1 {G : List Entry} {e0 : Entry} {ver : Nat} {l : List (List Int)} {lo hi : Nat} : rowLen (e0 :: .arr 1 ver (l.map (ints)) :: G) (.own 1 ver lo hi) = some (hi - lo) := encInts.rowLen_own rfl
theorem seen_intss1 {G : List Entry} {e0 : Entry} {ver : Nat} {l : List (List Int)} : seen (e0 :: .arr 1 ver (l.map (ints)) :: G) (.own 1 ver 0 l.length) = some (l.map (ints)) := encInts.seen_own rfl
theorem index_intss1 {G : List Entry} {e0 : Entry} {ver : Nat} {l : List (List Int)} {k : Nat} (hk : k < l.length) : evIndex (e0 :: .arr 1 ver (l.map (ints)) :: G) 1 (.own 1 ver 0 l.length) (.int .i64 (k : Int)) = some (.eptr 1 ver k 0) := encInts.index_own rfl hk
theorem indexI_intss1 {G : List Entry} {e0 : Entry} {ver : Nat} {l : List (List Int)} {k : Int} (h0 : 0 ≤ k) (hk : k.toNat < l.length) : evIndex (e0 :: .arr 1 ver (l.map (ints)) :: G) 1 (.own 1 ver 0 l.length) (.int .i64 k) = some (.eptr 1 ver k.toNat 0) := encInts.indexI_own rfl h0 hk
theorem app_intss1 {G : List Entry} {e0 : Entry} {ver : Nat} {l : List (List Int)} {bytes : Nat} {x : List Int} (hl : l.length + 1 ≤ maxRow) (hb : bytes ≤ 4096) : evAppend (e0 :: .arr 1 ver (l.map (ints)) :: G) 1 bytes (.own 1 ver 0 l.length) [ints x] = some (.own 1 (ver + 1) 0 (l ++ [x]).length, (e0 :: .arr 1 (ver + 1) ((l ++ [x]).map (ints)) :: G)) := encInts.app_own rfl hl hb
theorem apps_intss1 {G : List Entry} {e0 : Entry} {ver : Nat} {l : List (List Int)} {bytes : Nat} {ys : List (List Int)} (hl : l.length + ys.length ≤ maxRow) (hb : bytes ≤ 4096) (hy : ys ≠ []) : evAppend (e0 :: .arr 1 ver (l.map (ints)) :: G) 1 bytes (.own 1 ver 0 l.length) (ys.map (ints)) = some (.own 1 (ver + 1) 0 (l ++ ys).length, (e0 :: .arr 1 (ver + 1) ((l ++ ys).map (ints)) :: G)) := encInts.app_owns rfl hl hb hy
theorem appv_intss1 {G : List Entry} {e0 : Entry} {ver : Nat} {l : List (List Int)} {bytes : Nat} (ys : List (List Int)) (hl : l.length + ys.length ≤ maxRow) (hb : bytes ≤ 4096) : ∃ v, evAppend (e0 :: .arr 1 ver (l.map (ints)) :: G) 1 bytes (.own 1 ver 0 l.length) (ys.map (ints)) = some (.own 1 v 0 (l ++ ys).length, (e0 :: .arr 1 v ((l ++ ys).map (ints)) :: G)) := encInts.app_any rfl hl hb
theorem canon_intss1 {G : List Entry} {e0 : Entry} {ver : Nat} {l : List (List Int)} {k : Nat} : canon (e0 :: .arr 1 ver (l.map (ints)) :: G) (k + 1) (.own 1 ver 0 l.length) = intss l := encInts.canon_own_all rfl k
theorem canon_sintss1 {G : List Entry} {e0 : Entry} {ver : Nat} {l : List (List Int)} {k lo hi : Nat} (h : hi ≤ l.length) : canon (e0 :: .arr 1 ver (l.map (ints)) :: G) (k + 1) (.own 1 ver lo hi) = intss ((l.take hi).drop lo) := encInts.canon_own rfl h k
theorem oneIn_intss1 {G : List Entry} {e0 : Entry} {ver : Nat} {l : List (List Int)} {lo hi : Nat} : (AV.own 1 ver lo hi).oneIn (e0 :: .arr 1 ver (l.map (ints)) :: G) = true := by simp [AV.oneIn]
theorem rowLen_intss2 {G : List Entry} {e0 e1 : Entry} {ver : Nat} {l : List (List Int)} {lo hi : Nat} : rowLen (e0 :: e1 :: .arr 1 ver (l.map (ints)) :: G) (.own 2 ver lo hi) = some (hi - lo) := encInts.rowLen_own rfl
theorem seen_intss2 {G : List Entry} {e0 e1 : Entry} {ver : Nat} {l : List (List Int)} : seen (e0 :: e1 :: .arr 1 ver (l.map (ints)) :: G) (.own 2 ver 0 l.length) = some (l.map (ints)) := encInts.seen_own rfl
theorem index_intss2 {G : List Entry} {e0 e1 : Entry} {ver : Nat} {l : List (List Int)} {k : Nat} (hk : k < l.length) : evIndex (e0 :: e1 :: .arr 1 ver (l.map (ints)) :: G) 1 (.own 2 ver 0 l.length) (.int .i64 (k : Int)) = some (.eptr 2 ver k 0) := encInts.index_own rfl hk
theorem indexI_intss2 {G : List Entry} {e0 e1 : Entry} {ver : Nat} {l : List (List Int)} {k : Int} (h0 : 0 ≤ k) (hk : k.toNat < l.length) : evIndex (e0 :: e1 :: .arr 1 ver (l.map (ints)) :: G) 1 (.own 2 ver 0 l.length) (.int .i64 k) = some (.eptr 2 ver k.toNat 0) := encInts.indexI_own rfl h0 hk
theorem app_intss2 {G : List Entry} {e0 e1 : Entry} {ver : Nat} {l : List (List Int)} {bytes : Nat} {x : List Int} (hl : l.length + 1 ≤ maxRow) (hb : bytes ≤ 4096) : evAppend (e0 :: e1 :: .arr 1 ver (l.map (ints)) :: G) 1 bytes (.own 2 ver 0 l.length) [ints x] = some (.own 2 (ver + 1) 0 (l ++ [x]).length, (e0 :: e1 :: .arr 1 (ver + 1) ((l ++ [x]).map (ints)) :: G)) := encInts.app_own rfl hl hb
theorem apps_intss2 {G : List Entry} {e0 e1 : Entry} {ver : Nat} {l : List (List Int)} {bytes : Nat} {ys : List (List Int)} (hl : l.length + ys.length ≤ maxRow) (hb : bytes ≤ 4096) (hy : ys ≠ []) : evAppend (e0 :: e1 :: .arr 1 ver (l.map (ints)) :: G) 1 bytes (.own 2 ver 0 l.length) (ys.map (ints)) = some (.own 2 (ver + 1) 0 (l ++ ys).length, (e0 :: e1 :: .arr 1 (ver + 1) ((l ++ ys).map (ints)) :: G)) := encInts.app_owns rfl hl hb hy
theorem appv_intss2 {G : List Entry} {e0 e1 : Entry} {ver : Nat} {l : List (List Int)} {bytes : Nat} (ys : List (List Int)) (hl : l.length + ys.length ≤ maxRow) (hb : bytes ≤ 4096) : ∃ v, evAppend (e0 :: e1 :: .arr 1 ver (l.map (ints)) :: G) 1 bytes (.own 2 ver 0 l.length) (ys.map (ints)) = some (.own 2 v 0 (l ++ ys).length, (e0 :: e1 :: .arr 1 v ((l ++ ys).map (ints)) :: G)) := encInts.app_any rfl hl hb
theorem canon_intss2 {G : List Entry} {e0 e1 : Entry} {ver : Nat} {l : List (List Int)} {k : Nat} : canon (e0 :: e1 :: .arr 1 ver (l.map (ints)) :: G) (k + 1) (.own 2 ver 0 l.length) = intss l := encInts.canon_own_all rfl k
theorem canon_sintss2 {G : List Entry} {e0 e1 : Entry} {ver : Nat} {l : List (List Int)} {k lo hi : Nat} (h : hi ≤ l.length) : canon (e0 :: e1 :: .arr 1 ver (l.map (ints)) :: G) (k + 1) (.own 2 ver lo hi) = intss ((l.take hi).drop lo) := encInts.canon_own rfl h k
theorem oneIn_intss2 {G : List Entry} {e0 e1 : Entry} {ver : Nat} {l : List (List Int)} {lo hi : Nat} : (AV.own 2 ver lo hi).oneIn (e0 :: e1 :: .arr 1 ver (l.map (ints)) :: G) = true := by simp [AV.oneIn]
theorem rowLen_intss3 {G : List Entry} {e0 e1 e2 : Entry} {ver : Nat} {l : List (List Int)} {lo hi : Nat} : rowLen (e0 :: e1 :: e2 :: .arr 1 ver (l.map (ints)) :: G) (.own 3 ver lo hi) = some (hi - lo) := encInts.rowLen_own rfl
theorem seen_intss3 {G : List Entry} {e0 e1 e2 : Entry} {ver : Nat} {l : List (List Int)} : seen (e0 :: e1 :: e2 :: .arr 1 ver (l.map (ints)) :: G) (.own 3 ver 0 l.length) = some (l.map (ints)) := encInts.seen_own rfl
theorem index_intss3 {G : List Entry} {e0 e1 e2 : Entry} {ver : Nat} {l : List (List Int)} {k : Nat} (hk : k < l.length) : evIndex (e0 :: e1 :: e2 :: .arr 1 ver (l.map (ints)) :: G) 1 (.own 3 ver 0 l.length) (.int .i64 (k : Int)) = some (.eptr 3 ver k 0) := encInts.index_own rfl hk
theorem indexI_intss3 {G : List Entry} {e0 e1 e2 : Entry} {ver : Nat} {l : List (List Int)} {k : Int} (h0 : 0 ≤ k) (hk : k.toNat < l.length) : evIndex (e0 :: e1 :: e2 :: .arr 1 ver (l.map (ints)) :: G) 1 (.own 3 ver 0 l.length) (.int .i64 k) = some (.eptr 3 ver k.toNat 0) := encInts.indexI_own rfl h0 hk
theorem app_intss3 {G : List Entry} {e0 e1 e2 : Entry} {ver : Nat} {l : List (List Int)} {bytes : Nat} {x : List Int} (hl : l.length + 1 ≤ maxRow) (hb : bytes ≤ 4096) : evAppend (e0 :: e1 :: e2 :: .arr 1 ver (l.map (ints)) :: G) 1 bytes (.own 3 ver 0 l.length) [ints x] = some (.own 3 (ver + 1) 0 (l ++ [x]).length, (e0 :: e1 :: e2 :: .arr 1 (ver + 1) ((l ++ [x]).map (ints)) :: G)) := encInts.app_own rfl hl hb
theorem apps_intss3 {G : List Entry} {e0 e1 e2 : Entry} {ver : Nat} {l : List (List Int)} {bytes : Nat} {ys : List (List Int)} (hl : l.length + ys.length ≤ maxRow) (hb : bytes ≤ 4096) (hy : ys ≠ []) : evAppend (e0 :: e1 :: e2 :: .arr 1 ver (l.map (ints)) :: G) 1 bytes (.own 3 ver 0 l.length) (ys.map (ints)) = some (.own 3 (ver + 1) 0 (l ++ ys).length, (e0 :: e1 :: e2 :: .arr 1 (ver + 1) ((l ++ ys).map (ints)) :: G)) := encInts.app_owns rfl hl hb hy
theorem appv_intss3 {G : List Entry} {e0 e1 e2 : Entry} {ver : Nat} {l : List (List Int)} {bytes : Nat} (ys : List (List Int)) (hl : l.length + ys.length ≤ maxRow) (hb : bytes ≤ 4096) : ∃ v, evAppend (e0 :: e1 :: e2 :: .arr 1 ver (l.map (ints)) :: G) 1 bytes (.own 3 ver 0 l.length) (ys.map (ints)) = some (.own 3 v 0 (l ++ ys).length, (e0 :: e1 :: e2 :: .arr 1 v ((l ++ ys).map (ints)) :: G)) := encInts.app_any rfl hl hb
theorem canon_intss3 {G : List Entry} {e0 e1 e2 : Entry} {ver : Nat} {l : List (List Int)} {k : Nat} : canon (e0 :: e1 :: e2 :: .arr 1 ver (l.map (ints)) :: G) (k + 1) (.own 3 ver 0 l.length) = intss l := encInts.canon_own_all rfl k
theorem canon_sintss3 {G : List Entry} {e0 e1 e2 : Entry} {ver : Nat} {l : List (List Int)} {k lo hi : Nat} (h : hi ≤ l.length) : canon (e0 :: e1 :: e2 :: .arr 1 ver (l.map (ints)) :: G) (k + 1) (.own 3 ver lo hi) = intss ((l.take hi).drop lo) := encInts.canon_own rfl h k
theorem oneIn_intss3 {G : List Entry} {e0 e1 e2 : Entry} {ver : Nat} {l : List (List Int)} {lo hi : Nat} : (AV.own 3 ver lo hi).oneIn (e0 :: e1 :: e2 :: .arr 1 ver (l.map (ints)) :: G) = true := by simp [AV.oneIn]
theorem rowLen_octss (H : List Entry) (l : List (List Int)) : rowLen H (octss l) = some l.length := encOcts.rowLen H l
theorem index_octss (H : List Entry) (l : List (List Int)) (k : Nat) (h : k < l.length) : evIndex H 1 (octss l) (.int .i64 (k : Int)) = some (.iptr [octs l[k]] 0) := encOcts.index H l k h
theorem seen_octss (H : List Entry) (l : List (List Int)) : seen H (octss l) = some (l.map (octs)) := rfl
theorem idb_octss (n : Nat) (l : List (List Int)) : Idb n (octss l) = True := eq_true (encOcts.idb_row n l)
theorem entB_octss (n sz ver : Nat) (l : List (List Int)) : EntB n (.arr sz ver (l.map (octs))) = True := eq_true (encOcts.entB n ver sz l)
theorem szOk_octss (H : List Entry) (l : List (List Int)) : szOk H 1 (l.map (octs)) = true := encOcts.szOk H l
theorem indexI_octss (H : List Entry) (l : List (List Int)) (k : Int) (h0 : 0 ≤ k) (h : k.toNat < l.length) : evIndex H 1 (octss l) (.int .i64 k) = some (.iptr [octs l[k.toNat]] 0) := encOcts.indexI H l k h0 h
theorem sliceF_octss (H : List Entry) (l : List (List Int)) (a : Int) (h0 : 0 ≤ a) (h : a.toNat ≤ l.length) : evSlice H 1 (octss l) (some (.int .i64 a)) none none = some (octss (l.drop a.toNat)) := encOcts.sliceF H l a h0 h
theorem sliceT_octss (H : List Entry) (l : List (List Int)) (b : Int) (h0 : 0 ≤ b) (h : b.toNat ≤ l.length) : evSlice H 1 (octss l) none (some (.int .i64 b)) none = some (octss (l.take b.toNat)) := encOcts.sliceT H l b h0 h
theorem sliceFT_octss (H : List Entry) (l : List (List Int)) (a b : Int) (h0 : 0 ≤ a) (h1 : a ≤ b) (h : b.toNat ≤ l.length) : evSlice H 1 (octss l) (some (.int .i64 a)) (some (.int .i64 b)) none = some (octss ((l.take b.toNat).drop a.toNat)) := encOcts.sliceFT H l a b h0 h1 h
theorem sliceTT_octss (H : List Entry) (l : List (List Int)) (b : Int) (h0 : 0 ≤ b) (h : b.toNat ≤ l.length) : evSlice H 1 (octss l) none (some (.int .i64 b)) (some (.int .i64 b)) = some (.list true ((l.take b.toNat).map (octs))) := encOcts.sliceTT H l b h0 h
theorem canon_octss' (H : List Entry) (k : Nat) (l : List (List Int)) : canon H k (octss l) = octss l := encOcts.canon_row H k l
theorem canon_toctss (H : List Entry) (k : Nat) (t : Bool) (l : List (List Int)) : canon H (k + 1) (.list t (l.map (octs))) = octss l := encOcts.canon_tight H k t l
theorem canon_nil_octss (H : List Entry) (k : Nat) (t : Bool) : canon H (k + 1) (.list t []) = octss [] := rfl
theorem app_t_octss (H : List Entry) (bytes : Nat) (l : List (List Int)) (x : List Int) (hl : l.length + 1 ≤ maxRow) (hb : bytes ≤ 4096) : evAppend H 1 bytes (.list true (l.map (octs))) [octs x] = some (.own H.length 0 0 (l ++ [x]).length, H ++ [.arr 1 0 ((l ++ [x]).map (octs))]) := encOcts.app_tight hl hb
theorem app_ts_octss (H : List Entry) (bytes : Nat) (l ys : List (List Int)) (hl : l.length + ys.length ≤ maxRow) (hb : bytes ≤ 4096) (hy : ys ≠ []) : evAppend H 1 bytes (.list true (l.map (octs))) (ys.map (octs)) = some (.own H.length 0 0 (l ++ ys).length, H ++ [.arr 1 0 ((l ++ ys).map (octs))]) := encOcts.app_tights hl hb hy
theorem rowLen_octss0 {G : List Entry} {ver : Nat} {l : List (List Int)} {lo hi : Nat} : rowLen (.arr 1 ver (l.map (octs)) :: G) (.own 0 ver lo hi) = some (hi - lo) := encOcts.rowLen_own rfl
theorem seen_octss0 {G : List Entry} {ver : Nat} {l : List (List Int)} : seen (.arr 1 ver (l.map (octs)) :: G) (.own 0 ver 0 l.length) = some (l.map (octs)) := encOcts.seen_own rfl
theorem index_octss0 {G : List Entry} {ver : Nat} {l : List (List Int)} {k : Nat} (hk : k < l.length) : evIndex (.arr 1 ver (l.map (octs)) :: G) 1 (.own 0 ver 0 l.length) (.int .i64 (k : Int)) = some (.eptr 0 ver k 0) := encOcts.index_own rfl hk
theorem indexI_octss0 {G : List Entry} {ver : Nat} {l : List (List Int)} {k : Int} (h0 : 0 ≤ k) (hk : k.toNat < l.length) : evIndex (.arr 1 ver (l.map (octs)) :: G) 1 (.own 0 ver 0 l.length) (.int .i64 k) = some (.eptr 0 ver k.toNat 0) := encOcts.indexI_own rfl h0 hk
theorem app_octss0 {G : List Entry} {ver : Nat} {l : List (List Int)} {bytes : Nat} {x : List Int} (hl : l.length + 1 ≤ maxRow) (hb : bytes ≤ 4096) : evAppend (.arr 1 ver (l.map (octs)) :: G) 1 bytes (.own 0 ver 0 l.length) [octs x] = some (.own 0 (ver + 1) 0 (l ++ [x]).length, (.arr 1 (ver + 1) ((l ++ [x]).map (octs)) :: G)) := encOcts.app_own rfl hl hb
theorem apps_octss0 {G : List Entry} {ver : Nat} {l : List (List Int)} {bytes : Nat} {ys : List (List Int)} (hl : l.length + ys.length ≤ maxRow) (hb : bytes ≤ 4096) (hy : ys ≠ []) : evAppend (.arr 1 ver (l.map (octs)) :: G) 1 bytes (.own 0 ver 0 l.length) (ys.map (octs)) = some (.own 0 (ver + 1) 0 (l ++ ys).length, (.arr 1 (ver + 1) ((l ++ ys).map (octs)) :: G)) := encOcts.app_owns rfl hl hb hy
theorem appv_octss0 {G : List Entry} {ver : Nat} {l : List (List Int)} {bytes : Nat} (ys : List (List Int)) (hl : l.length + ys.length ≤ maxRow) (hb : bytes ≤ 4096) : ∃ v, evAppend (.arr 1 ver (l.map (octs)) :: G) 1 bytes (.own 0 ver 0 l.length) (ys.map (octs)) = some (.own 0 v 0 (l ++ ys).length, (.arr 1 v ((l ++ ys).map (octs)) :: G)) := encOcts.app_any rfl hl hb
theorem canon_octss0 {G : List Entry} {ver : Nat} {l : List (List Int)} {k : Nat} : canon (.arr 1 ver (l.map (octs)) :: G) (k + 1) (.own 0 ver 0 l.length) = octss l := encOcts.canon_own_all rfl k
theorem canon_soctss0 {G : List Entry} {ver : Nat} {l : List (List Int)} {k lo hi : Nat} (h : hi ≤ l.length) : canon (.arr 1 ver (l.map (octs)) :: G) (k + 1) (.own 0 ver lo hi) = octss ((l.take hi).drop lo) := encOcts.canon_own rfl h k
theorem oneIn_octss0 {G : List Entry} {ver : Nat} {l : List (List Int)} {lo hi : Nat} : (AV.own 0 ver lo hi).oneIn (.arr 1 ver (l.map (octs)) :: G) = true := by simp [AV.oneIn]
theorem rowLen_octss1 {G : List Entry} {e0 : Entry} {ver : Nat} {l : List (List Int)} {lo hi : Nat} : rowLen (e0 :: .arr 1 ver (l.map (octs)) :: G) (.own 1 ver lo hi) = some (hi - lo) := encOcts.rowLen_own rfl
theorem seen_octss1 {G : List Entry} {e0 : Entry} {ver : Nat} {l : List (List Int)} : seen (e0 :: .arr 1 ver (l.map (octs)) :: G) (.own 1 ver 0 l.length) = some (l.map (octs)) := encOcts.seen_own rfl
theorem index_octss1 {G : List Entry} {e0 : Entry} {ver : Nat} {l : List (List Int)} {k : Nat} (hk : k < l.length) : evIndex (e0 :: .arr 1 ver (l.map (octs)) :: G) 1 (.own 1 ver 0 l.length) (.int .i64 (k : Int)) = some (.eptr 1 ver k 0) := encOcts.index_own rfl hk
theorem indexI_octss1 {G : List Entry} {e0 : Entry} {ver : Nat} {l : List (List Int)} {k : Int} (h0 : 0 ≤ k) (hk : k.toNat < l.length) : evIndex (e0 :: .arr 1 ver (l.map (octs)) :: G) 1 (.own 1 ver 0 l.length) (.int .i64 k) = some (.eptr 1 ver k.toNat 0) := encOcts.indexI_own rfl h0 hk
theorem app_octss1 {G : List Entry} {e0 : Entry} {ver : Nat} {l : List (List Int)} {bytes : Nat} {x : List Int} (hl : l.length + 1 ≤ maxRow) (hb : bytes ≤ 4096) : evAppend (e0 :: .arr 1 ver (l.map (octs)) :: G) 1 bytes (.own 1 ver 0 l.length) [octs x] = some (.own 1 (ver + 1) 0 (l ++ [x]).length, (e0 :: .arr 1 (ver + 1) ((l ++ [x]).map (octs)) :: G)) := encOcts.app_own rfl hl hb
theorem apps_octss1 {G : List Entry} {e0 : Entry} {ver : Nat} {l : List (List Int)} {bytes : Nat} {ys : List (List Int)} (hl : l.length + ys.length ≤ maxRow) (hb : bytes ≤ 4096) (hy : ys ≠ []) : evAppend (e0 :: .arr 1 ver (l.map (octs)) :: G) 1 bytes (.own 1 ver 0 l.length) (ys.map (octs)) = some (.own 1 (ver + 1) 0 (l ++ ys).length, (e0 :: .arr 1 (ver + 1) ((l ++ ys).map (octs)) :: G)) := encOcts.app_owns rfl hl hb hy
theorem appv_octss1 {G : List Entry} {e0 : Entry} {ver : Nat} {l : List (List Int)} {bytes : Nat} (ys : List (List Int)) (hl : l.length + ys.length ≤ maxRow) (hb : bytes ≤ 4096) : ∃ v, evAppend (e0 :: .arr 1 ver (l.map (octs)) :: G) 1 bytes (.own 1 ver 0 l.length) (ys.map (octs)) = some (.own 1 v 0 (l ++ ys).length, (e0 :: .arr 1 v ((l ++ ys).map (octs)) :: G)) := encOcts.app_any rfl hl hb
theorem canon_octss1 {G : List Entry} {e0 : Entry} {ver : Nat} {l : List (List Int)} {k : Nat} : canon (e0 :: .arr 1 ver (l.map (octs)) :: G) (k + 1) (.own 1 ver 0 l.length) = octss l := encOcts.canon_own_all rfl k
theorem canon_soctss1 {G : List Entry} {e0 : Entry} {ver : Nat} {l : List (List Int)} {k lo hi : Nat} (h : hi ≤ l.length) : canon (e0 :: .arr 1 ver (l.map (octs)) :: G) (k + 1) (.own 1 ver lo hi) = octss ((l.take hi).drop lo) := encOcts.canon_own rfl h k
theorem oneIn_octss1 {G : List Entry} {e0 : Entry} {ver : Nat} {l : List (List Int)} {lo hi : Nat} : (AV.own 1 ver lo hi).oneIn (e0 :: .arr 1 ver (l.map (octs)) :: G) = true := by simp [AV.oneIn]
theorem rowLen_octss2 {G : List Entry} {e0 e1 : Entry} {ver : Nat} {l : List (List Int)} {lo hi : Nat} : rowLen (e0 :: e1 :: .arr 1 ver (l.map (octs)) :: G) (.own 2 ver lo hi) = some (hi - lo) := encOcts.rowLen_own rfl
theorem seen_octss2 {G : List Entry} {e0 e1 : Entry} {ver : Nat} {l : List (List Int)} : seen (e0 :: e1 :: .arr 1 ver (l.map (octs)) :: G) (.own 2 ver 0 l.length) = some (l.map (octs)) := encOcts.seen_own rfl
theorem index_octss2 {G : List Entry} {e0 e1 : Entry} {ver : Nat} {l : List (List Int)} {k : Nat} (hk : k < l.length) : evIndex (e0 :: e1 :: .arr 1 ver (l.map (octs)) :: G) 1 (.own 2 ver 0 l.length) (.int .i64 (k : Int)) = some (.eptr 2 ver k 0) := encOcts.index_own rfl hk
theorem indexI_octss2 {G : List Entry} {e0 e1 : Entry} {ver : Nat} {l : List (List Int)} {k : Int} (h0 : 0 ≤ k) (hk : k.toNat < l.length) : evIndex (e0 :: e1 :: .arr 1 ver (l.map (octs)) :: G) 1 (.own 2 ver 0 l.length) (.int .i64 k) = some (.eptr 2 ver k.toNat 0) := encOcts.indexI_own rfl h0 hk
theorem app_octss2 {G : List Entry} {e0 e1 : Entry} {ver : Nat} {l : List (List Int)} {bytes : Nat} {x : List Int} (hl : l.length + 1 ≤ maxRow) (hb : bytes ≤ 4096) : evAppend (e0 :: e1 :: .arr 1 ver (l.map (octs)) :: G) 1 bytes (.own 2 ver 0 l.length) [octs x] = some (.own 2 (ver + 1) 0 (l ++ [x]).length, (e0 :: e1 :: .arr 1 (ver + 1) ((l ++ [x]).map (octs)) :: G)) := encOcts.app_own rfl hl hb
theorem apps_octss2 {G : List Entry} {e0 e1 : Entry} {ver : Nat} {l : List (List Int)} {bytes : Nat} {ys : List (List Int)} (hl : l.length + ys.length ≤ maxRow) (hb : bytes ≤ 4096) (hy : ys ≠ []) : evAppend (e0 :: e1 :: .arr 1 ver (l.map (octs)) :: G) 1 bytes (.own 2 ver 0 l.length) (ys.map (octs)) = some (.own 2 (ver + 1) 0 (l ++ ys).length, (e0 :: e1 :: .arr 1 (ver + 1) ((l ++ ys).map (octs)) :: G)) := encOcts.app_owns rfl hl hb hy
theorem appv_octss2 {G : List Entry} {e0 e1 : Entry} {ver : Nat} {l : List (List Int)} {bytes : Nat} (ys : List (List Int)) (hl : l.length + ys.length ≤ maxRow) (hb : bytes ≤ 4096) : ∃ v, evAppend (e0 :: e1 :: .arr 1 ver (l.map (octs)) :: G) 1 bytes (.own 2 ver 0 l.length) (ys.map (octs)) = some (.own 2 v 0 (l ++ ys).length, (e0 :: e1 :: .arr 1 v ((l ++ ys).map (octs)) :: G)) := encOcts.app_any rfl hl hb
theorem canon_octss2 {G : List Entry} {e0 e1 : Entry} {ver : Nat} {l : List (List Int)} {k : Nat} : canon (e0 :: e1 :: .arr 1 ver (l.map (octs)) :: G) (k + 1) (.own 2 ver 0 l.length) = octss l := encOcts.canon_own_all rfl k
theorem canon_soctss2 {G : List Entry} {e0 e1 : Entry} {ver : Nat} {l : List (List Int)} {k lo hi : Nat} (h : hi ≤ l.length) : canon (e0 :: e1 :: .arr 1 ver (l.map (octs)) :: G) (k + 1) (.own 2 ver lo hi) = octss ((l.take hi).drop lo) := encOcts.canon_own rfl h k
theorem oneIn_octss2 {G : List Entry} {e0 e1 : Entry} {ver : Nat} {l : List (List Int)} {lo hi : Nat} : (AV.own 2 ver lo hi).oneIn (e0 :: e1 :: .arr 1 ver (l.map (octs)) :: G) = true := by simp [AV.oneIn]
theorem rowLen_octss3 {G : List Entry} {e0 e1 e2 : Entry} {ver : Nat} {l : List (List Int)} {lo hi : Nat} : rowLen (e0 :: e1 :: e2 :: .arr 1 ver (l.map (octs)) :: G) (.own 3 ver lo hi) = some (hi - lo) := encOcts.rowLen_own rfl
theorem seen_octss3 {G : List Entry} {e0 e1 e2 : Entry} {ver : Nat} {l : List (List Int)} : seen (e0 :: e1 :: e2 :: .arr 1 ver (l.map (octs)) :: G) (.own 3 ver 0 l.length) = some (l.map (octs)) := encOcts.seen_own rfl
theorem index_octss3 {G : List Entry} {e0 e1 e2 : Entry} {ver : Nat} {l : List (List Int)} {k : Nat} (hk : k < l.length) : evIndex (e0 :: e1 :: e2 :: .arr 1 ver (l.map (octs)) :: G) 1 (.own 3 ver 0 l.length) (.int .i64 (k : Int)) = some (.eptr 3 ver k 0) := encOcts.index_own rfl hk
theorem indexI_octss3 {G : List Entry} {e0 e1 e2 : Entry} {ver : Nat} {l : List (List Int)} {k : Int} (h0 : 0 ≤ k) (hk : k.toNat < l.length) : evIndex (e0 :: e1 :: e2 :: .arr 1 ver (l.map (octs)) :: G) 1 (.own 3 ver 0 l.length) (.int .i64 k) = some (.eptr 3 ver k.toNat 0) := encOcts.indexI_own rfl h0 hk
theorem app_octss3 {G : List Entry} {e0 e1 e2 : Entry} {ver : Nat} {l : List (List Int)} {bytes : Nat} {x : List Int} (hl : l.length + 1 ≤ maxRow) (hb : bytes ≤ 4096) : evAppend (e0 :: e1 :: e2 :: .arr 1 ver (l.map (octs)) :: G) 1 bytes (.own 3 ver 0 l.length) [octs x] = some (.own 3 (ver + 1) 0 (l ++ [x]).length, (e0 :: e1 :: e2 :: .arr 1 (ver + 1) ((l ++ [x]).map (octs)) :: G)) := encOcts.app_own rfl hl hb
theorem apps_octss3 {G : List Entry} {e0 e1 e2 : Entry} {ver : Nat} {l : List (List Int)} {bytes : Nat} {ys : List (List Int)} (hl : l.length + ys.length ≤ maxRow) (hb : bytes ≤ 4096) (hy : ys ≠ []) : evAppend (e0 :: e1 :: e2 :: .arr 1 ver (l.map (octs)) :: G) 1 bytes (.own 3 ver 0 l.length) (ys.map (octs)) = some (.own 3 (ver + 1) 0 (l ++ ys).length, (e0 :: e1 :: e2 :: .arr 1 (ver + 1) ((l ++ ys).map (octs)) :: G)) := encOcts.app_owns rfl hl hb hy
theorem appv_octss3 {G : List Entry} {e0 e1 e2 : Entry} {ver : Nat} {l : List (List Int)} {bytes : Nat} (ys : List (List Int)) (hl : l.length + ys.length ≤ maxRow) (hb : bytes ≤ 4096) : ∃ v, evAppend (e0 :: e1 :: e2 :: .arr 1 ver (l.map (octs)) :: G) 1 bytes (.own 3 ver 0 l.length) (ys.map (octs)) = some (.own 3 v 0 (l ++ ys).length, (e0 :: e1 :: e2 :: .arr 1 v ((l ++ ys).map (octs)) :: G)) := encOcts.app_any rfl hl hb
theorem canon_octss3 {G : List Entry} {e0 e1 e2 : Entry} {ver : Nat} {l : List (List Int)} {k : Nat} : canon (e0 :: e1 :: e2 :: .arr 1 ver (l.map (octs)) :: G) (k + 1) (.own 3 ver 0 l.length) = octss l := encOcts.canon_own_all rfl k
theorem canon_soctss3 {G : List Entry} {e0 e1 e2 : Entry} {ver : Nat} {l : List (List Int)} {k lo hi : Nat} (h : hi ≤ l.length) : canon (e0 :: e1 :: e2 :: .arr 1 ver (l.map (octs)) :: G) (k + 1) (.own 3 ver lo hi) = octss ((l.take hi).drop lo) := encOcts.canon_own rfl h k
theorem oneIn_octss3 {G : List Entry} {e0 e1 e2 : Entry} {ver : Nat} {l : List (List Int)} {lo hi : Nat} : (AV.own 3 ver lo hi).oneIn (e0 :: e1 :: e2 :: .arr 1 ver (l.map (octs)) :: G) = true := by simp [AV.oneIn]
theorem rowLen_nodes (H : List Entry) (l : List (Node)) : rowLen H (nodes l) = some l.length := encNode.rowLen H l
theorem index_nodes (H : List Entry) (l : List (Node)) (k : Nat) (h : k < l.length) : evIndex H 8 (nodes l) (.int .i64 (k : Int)) = some (.iptr l[k].cells 0) := encNode.index H l k h
theorem seen_nodes (H : List Entry) (l : List (Node)) : seen H (nodes l) = some (l.map (nodeA)) := rfl
theorem idb_nodes (n : Nat) (l : List (Node)) : Idb n (nodes l) = True := eq_true (encNode.idb_row n l)
theorem entB_nodes (n sz ver : Nat) (l : List (Node)) : EntB n (.arr sz ver (l.map (nodeA))) = True := eq_true (encNode.entB n ver sz l)
theorem szOk_nodes (H : List Entry) (l : List (Node)) : szOk H 8 (l.map (nodeA)) = true := encNode.szOk H l
theorem indexI_nodes (H : List Entry) (l : List (Node)) (k : Int) (h0 : 0 ≤ k) (h : k.toNat < l.length) : evIndex H 8 (nodes l) (.int .i64 k) = some (.iptr l[k.toNat].cells 0) := encNode.indexI H l k h0 h
theorem sliceF_nodes (H : List Entry) (l : List (Node)) (a : Int) (h0 : 0 ≤ a) (h : a.toNat ≤ l.length) : evSlice H 8 (nodes l) (some (.int .i64 a)) none none = some (nodes (l.drop a.toNat)) := encNode.sliceF H l a h0 h
theorem sliceT_nodes (H : List Entry) (l : List (Node)) (b : Int) (h0 : 0 ≤ b) (h : b.toNat ≤ l.length) : evSlice H 8 (nodes l) none (some (.int .i64 b)) none = some (nodes (l.take b.toNat)) := encNode.sliceT H l b h0 h
theorem sliceFT_nodes (H : List Entry) (l : List (Node)) (a b : Int) (h0 : 0 ≤ a) (h1 : a ≤ b) (h : b.toNat ≤ l.length) : evSlice H 8 (nodes l) (some (.int .i64 a)) (some (.int .i64 b)) none = some (nodes ((l.take b.toNat).drop a.toNat)) := encNode.sliceFT H l a b h0 h1 h
theorem sliceTT_nodes (H : List Entry) (l : List (Node)) (b : Int) (h0 : 0 ≤ b) (h : b.toNat ≤ l.length) : evSlice H 8 (nodes l) none (some (.int .i64 b)) (some (.int .i64 b)) = some (.list true ((l.take b.toNat).map (nodeA))) := encNode.sliceTT H l b h0 h
theorem canon_nodes' (H : List Entry) (k : Nat) (l : List (Node)) : canon H k (nodes l) = nodes l := encNode.canon_row H k l
theorem canon_tnodes (H : List Entry) (k : Nat) (t : Bool) (l : List (Node)) : canon H (k + 1) (.list t (l.map (nodeA))) = nodes l := encNode.canon_tight H k t l
theorem canon_nil_nodes (H : List Entry) (k : Nat) (t : Bool) : canon H (k + 1) (.list t []) = nodes [] := rfl
theorem app_t_nodes (H : List Entry) (bytes : Nat) (l : List (Node)) (x : Node) (hl : l.length + 1 ≤ maxRow) (hb : bytes ≤ 4096) : evAppend H 8 bytes (.list true (l.map (nodeA))) [nodeA x] = some (.own H.length 0 0 (l ++ [x]).length, H ++ [.arr 8 0 ((l ++ [x]).map (nodeA))]) := encNode.app_tight hl hb
theorem app_ts_nodes (H : List Entry) (bytes : Nat) (l ys : List (Node)) (hl : l.length + ys.length ≤ maxRow) (hb : bytes ≤ 4096) (hy : ys ≠ []) : evAppend H 8 bytes (.list true (l.map (nodeA))) (ys.map (nodeA)) = some (.own H.length 0 0 (l ++ ys).length, H ++ [.arr 8 0 ((l ++ ys).map (nodeA))]) := encNode.app_tights hl hb hy
theorem rowLen_nodes0 {G : List Entry} {ver : Nat} {l : List (Node)} {lo hi : Nat} : rowLen (.arr 8 ver (l.map (nodeA)) :: G) (.own 0 ver lo hi) = some (hi - lo) := encNode.rowLen_own rfl
theorem seen_nodes0 {G : List Entry} {ver : Nat} {l : List (Node)} : seen (.arr 8 ver (l.map (nodeA)) :: G) (.own 0 ver 0 l.length) = some (l.map (nodeA)) := encNode.seen_own rfl
theorem index_nodes0 {G : List Entry} {ver : Nat} {l : List (Node)} {k : Nat} (hk : k < l.length) : evIndex (.arr 8 ver (l.map (nodeA)) :: G) 8 (.own 0 ver 0 l.length) (.int .i64 (k : Int)) = some (.eptr 0 ver k 0) := encNode.index_own rfl hk
theorem indexI_nodes0 {G : List Entry} {ver : Nat} {l : List (Node)} {k : Int} (h0 : 0 ≤ k) (hk : k.toNat < l.length) : evIndex (.arr 8 ver (l.map (nodeA)) :: G) 8 (.own 0 ver 0 l.length) (.int .i64 k) = some (.eptr 0 ver k.toNat 0) := encNode.indexI_own rfl h0 hk
theorem app_nodes0 {G : List Entry} {ver : Nat} {l : List (Node)} {bytes : Nat} {x : Node} (hl : l.length + 1 ≤ maxRow) (hb : bytes ≤ 4096) : evAppend (.arr 8 ver (l.map (nodeA)) :: G) 8 bytes (.own 0 ver 0 l.length) [nodeA x] = some (.own 0 (ver + 1) 0 (l ++ [x]).length, (.arr 8 (ver + 1) ((l ++ [x]).map (nodeA)) :: G)) := encNode.app_own rfl hl hb
theorem apps_nodes0 {G : List Entry} {ver : Nat} {l : List (Node)} {bytes : Nat} {ys : List (Node)} (hl : l.length + ys.length ≤ maxRow) (hb : bytes ≤ 4096) (hy : ys ≠ []) : evAppend (.arr 8 ver (l.map (nodeA)) :: G) 8 bytes (.own 0 ver 0 l.length) (ys.map (nodeA)) = some (.own 0 (ver + 1) 0 (l ++ ys).length, (.arr 8 (ver + 1) ((l ++ ys).map (nodeA)) :: G)) := encNode.app_owns rfl hl hb hy
theorem appv_nodes0 {G : List Entry} {ver : Nat} {l : List (Node)} {bytes : Nat} (ys : List (Node)) (hl : l.length + ys.length ≤ maxRow) (hb : bytes ≤ 4096) : ∃ v, evAppend (.arr 8 ver (l.map (nodeA)) :: G) 8 bytes (.own 0 ver 0 l.length) (ys.map (nodeA)) = some (.own 0 v 0 (l ++ ys).length, (.arr 8 v ((l ++ ys).map (nodeA)) :: G)) := encNode.app_any rfl hl hb
theorem canon_nodes0 {G : List Entry} {ver : Nat} {l : List (Node)} {k : Nat} : canon (.arr 8 ver (l.map (nodeA)) :: G) (k + 1) (.own 0 ver 0 l.length) = nodes l := encNode.canon_own_all rfl k
theorem canon_snodes0 {G : List Entry} {ver : Nat} {l : List (Node)} {k lo hi : Nat} (h : hi ≤ l.length) : canon (.arr 8 ver (l.map (nodeA)) :: G) (k + 1) (.own 0 ver lo hi) = nodes ((l.take hi).drop lo) := encNode.canon_own rfl h k
theorem oneIn_nodes0 {G : List Entry} {ver : Nat} {l : List (Node)} {lo hi : Nat} : (AV.own 0 ver lo hi).oneIn (.arr 8 ver (l.map (nodeA)) :: G) = true := by simp [AV.oneIn]
theorem rowLen_nodes1 {G : List Entry} {e0 : Entry} {ver : Nat} {l : List (Node)} {lo hi : Nat} : rowLen (e0 :: .arr 8 ver (l.map (nodeA)) :: G) (.own 1 ver lo hi) = some (hi - lo) := encNode.rowLen_own rfl
theorem seen_nodes1 {G : List Entry} {e0 : Entry} {ver : Nat} {l : List (Node)} : seen (e0 :: .arr 8 ver (l.map (nodeA)) :: G) (.own 1 ver 0 l.length) = some (l.map (nodeA)) := encNode.seen_own rfl
theorem index_nodes1 {G : List Entry} {e0 : Entry} {ver : Nat} {l : List (Node)} {k : Nat} (hk : k < l.length) : evIndex (e0 :: .arr 8 ver (l.map (nodeA)) :: G) 8 (.own 1 ver 0 l.length) (.int .i64 (k : Int)) = some (.eptr 1 ver k 0) := encNode.index_own rfl hk
theorem indexI_nodes1 {G : List Entry} {e0 : Entry} {ver : Nat} {l : List (Node)} {k : Int} (h0 : 0 ≤ k) (hk : k.toNat < l.length) : evIndex (e0 :: .arr 8 ver (l.map (nodeA)) :: G) 8 (.own 1 ver 0 l.length) (.int .i64 k) = some (.eptr 1 ver k.toNat 0) := encNode.indexI_own rfl h0 hk
theorem app_nodes1 {G : List Entry} {e0 : Entry} {ver : Nat} {l : List (Node)} {bytes : Nat} {x : Node} (hl : l.length + 1 ≤ maxRow) (hb : bytes ≤ 4096) : evAppend (e0 :: .arr 8 ver (l.map (nodeA)) :: G) 8 bytes (.own 1 ver 0 l.length) [nodeA x] = some (.own 1 (ver + 1) 0 (l ++ [x]).length, (e0 :: .arr 8 (ver + 1) ((l ++ [x]).map (nodeA)) :: G)) := encNode.app_own rfl hl hb
theorem apps_nodes1 {G : List Entry} {e0 : Entry} {ver : Nat} {l : List (Node)} {bytes : Nat} {ys : List (Node)} (hl : l.length + ys.length ≤ maxRow) (hb : bytes ≤ 4096) (hy : ys ≠ []) : evAppend (e0 :: .arr 8 ver (l.map (nodeA)) :: G) 8 bytes (.own 1 ver 0 l.length) (ys.map (nodeA)) = some (.own 1 (ver + 1) 0 (l ++ ys).length, (e0 :: .arr 8 (ver + 1) ((l ++ ys).map (nodeA)) :: G)) := encNode.app_owns rfl hl hb hy
theorem appv_nodes1 {G : List Entry} {e0 : Entry} {ver : Nat} {l : List (Node)} {bytes : Nat} (ys : List (Node)) (hl : l.length + ys.length ≤ maxRow) (hb : bytes ≤ 4096) : ∃ v, evAppend (e0 :: .arr 8 ver (l.map (nodeA)) :: G) 8 bytes (.own 1 ver 0 l.length) (ys.map (nodeA)) = some (.own 1 v 0 (l ++ ys).length, (e0 :: .arr 8 v ((l ++ ys).map (nodeA)) :: G)) := encNode.app_any rfl hl hb
theorem canon_nodes1 {G : List Entry} {e0 : Entry} {ver : Nat} {l : List (Node)} {k : Nat} : canon (e0 :: .arr 8 ver (l.map (nodeA)) :: G) (k + 1) (.own 1 ver 0 l.length) = nodes l := encNode.canon_own_all rfl k
theorem canon_snodes1 {G : List Entry} {e0 : Entry} {ver : Nat} {l : List (Node)} {k lo hi : Nat} (h : hi ≤ l.length) : canon (e0 :: .arr 8 ver (l.map (nodeA)) :: G) (k + 1) (.own 1 ver lo hi) = nodes ((l.take hi).drop lo) := encNode.canon_own rfl h k
theorem oneIn_nodes1 {G : List Entry} {e0 : Entry} {ver : Nat} {l : List (Node)} {lo hi : Nat} : (AV.own 1 ver lo hi).oneIn (e0 :: .arr 8 ver (l.map (nodeA)) :: G) = true := by simp [AV.oneIn]
theorem rowLen_nodes2 {G : List Entry} {e0 e1 : Entry} {ver : Nat} {l : List (Node)} {lo hi : Nat} : rowLen (e0 :: e1 :: .arr 8 ver (l.map (nodeA)) :: G) (.own 2 ver lo hi) = some (hi - lo) := encNode.rowLen_own rfl
theorem seen_nodes2 {G : List Entry} {e0 e1 : Entry} {ver : Nat} {l : List (Node)} : seen (e0 :: e1 :: .arr 8 ver (l.map (nodeA)) :: G) (.own 2 ver 0 l.length) = some (l.map (nodeA)) := encNode.seen_own rfl
theorem index_nodes2 {G : List Entry} {e0 e1 : Entry} {ver : Nat} {l : List (Node)} {k : Nat} (hk : k < l.length) : evIndex (e0 :: e1 :: .arr 8 ver (l.map (nodeA)) :: G) 8 (.own 2 ver 0 l.length) (.int .i64 (k : Int)) = some (.eptr 2 ver k 0) := encNode.index_own rfl hk
theorem indexI_nodes2 {G : List Entry} {e0 e1 : Entry} {ver : Nat} {l : List (Node)} {k : Int} (h0 : 0 ≤ k) (hk : k.toNat < l.length) : evIndex (e0 :: e1 :: .arr 8 ver (l.map (nodeA)) :: G) 8 (.own 2 ver 0 l.length) (.int .i64 k) = some (.eptr 2 ver k.toNat 0) := encNode.indexI_own rfl h0 hk
theorem app_nodes2 {G : List Entry} {e0 e1 : Entry} {ver : Nat} {l : List (Node)} {bytes : Nat} {x : Node} (hl : l.length + 1 ≤ maxRow) (hb : bytes ≤ 4096) : evAppend (e0 :: e1 :: .arr 8 ver (l.map (nodeA)) :: G) 8 bytes (.own 2 ver 0 l.length) [nodeA x] = some (.own 2 (ver + 1) 0 (l ++ [x]).length, (e0 :: e1 :: .arr 8 (ver + 1) ((l ++ [x]).map (nodeA)) :: G)) := encNode.app_own rfl hl hb
theorem apps_nodes2 {G : List Entry} {e0 e1 : Entry} {ver : Nat} {l : List (Node)} {bytes : Nat} {ys : List (Node)} (hl : l.length + ys.length ≤ maxRow) (hb : bytes ≤ 4096) (hy : ys ≠ []) : evAppend (e0 :: e1 :: .arr 8 ver (l.map (nodeA)) :: G) 8 bytes (.own 2 ver 0 l.length) (ys.map (nodeA)) = some (.own 2 (ver + 1) 0 (l ++ ys).length, (e0 :: e1 :: .arr 8 (ver + 1) ((l ++ ys).map (nodeA)) :: G)) := encNode.app_owns rfl hl hb hy
theorem appv_nodes2 {G : List Entry} {e0 e1 : Entry} {ver : Nat} {l : List (Node)} {bytes : Nat} (ys : List (Node)) (hl : l.length + ys.length ≤ maxRow) (hb : bytes ≤ 4096) : ∃ v, evAppend (e0 :: e1 :: .arr 8 ver (l.map (nodeA)) :: G) 8 bytes (.own 2 ver 0 l.length) (ys.map (nodeA)) = some (.own 2 v 0 (l ++ ys).length, (e0 :: e1 :: .arr 8 v ((l ++ ys).map (nodeA)) :: G)) := encNode.app_any rfl hl hb
theorem canon_nodes2 {G : List Entry} {e0 e1 : Entry} {ver : Nat} {l : List (Node)} {k : Nat} : canon (e0 :: e1 :: .arr 8 ver (l.map (nodeA)) :: G) (k + 1) (.own 2 ver 0 l.length) = nodes l := encNode.canon_own_all rfl k
theorem canon_snodes2 {G : List Entry} {e0 e1 : Entry} {ver : Nat} {l : List (Node)} {k lo hi : Nat} (h : hi ≤ l.length) : canon (e0 :: e1 :: .arr 8 ver (l.map (nodeA)) :: G) (k + 1) (.own 2 ver lo hi) = nodes ((l.take hi).drop lo) := encNode.canon_own rfl h k
theorem oneIn_nodes2 {G : List Entry} {e0 e1 : Entry} {ver : Nat} {l : List (Node)} {lo hi : Nat} : (AV.own 2 ver lo hi).oneIn (e0 :: e1 :: .arr 8 ver (l.map (nodeA)) :: G) = true := by simp [AV.oneIn]
theorem rowLen_nodes3 {G : List Entry} {e0 e1 e2 : Entry} {ver : Nat} {l : List (Node)} {lo hi : Nat} : rowLen (e0 :: e1 :: e2 :: .arr 8 ver (l.map (nodeA)) :: G) (.own 3 ver lo hi) = some (hi - lo) := encNode.rowLen_own rfl
theorem seen_nodes3 {G : List Entry} {e0 e1 e2 : Entry} {ver : Nat} {l : List (Node)} : seen (e0 :: e1 :: e2 :: .arr 8 ver (l.map (nodeA)) :: G) (.own 3 ver 0 l.length) = some (l.map (nodeA)) := encNode.seen_own rfl
theorem index_nodes3 {G : List Entry} {e0 e1 e2 : Entry} {ver : Nat} {l : List (Node)} {k : Nat} (hk : k < l.length) : evIndex (e0 :: e1 :: e2 :: .arr 8 ver (l.map (nodeA)) :: G) 8 (.own 3 ver 0 l.length) (.int .i64 (k : Int)) = some (.eptr 3 ver k 0) := encNode.index_own rfl hk
theorem indexI_nodes3 {G : List Entry} {e0 e1 e2 : Entry} {ver : Nat} {l : List (Node)} {k : Int} (h0 : 0 ≤ k) (hk : k.toNat < l.length) : evIndex (e0 :: e1 :: e2 :: .arr 8 ver (l.map (nodeA)) :: G) 8 (.own 3 ver 0 l.length) (.int .i64 k) = some (.eptr 3 ver k.toNat 0) := encNode.indexI_own rfl h0 hk
theorem app_nodes3 {G : List Entry} {e0 e1 e2 : Entry} {ver : Nat} {l : List (Node)} {bytes : Nat} {x : Node} (hl : l.length + 1 ≤ maxRow) (hb : bytes ≤ 4096) : evAppend (e0 :: e1 :: e2 :: .arr 8 ver (l.map (nodeA)) :: G) 8 bytes (.own 3 ver 0 l.length) [nodeA x] = some (.own 3 (ver + 1) 0 (l ++ [x]).length, (e0 :: e1 :: e2 :: .arr 8 (ver + 1) ((l ++ [x]).map (nodeA)) :: G)) := encNode.app_own rfl hl hb
theorem apps_nodes3 {G : List Entry} {e0 e1 e2 : Entry} {ver : Nat} {l : List (Node)} {bytes : Nat} {ys : List (Node)} (hl : l.length + ys.length ≤ maxRow) (hb : bytes ≤ 4096) (hy : ys ≠ []) : evAppend (e0 :: e1 :: e2 :: .arr 8 ver (l.map (nodeA)) :: G) 8 bytes (.own 3 ver 0 l.length) (ys.map (nodeA)) = some (.own 3 (ver + 1) 0 (l ++ ys).length, (e0 :: e1 :: e2 :: .arr 8 (ver + 1) ((l ++ ys).map (nodeA)) :: G)) := encNode.app_owns rfl hl hb hy
theorem appv_nodes3 {G : List Entry} {e0 e1 e2 : Entry} {ver : Nat} {l : List (Node)} {bytes : Nat} (ys : List (Node)) (hl : l.length + ys.length ≤ maxRow) (hb : bytes ≤ 4096) : ∃ v, evAppend (e0 :: e1 :: e2 :: .arr 8 ver (l.map (nodeA)) :: G) 8 bytes (.own 3 ver 0 l.length) (ys.map (nodeA)) = some (.own 3 v 0 (l ++ ys).length, (e0 :: e1 :: e2 :: .arr 8 v ((l ++ ys).map (nodeA)) :: G)) := encNode.app_any rfl hl hb
theorem canon_nodes3 {G : List Entry} {e0 e1 e2 : Entry} {ver : Nat} {l : List (Node)} {k : Nat} : canon (e0 :: e1 :: e2 :: .arr 8 ver (l.map (nodeA)) :: G) (k + 1) (.own 3 ver 0 l.length) = nodes l := encNode.canon_own_all rfl k
theorem canon_snodes3 {G : List Entry} {e0 e1 e2 : Entry} {ver : Nat} {l : List (Node)} {k lo hi : Nat} (h : hi ≤ l.length) : canon (e0 :: e1 :: e2 :: .arr 8 ver (l.map (nodeA)) :: G) (k + 1) (.own 3 ver lo hi) = nodes ((l.take hi).drop lo) := encNode.canon_own rfl h k
theorem oneIn_nodes3 {G : List Entry} {e0 e1 e2 : Entry} {ver : Nat} {l : List (Node)} {lo hi : Nat} : (AV.own 3 ver lo hi).oneIn (e0 :: e1 :: e2 :: .arr 8 ver (l.map (nodeA)) :: G) = true := by simp [AV.oneIn]
theorem cells_int (k : IntKind) (i : Int) : AV.cells (.int k i) = [(.int k i)] := rfl
theorem oneIn_int (H : List Entry) (k : IntKind) (i : Int) : AV.oneIn H (.int k i) = true := rfl
theorem cells_bool (b : Bool) : AV.cells (.bool b) = [(.bool b)] := rfl
theorem oneIn_bool (H : List Entry) (b : Bool) : AV.oneIn H (.bool b) = true := rfl
theorem cells_str (s : List UInt8) : AV.cells (.str s) = [(.str s)] := rfl
theorem oneIn_str (H : List Entry) (s : List UInt8) : AV.oneIn H (.str s) = true := rfl
theorem cells_list (t : Bool) (xs : List AV) : AV.cells (.list t xs) = [(.list t xs)] := rfl
theorem oneIn_list (H : List Entry) (t : Bool) (xs : List AV) : AV.oneIn H (.list t xs) = true := rfl
theorem cells_func (f : AFn) (a b : List AV) : AV.cells (.func f a b) = [(.func f a b)] := rfl
theorem oneIn_func (H : List Entry) (f : AFn) (a b : List AV) : AV.oneIn H (.func f a b) = true := rfl
theorem cells_nilfunc  : AV.cells (.nilfunc) = [(.nilfunc)] := rfl
theorem oneIn_nilfunc (H : List Entry)  : AV.oneIn H (.nilfunc) = true := rfl
theorem cells_iptr (cs : List AV) (o : Nat) : AV.cells (.iptr cs o) = [(.iptr cs o)] := rfl
theorem oneIn_iptr (H : List Entry) (cs : List AV) (o : Nat) : AV.oneIn H (.iptr cs o) = true := rfl
theorem cells_iface (t : Nat) (v : AV) : AV.cells (.iface t v) = [(.iface t v)] := rfl
theorem oneIn_iface (H : List Entry) (t : Nat) (v : AV) : AV.oneIn H (.iface t v) = true := rfl
theorem cells_nilIface  : AV.cells (.nilIface) = [(.nilIface)] := rfl
theorem oneIn_nilIface (H : List Entry)  : AV.oneIn H (.nilIface) = true := rfl
theorem cells_own (i v a b : Nat) : AV.cells (.own i v a b) = [(.own i v a b)] := rfl
theorem cells_ptr (i o : Nat) : AV.cells (.ptr i o) = [(.ptr i o)] := rfl
theorem cells_anybool  : AV.cells (.anybool) = [(.anybool)] := rfl
theorem oneIn_anybool (H : List Entry)  : AV.oneIn H (.anybool) = true := rfl
theorem cells_agg (cs : List AV) : AV.cells (.agg cs) = cs := rfl
theorem oneIn_own0 {G : List Entry}  {sz ver a b : Nat} {xs : List AV} : AV.oneIn (.arr sz ver xs :: G) (.own 0 ver a b) = true := by simp [AV.oneIn]
theorem oneIn_ptr0 {G : List Entry}  {o : Nat} {xs : List AV} : AV.oneIn (.box xs :: G) (.ptr 0 o) = true := by simp [AV.oneIn]
theorem seenL0 {G : List Entry}  {sz ver : Nat} {x : AV} : seen (.arr sz ver [x] :: G) (.own 0 ver 0 1) = some [x] := by simp [seen]
theorem seenM0 {G : List Entry}  {sz ver : Nat} {x y : AV} : seen (.arr sz ver [x, y] :: G) (.own 0 ver 0 2) = some [x, y] := by simp [seen]
theorem oneIn_own1 {G : List Entry} {e0 : Entry}  {sz ver a b : Nat} {xs : List AV} : AV.oneIn (e0 :: .arr sz ver xs :: G) (.own 1 ver a b) = true := by simp [AV.oneIn]
theorem oneIn_ptr1 {G : List Entry} {e0 : Entry}  {o : Nat} {xs : List AV} : AV.oneIn (e0 :: .box xs :: G) (.ptr 1 o) = true := by simp [AV.oneIn]
theorem seenL1 {G : List Entry} {e0 : Entry}  {sz ver : Nat} {x : AV} : seen (e0 :: .arr sz ver [x] :: G) (.own 1 ver 0 1) = some [x] := by simp [seen]
theorem seenM1 {G : List Entry} {e0 : Entry}  {sz ver : Nat} {x y : AV} : seen (e0 :: .arr sz ver [x, y] :: G) (.own 1 ver 0 2) = some [x, y] := by simp [seen]
theorem oneIn_own2 {G : List Entry} {e0 e1 : Entry}  {sz ver a b : Nat} {xs : List AV} : AV.oneIn (e0 :: e1 :: .arr sz ver xs :: G) (.own 2 ver a b) = true := by simp [AV.oneIn]
theorem oneIn_ptr2 {G : List Entry} {e0 e1 : Entry}  {o : Nat} {xs : List AV} : AV.oneIn (e0 :: e1 :: .box xs :: G) (.ptr 2 o) = true := by simp [AV.oneIn]
theorem seenL2 {G : List Entry} {e0 e1 : Entry}  {sz ver : Nat} {x : AV} : seen (e0 :: e1 :: .arr sz ver [x] :: G) (.own 2 ver 0 1) = some [x] := by simp [seen]
theorem seenM2 {G : List Entry} {e0 e1 : Entry}  {sz ver : Nat} {x y : AV} : seen (e0 :: e1 :: .arr sz ver [x, y] :: G) (.own 2 ver 0 2) = some [x, y] := by simp [seen]
theorem oneIn_own3 {G : List Entry} {e0 e1 e2 : Entry}  {sz ver a b : Nat} {xs : List AV} : AV.oneIn (e0 :: e1 :: e2 :: .arr sz ver xs :: G) (.own 3 ver a b) = true := by simp [AV.oneIn]
theorem oneIn_ptr3 {G : List Entry} {e0 e1 e2 : Entry}  {o : Nat} {xs : List AV} : AV.oneIn (e0 :: e1 :: e2 :: .box xs :: G) (.ptr 3 o) = true := by simp [AV.oneIn]
theorem seenL3 {G : List Entry} {e0 e1 e2 : Entry}  {sz ver : Nat} {x : AV} : seen (e0 :: e1 :: e2 :: .arr sz ver [x] :: G) (.own 3 ver 0 1) = some [x] := by simp [seen]
theorem seenM3 {G : List Entry} {e0 e1 e2 : Entry}  {sz ver : Nat} {x y : AV} : seen (e0 :: e1 :: e2 :: .arr sz ver [x, y] :: G) (.own 3 ver 0 2) = some [x, y] := by simp [seen]
theorem oneIn_own4 {G : List Entry} {e0 e1 e2 e3 : Entry}  {sz ver a b : Nat} {xs : List AV} : AV.oneIn (e0 :: e1 :: e2 :: e3 :: .arr sz ver xs :: G) (.own 4 ver a b) = true := by simp [AV.oneIn]
theorem oneIn_ptr4 {G : List Entry} {e0 e1 e2 e3 : Entry}  {o : Nat} {xs : List AV} : AV.oneIn (e0 :: e1 :: e2 :: e3 :: .box xs :: G) (.ptr 4 o) = true := by simp [AV.oneIn]
theorem seenL4 {G : List Entry} {e0 e1 e2 e3 : Entry}  {sz ver : Nat} {x : AV} : seen (e0 :: e1 :: e2 :: e3 :: .arr sz ver [x] :: G) (.own 4 ver 0 1) = some [x] := by simp [seen]
theorem seenM4 {G : List Entry} {e0 e1 e2 e3 : Entry}  {sz ver : Nat} {x y : AV} : seen (e0 :: e1 :: e2 :: e3 :: .arr sz ver [x, y] :: G) (.own 4 ver 0 2) = some [x, y] := by simp [seen]
theorem oneIn_own5 {G : List Entry} {e0 e1 e2 e3 e4 : Entry}  {sz ver a b : Nat} {xs : List AV} : AV.oneIn (e0 :: e1 :: e2 :: e3 :: e4 :: .arr sz ver xs :: G) (.own 5 ver a b) = true := by simp [AV.oneIn]
theorem oneIn_ptr5 {G : List Entry} {e0 e1 e2 e3 e4 : Entry}  {o : Nat} {xs : List AV} : AV.oneIn (e0 :: e1 :: e2 :: e3 :: e4 :: .box xs :: G) (.ptr 5 o) = true := by simp [AV.oneIn]
theorem seenL5 {G : List Entry} {e0 e1 e2 e3 e4 : Entry}  {sz ver : Nat} {x : AV} : seen (e0 :: e1 :: e2 :: e3 :: e4 :: .arr sz ver [x] :: G) (.own 5 ver 0 1) = some [x] := by simp [seen]
theorem seenM5 {G : List Entry} {e0 e1 e2 e3 e4 : Entry}  {sz ver : Nat} {x y : AV} : seen (e0 :: e1 :: e2 :: e3 :: e4 :: .arr sz ver [x, y] :: G) (.own 5 ver 0 2) = some [x, y] := by simp [seen]
theorem seen_list (H : List Entry) (t : Bool) (l : List AV) : seen H (.list t l) = some l := rfl
theorem cells_ints (l : List (Int)) : (ints l).cells = [ints l] := rfl
theorem oneIn_ints (H : List Entry) (l : List (Int)) : (ints l).oneIn H = true := rfl
theorem cells_octs (l : List (Int)) : (octs l).cells = [octs l] := rfl
theorem oneIn_octs (H : List Entry) (l : List (Int)) : (octs l).oneIn H = true := rfl
theorem cells_intss (l : List (List Int)) : (intss l).cells = [intss l] := rfl
theorem oneIn_intss (H : List Entry) (l : List (List Int)) : (intss l).oneIn H = true := rfl
theorem cells_octss (l : List (List Int)) : (octss l).cells = [octss l] := rfl
theorem oneIn_octss (H : List Entry) (l : List (List Int)) : (octss l).oneIn H = true := rfl
theorem cells_nodes (l : List (Node)) : (nodes l).cells = [nodes l] := rfl
theorem oneIn_nodes (H : List Entry) (l : List (Node)) : (nodes l).oneIn H = true := rfl
theorem ldB0 {G : List Entry} {cs : List AV} {n off : Nat} : evLoad (.box cs :: G) false n (.ptr 0 off) = cs[off]? := rfl
theorem ldA0 {G : List Entry} {cs : List AV} {n off : Nat} : evLoad (.box cs :: G) true n (.ptr 0 off) = if off + n ≤ cs.length then some (.agg ((cs.drop off).take n)) else none := rfl
theorem adB0 {G : List Entry} {cs : List AV} {k off : Nat} : evAddr (.box cs :: G) k (.ptr 0 off) = some (.ptr 0 (off + k)) := rfl
theorem stB0 {G : List Entry} {cs : List AV} {n off : Nat} {v : AV} : evStore (.box cs :: G) n (.ptr 0 off) v = if v.cells.length = n ∧ 0 < n ∧ v.cells.all (AV.oneIn (.box cs :: G)) = true then (if off + n ≤ cs.length then some (((.box cs :: G) : List Entry).set 0 (.box (splice cs off v.cells))) else none) else none := rfl
theorem ldB1 {G : List Entry} {e0 : Entry} {cs : List AV} {n off : Nat} : evLoad (e0 :: .box cs :: G) false n (.ptr 1 off) = cs[off]? := rfl
theorem ldA1 {G : List Entry} {e0 : Entry} {cs : List AV} {n off : Nat} : evLoad (e0 :: .box cs :: G) true n (.ptr 1 off) = if off + n ≤ cs.length then some (.agg ((cs.drop off).take n)) else none := rfl
theorem adB1 {G : List Entry} {e0 : Entry} {cs : List AV} {k off : Nat} : evAddr (e0 :: .box cs :: G) k (.ptr 1 off) = some (.ptr 1 (off + k)) := rfl
theorem stB1 {G : List Entry} {e0 : Entry} {cs : List AV} {n off : Nat} {v : AV} : evStore (e0 :: .box cs :: G) n (.ptr 1 off) v = if v.cells.length = n ∧ 0 < n ∧ v.cells.all (AV.oneIn (e0 :: .box cs :: G)) = true then (if off + n ≤ cs.length then some (((e0 :: .box cs :: G) : List Entry).set 1 (.box (splice cs off v.cells))) else none) else none := rfl
theorem ldB2 {G : List Entry} {e0 e1 : Entry} {cs : List AV} {n off : Nat} : evLoad (e0 :: e1 :: .box cs :: G) false n (.ptr 2 off) = cs[off]? := rfl
theorem ldA2 {G : List Entry} {e0 e1 : Entry} {cs : List AV} {n off : Nat} : evLoad (e0 :: e1 :: .box cs :: G) true n (.ptr 2 off) = if off + n ≤ cs.length then some (.agg ((cs.drop off).take n)) else none := rfl
theorem adB2 {G : List Entry} {e0 e1 : Entry} {cs : List AV} {k off : Nat} : evAddr (e0 :: e1 :: .box cs :: G) k (.ptr 2 off) = some (.ptr 2 (off + k)) := rfl
theorem stB2 {G : List Entry} {e0 e1 : Entry} {cs : List AV} {n off : Nat} {v : AV} : evStore (e0 :: e1 :: .box cs :: G) n (.ptr 2 off) v = if v.cells.length = n ∧ 0 < n ∧ v.cells.all (AV.oneIn (e0 :: e1 :: .box cs :: G)) = true then (if off + n ≤ cs.length then some (((e0 :: e1 :: .box cs :: G) : List Entry).set 2 (.box (splice cs off v.cells))) else none) else none := rfl
theorem ldB3 {G : List Entry} {e0 e1 e2 : Entry} {cs : List AV} {n off : Nat} : evLoad (e0 :: e1 :: e2 :: .box cs :: G) false n (.ptr 3 off) = cs[off]? := rfl
theorem ldA3 {G : List Entry} {e0 e1 e2 : Entry} {cs : List AV} {n off : Nat} : evLoad (e0 :: e1 :: e2 :: .box cs :: G) true n (.ptr 3 off) = if off + n ≤ cs.length then some (.agg ((cs.drop off).take n)) else none := rfl
theorem adB3 {G : List Entry} {e0 e1 e2 : Entry} {cs : List AV} {k off : Nat} : evAddr (e0 :: e1 :: e2 :: .box cs :: G) k (.ptr 3 off) = some (.ptr 3 (off + k)) := rfl
theorem stB3 {G : List Entry} {e0 e1 e2 : Entry} {cs : List AV} {n off : Nat} {v : AV} : evStore (e0 :: e1 :: e2 :: .box cs :: G) n (.ptr 3 off) v = if v.cells.length = n ∧ 0 < n ∧ v.cells.all (AV.oneIn (e0 :: e1 :: e2 :: .box cs :: G)) = true then (if off + n ≤ cs.length then some (((e0 :: e1 :: e2 :: .box cs :: G) : List Entry).set 3 (.box (splice cs off v.cells))) else none) else none := rfl
theorem ldB4 {G : List Entry} {e0 e1 e2 e3 : Entry} {cs : List AV} {n off : Nat} : evLoad (e0 :: e1 :: e2 :: e3 :: .box cs :: G) false n (.ptr 4 off) = cs[off]? := rfl
theorem ldA4 {G : List Entry} {e0 e1 e2 e3 : Entry} {cs : List AV} {n off : Nat} : evLoad (e0 :: e1 :: e2 :: e3 :: .box cs :: G) true n (.ptr 4 off) = if off + n ≤ cs.length then some (.agg ((cs.drop off).take n)) else none := rfl
theorem adB4 {G : List Entry} {e0 e1 e2 e3 : Entry} {cs : List AV} {k off : Nat} : evAddr (e0 :: e1 :: e2 :: e3 :: .box cs :: G) k (.ptr 4 off) = some (.ptr 4 (off + k)) := rfl
theorem stB4 {G : List Entry} {e0 e1 e2 e3 : Entry} {cs : List AV} {n off : Nat} {v : AV} : evStore (e0 :: e1 :: e2 :: e3 :: .box cs :: G) n (.ptr 4 off) v = if v.cells.length = n ∧ 0 < n ∧ v.cells.all (AV.oneIn (e0 :: e1 :: e2 :: e3 :: .box cs :: G)) = true then (if off + n ≤ cs.length then some (((e0 :: e1 :: e2 :: e3 :: .box cs :: G) : List Entry).set 4 (.box (splice cs off v.cells))) else none) else none := rfl
theorem ldB5 {G : List Entry} {e0 e1 e2 e3 e4 : Entry} {cs : List AV} {n off : Nat} : evLoad (e0 :: e1 :: e2 :: e3 :: e4 :: .box cs :: G) false n (.ptr 5 off) = cs[off]? := rfl
theorem ldA5 {G : List Entry} {e0 e1 e2 e3 e4 : Entry} {cs : List AV} {n off : Nat} : evLoad (e0 :: e1 :: e2 :: e3 :: e4 :: .box cs :: G) true n (.ptr 5 off) = if off + n ≤ cs.length then some (.agg ((cs.drop off).take n)) else none := rfl
theorem adB5 {G : List Entry} {e0 e1 e2 e3 e4 : Entry} {cs : List AV} {k off : Nat} : evAddr (e0 :: e1 :: e2 :: e3 :: e4 :: .box cs :: G) k (.ptr 5 off) = some (.ptr 5 (off + k)) := rfl
theorem stB5 {G : List Entry} {e0 e1 e2 e3 e4 : Entry} {cs : List AV} {n off : Nat} {v : AV} : evStore (e0 :: e1 :: e2 :: e3 :: e4 :: .box cs :: G) n (.ptr 5 off) v = if v.cells.length = n ∧ 0 < n ∧ v.cells.all (AV.oneIn (e0 :: e1 :: e2 :: e3 :: e4 :: .box cs :: G)) = true then (if off + n ≤ cs.length then some (((e0 :: e1 :: e2 :: e3 :: e4 :: .box cs :: G) : List Entry).set 5 (.box (splice cs off v.cells))) else none) else none := rfl
end Go.Proofs.YtihhinbjhiankaaGreatDoor.Al

/- WHAT THE LIBRARY's CONTRACTS SAY OF ROWS, told of one's own rows. -/
namespace Go.Proofs.YtihhinbjhiankaaGreatDoor.Al
open Go
variable {S : Seat} {m : List ME} {I X : Nat → Prop} {w : World} {H : List Entry}

theorem grow_heap_lt (w : World) (os : Array Obj) {k : Nat} (h : k < w.heap.size) : (Sort.grow w os).heap[k]? = w.heap[k]? := Sort.heap_grow_old w os h

theorem putRow_other {α : Type} [Inhabited α] (enc : α → Value) (w : World) (blk off : Nat) (d : Array α) {k : Nat} (h : k ≠ blk) : (Sort.putRow enc w blk off d).heap[k]? = w.heap[k]? := by
  simp [Sort.putRow, Sort.mapBlock, Array.getElem?_modify, Ne.symm h]

theorem putRow_self {α : Type} [Inhabited α] (enc : α → Value) (w : World) (blk off : Nat) (d : Array α) {arr : Array Value} {T : Nat} {fr : Nat × Nat} (h : w.heap[blk]? = some (.cells arr T fr)) :
    (Sort.putRow enc w blk off d).heap[blk]? = some (.cells (Sort.putCells enc off d arr) T fr) := by
  simp [Sort.putRow, Sort.mapBlock, Array.getElem?_modify, h, Sort.onCells]

theorem putCells_get {α : Type} [Inhabited α] (enc : α → Value) (off : Nat) (d : Array α) (arr : Array Value) (k : Nat) (hk : k < arr.size) : (Sort.putCells enc off d arr).getD k undef = if off ≤ k ∧ k < off + d.size then enc d[k - off]! else arr.getD k undef := by
  simp [Sort.putCells, Array.getD_eq_getD_getElem?, hk]

/-- An owned row of numbers, as the library's contracts see it. -/
theorem own_ints {id ver : Nat} {l : List Int} {v : Value} (hs : Sim S m I X w H) (hH : H[id]? = some (.arr 1 ver (l.map (AV.int .i64)))) (hv : Rel S m I w (.own id ver 0 l.length) v) :
    ∃ e, m[id]? = some e ∧ e.sz = 1 ∧ e.ver = ver ∧ ((l = [] ∧ ∃ a c, v = .slice a 0 c) ∨ (e.nilrow = false ∧ 0 < l.length ∧ l.length ≤ e.cap ∧ v = .slice (some ⟨e.blk, 0, none⟩) l.length e.cap ∧ Sort.Holds (Value.int .i64) w e.blk 0 l.toArray ∧ e.blk < w.heap.size ∧
      ∃ arr T, w.heap[e.blk]? = some (.cells arr T (0, 0)) ∧ arr.size = e.cap)) := by
  obtain ⟨e, h1, hrow⟩ := hs.hok id _ hH
  refine ⟨e, h1, hrow.2.1, hrow.1, ?_⟩
  rcases Nat.eq_zero_or_pos l.length with h0 | h0
  · left
    obtain ⟨a, c, hv', _⟩ := own_len h1 hrow hv
    rw [h0] at hv'
    exact ⟨List.eq_nil_of_length_eq_zero h0, a, c, hv'⟩
  · right
    obtain ⟨hn, hv'⟩ := own_val h1 hrow hv h0
    obtain ⟨r1, r0, r2, r3, r4, r5⟩ := hrow
    rcases r5 with ⟨q1, q2⟩ | ⟨q1, arr, T, ha, hsz, hc⟩
    · rw [hn] at q1; cases q1
    · rw [r0, Nat.mul_one] at hsz
      have hcap : l.length ≤ e.cap := by simpa using r2
      refine ⟨hn, h0, hcap, by simpa using hv', fun j hj => ?_, heap_lt ha, arr, T, ha, hsz⟩
      have hj' : j < l.length := by simpa using hj
      have := hc j (.int .i64 l[j]) (by simp [hj']) 0 (.int .i64 l[j]) (by simp [AV.cells])
      rw [r0, Nat.mul_one, Nat.add_zero] at this
      have hja : j < arr.size := by omega
      have hx : arr.getD j undef = .int .i64 l[j] := by
        generalize arr.getD j undef = u at this
        cases this; rfl
      constructor
      · have : arr[j]? = some (.int .i64 l[j]) := by
          rw [Array.getD_eq_getD_getElem?, Array.getElem?_eq_getElem hja] at hx
          rw [Array.getElem?_eq_getElem hja]; simpa using hx
        simp [World.cell?, ha, this, hj']
      · simp [World.frozen?, ha]

/-- The row holds other numbers, as many as before; new blocks lie behind. -/
theorem Sim.putInts (hs : Sim S m I X w H) {id ver n : Nat} {l l' : List Int} {e : ME} {os : Array Obj} {arr : Array Value} {T : Nat} (hH : H[id]? = some (.arr 1 ver (l.map (AV.int .i64)))) (h1 : m[id]? = some e) (hn : e.nilrow = false) (hsz : e.sz = 1) (hver : e.ver = ver)
    (ha : w.heap[e.blk]? = some (.cells arr T (0, 0))) (hasz : arr.size = e.cap) (hl : l'.length = l.length) (hcap : l.length ≤ e.cap) :
    Went S m I X w m (Sort.grow (Sort.putRow (Value.int .i64) (Sort.ahead w n) e.blk 0 l'.toArray) os) (H.set id (.arr 1 ver (l'.map (AV.int .i64)))) := by
  have hlt := heap_lt ha
  have hw : ∀ k : Nat, k < w.heap.size → (e.nilrow = false → k ≠ e.blk) → (Sort.grow (Sort.putRow (Value.int .i64) (Sort.ahead w n) e.blk 0 l'.toArray) os).heap[k]? = w.heap[k]? := fun k hk hne => by
    rw [grow_heap_lt _ _ (by simpa using hk), putRow_other _ _ _ _ _ (hne hn)]; rfl
  have hself : (Sort.grow (Sort.putRow (Value.int .i64) (Sort.ahead w n) e.blk 0 l'.toArray) os).heap[e.blk]? = some (.cells (Sort.putCells (Value.int .i64) 0 l'.toArray arr) T (0, 0)) := by
    rw [grow_heap_lt _ _ (by simpa using hlt)]; exact putRow_self _ _ _ _ _ ha
  obtain ⟨e', h1', hrow⟩ := hs.hok id _ hH
  rw [h1] at h1'; cases h1'
  have := hs.write (e := .arr 1 ver (l'.map (AV.int .i64))) hH rfl h1 (.inl rfl) hw (by simp) (fun _ => .inl ⟨hn, rfl⟩) (by
    rw [set_self h1]
    refine ⟨e, h1, hver, hsz, by simpa [hl] using hcap, hrow.2.2.2.1, fun x hx => ?_, .inr ⟨hn, _, T, hself, by simpa [Sort.putCells, hsz] using hasz, fun i x hx j y hy => ?_⟩⟩
    · obtain ⟨z, _, rfl⟩ := List.mem_map.1 hx
      rw [hsz]; rfl
    · rw [List.getElem?_map] at hx
      cases hz : l'[i]? with
      | none => rw [hz] at hx; cases hx
      | some z =>
        rw [hz] at hx; cases hx
        have hj : j = 0 := by
          have := lt_of_get hy
          simp [AV.cells] at this; exact this
        subst hj
        simp only [AV.cells, List.getElem?_cons_zero, Option.some.injEq] at hy
        subst hy
        have hi := lt_of_get hz
        rw [hsz, Nat.mul_one, Nat.add_zero, putCells_get _ _ _ _ _ (by omega), if_pos ⟨Nat.zero_le _, by simpa using hi⟩]
        have : l'.toArray[i - 0]! = z := by
          have h2 := (List.getElem?_eq_some_iff.1 hz).2
          simp [hi, h2]
        rw [this]
        exact .int _ _)
  rw [set_self h1] at this
  exact ⟨this, .refl m, hs.ext_write hH rfl h1 hw (by simp) rfl rfl rfl⟩

/-- A row's last elements are forgotten. -/
theorem Sim.shrink (hs : Sim S m I X w H) {id sz ver : Nat} {xs : List AV} (n : Nat) (hH : H[id]? = some (.arr sz ver xs)) : Sim S m I X w (H.set id (.arr sz ver (xs.take n))) := by
  have hid := lt_of_get hH
  have live : ∀ {j : Nat} {e : Entry}, (H.set id (.arr sz ver (xs.take n)))[j]? = some e → e.live = true → ∃ e', H[j]? = some e' ∧ e'.live = true := by
    intro j e hj hl
    by_cases h : j = id
    · subst h; exact ⟨_, hH, rfl⟩
    · rw [List.getElem?_set_ne (Ne.symm h)] at hj; exact ⟨e, hj, hl⟩
  refine ⟨by simp [hs.len], fun j e hj => ?_, fun j e g hj hl hg hn => ?_, fun j j' e e' g g' hj hl hj' hl' hg hg' hn hn' hb => ?_, hs.lt, hs.disj, hs.gl⟩
  · by_cases h : j = id
    · subst h
      rw [List.getElem?_set_self hid] at hj; cases hj
      obtain ⟨e, h1, r1, r0, r2, r3, r4, r5⟩ := hs.hok j _ hH
      refine ⟨e, h1, r1, r0, by rw [List.length_take]; omega, r3, fun x hx => r4 x (List.mem_of_mem_take hx), ?_⟩
      rcases r5 with r5 | ⟨r5, arr, T, ha, hsz, hc⟩
      · exact .inl r5
      · refine .inr ⟨r5, arr, T, ha, hsz, fun i x hx j y hy => hc i x ?_ j y hy⟩
        rw [List.getElem?_take] at hx
        split at hx
        · exact hx
        · cases hx
    · rw [List.getElem?_set_ne (Ne.symm h)] at hj
      exact hs.hok j e hj
  · obtain ⟨e', h1, h2⟩ := live hj hl
    exact hs.sep j e' g h1 h2 hg hn
  · obtain ⟨e1, h1, h2⟩ := live hj hl
    obtain ⟨e2, h3, h4⟩ := live hj' hl'
    exact hs.inj j j' e1 e2 g g' h1 h2 h3 h4 hg hg' hn hn' hb

theorem ACall.shrink {c : Nat} {args : List AV} {R R' : AV → List Entry → Prop} (h : ACall S c args H R)
    (hR : ∀ r H', R r H' → ∃ id sz ver xs n, H'[id]? = some (.arr sz ver xs) ∧ R' r (H'.set id (.arr sz ver (xs.take n)))) : ACall S c args H R' := by
  intro m I X w vs hs hv
  refine (h m I X w vs hs hv).mono ?_
  rintro e w' ⟨r, H', vv, m', I', h1, h2, h3, h4, h5, h6, h7⟩
  obtain ⟨id, sz, ver, xs, n, k1, k2⟩ := hR r H' h2
  exact ⟨r, _, vv, m', I', h1, k2, h3, h4.shrink n k1, h5, h6, h7⟩

end Go.Proofs.YtihhinbjhiankaaGreatDoor.Al

/- BODIES IN PARTS; what an iterator gives. -/
namespace Go.Proofs.YtihhinbjhiankaaGreatDoor.Al
open Go
variable {S : Seat}

theorem WP.seqK {r : Option Nat} {N b : Nat} {x y : IC} {Q : Exit → St → Prop} {st : St} (K : St → Prop) (h1 : WP S r N b x (thenQ K Q) st) (h2 : ∀ st', K st' → WP S r N b y Q st') : WP S r N b (.seq x y) Q st :=
  WP.seq (h1.mono fun e st' hq => by
    cases e with
    | normal => exact h2 st' hq
    | _ => exact hq)

/-- A first part that ends in one state. -/
theorem WP.seqS {r : Option Nat} {N b : Nat} {x y : IC} {Q : Exit → St → Prop} {st : St} (L : List (Nat × AV)) (H1 : List Entry) (h1 : wpc S [] r N b x (thenQ (fun st' => (∀ p ∈ L, st'.env p.1 = p.2) ∧ st'.H = H1) Q) st) (h2 : WP S r N b y Q ⟨envL L, H1⟩) : WP S r N b (.seq x y) Q st :=
  WP.seqK (fun st' => (∀ p ∈ L, st'.env p.1 = p.2) ∧ st'.H = H1) (wpc_sound h1) (fun st' h => WP.slots h.1 (by rw [h.2]; exact h2))

/-- What comes behind is hidden while a part is gone through. -/
theorem WP.seqH {r : Option Nat} {N b : Nat} {x y : IC} {Q : Exit → St → Prop} {st : St} (h : ∀ K : St → Prop, (∀ st', WP S r N b y Q st' → K st') → wpc S [] r N b x (thenQ K Q) st) : WP S r N b (.seq x y) Q st :=
  WP.seqK (WP S r N b y Q) (wpc_sound (h _ fun _ h => h)) fun _ h => h
theorem WP.seqR (T : List (Reg S)) {r : Option Nat} {N b : Nat} {x y : IC} {Q : Exit → St → Prop} {st : St} (h : ∀ K : St → Prop, (∀ st', WP S r N b y Q st' → K st') → wpc S T r N b x (thenQ K Q) st) : WP S r N b (.seq x y) Q st :=
  WP.seqK (WP S r N b y Q) (wpc_soundR T (h _ fun _ h => h)) fun _ h => h
theorem WP.hide {r : Option Nat} {N b : Nat} {x : IC} {Q : Exit → St → Prop} {st : St} (h : ∀ Q' : Exit → St → Prop, (∀ e st', Q e st' → Q' e st') → WP S r N b x Q' st) : WP S r N b x Q st := h Q fun _ _ h => h
/-- A loop, and what comes behind it. -/
theorem WP.seqQ {r : Option Nat} {N b : Nat} {x y : IC} {Q : Exit → St → Prop} {st : St} (h : ∀ Q' : Exit → St → Prop, (∀ st', WP S r N b y Q st' → Q' .normal st') → (∀ st', Q .ret st' → Q' .ret st') → WP S r N b x Q' st) : WP S r N b (.seq x y) Q st :=
  WP.seq (h _ (fun _ h => h) (fun _ h => h))

theorem Fun.of0W {c : Nat} {f : IFn} (ht : trFn S c = some f) {args : List AV} {r : AV} (hn : args.length ≤ f.N) (ha : ∀ x ∈ args, Idb 0 x) (hr : Idb 0 r) (k : Nat)
    (h : WP S none f.N 0 f.body (leaves f.res fun r' H' => canon H' k r' = r) ⟨envL (args.zipIdx.map fun p => (p.2, p.1)), []⟩) : Fun S c args r := by
  refine Fun.zero ha hr (ACall.out k (R := fun r' H' => canon H' k r' = r) (ACall.of_wp ht hn ?_) ?_)
  · rw [start_env]; exact h
  · intro r' H' h1
    simp only [List.length_nil, fresh_zero]
    have h2 : derefN (freezeP all H') k r' = r := h1
    exact ⟨by simp, by rw [h2]; exact hr, h2⟩

theorem FunOwn.of0W {c : Nat} {f : IFn} (ht : trFn S c = some f) {args : List AV} {sz : Nat} {xs : List AV} (hn : args.length ≤ f.N) (ha : ∀ x ∈ args, Idb 0 x) (hx : ∀ x ∈ xs, ∀ y ∈ x.cells, Idb 0 y)
    (h : WP S none f.N 0 f.body (leaves f.res fun r H' => (∃ id ver, r = .own id ver 0 xs.length ∧ H'[id]? = some (.arr sz ver xs)) ∨ (r = .list true [] ∧ xs = [])) ⟨envL (args.zipIdx.map fun p => (p.2, p.1)), []⟩) : FunOwn S c args sz xs := by
  refine FunOwn.zero ha hx (ACall.outOwn 0 (R := fun r H' => ∃ id ver, r = .own id ver 0 xs.length ∧ H'[id]? = some (.arr sz ver xs)) (ACall.adopt sz (ACall.of_wp ht hn (by rw [start_env]; exact h)) ?_) ?_)
  · rintro r H' (h1 | ⟨rfl, rfl⟩)
    · exact .inr h1
    · exact .inl ⟨rfl, H'.length, 0, rfl, by simp⟩
  · rintro r H' ⟨id, ver, rfl, h2⟩
    have hm : ∀ G : List Entry, xs.map (derefN G 0) = xs := fun G => by
      have : derefN G 0 = fun x => x := by funext x; rfl
      rw [this]; simp
    exact ⟨by simp, id, ver, sz, xs, by simp, Nat.zero_le _, h2, fun x hx' y hy => hx x hx' y hy, by simp, by rw [hm]; rfl⟩

/-- A row that is handed over, taken as a value. -/
theorem FunOwn.val {c : Nat} {args : List AV} {sz : Nat} {xs : List AV} (h : FunOwn S c args sz xs) (hx : ∀ x ∈ xs, ∀ y ∈ x.cells, Idb 0 y) : Fun S c args (.list false xs) := by
  intro H
  refine ACall.out 1 (h H) ?_
  rintro r H' ⟨rfl, rfl⟩
  have e : derefN (freezeP (fresh H.length) (H ++ [.arr sz 0 xs])) 1 (.own H.length 0 0 xs.length) = .list false xs := by
    simp only [derefN, freezeP_get, heap_get0, Option.map_some, fresh, Nat.le_refl, decide_true, if_true, Entry.frzE]
    simp [derefN]
  rw [e]
  exact ⟨by simp, .list _ _ fun x hx' y hy => (hx x hx' y hy).more (Nat.zero_le _), rfl, rfl⟩

/-- An iterator yields some values, one by one, to whatever loop. -/
def Gives (S : Seat) (c : Nat) (cap : List AV) (xs : List AV) : Prop :=
  ∀ (id : Nat) (H0 : List Entry) (J : Nat → List Entry → Prop) (Jx : List Entry → Prop), J 0 H0 →
    (∀ k (hk : k < xs.length) H1, J k H1 → AYield S id [xs[k]] H1 (fun r H2 => (r = .bool true ∧ J (k + 1) H2) ∨ (r = .bool false ∧ Jx H2))) →
    ACall S c ([.func (.y id) [] []] ++ cap) H0 (fun _ H' => J xs.length H' ∨ Jx H')

theorem load_box {H : List Entry} {id : Nat} {v : AV} (h : H[id]? = some (.box [v])) : evLoad H false 1 (.ptr id 0) = some v := by
  simp [evLoad, window, h]
theorem store_box {H : List Entry} {id : Nat} {u v : AV} (h : H[id]? = some (.box [u])) (hv : v.cells = [v]) (h1 : v.oneIn H = true) : evStore H 1 (.ptr id 0) v = some (H.set id (.box [v])) := by
  simp [evStore, hv, h1, h, splice]
theorem store_box1 {H : List Entry} {id : Nat} {u v x : AV} (h : H[id]? = some (.box [u])) (hv : v.cells = [x]) (h1 : x.oneIn H = true) : evStore H 1 (.ptr id 0) v = some (H.set id (.box [x])) := by
  simp [evStore, hv, h1, h, splice]
theorem load_boxA {H : List Entry} {id : Nat} {v : AV} (h : H[id]? = some (.box [v])) : evLoad H true 1 (.ptr id 0) = some (.agg [v]) := by
  simp [evLoad, window, h]
theorem own_one {H : List Entry} {id ver lo hi sz : Nat} {xs : List AV} (h : H[id]? = some (.arr sz ver xs)) : (AV.own id ver lo hi).oneIn H = true := by
  simp [AV.oneIn, h]
theorem take_congr {α : Type} {A B : List α} {n : Nat} (h : ∀ j, j < n → A[j]? = B[j]?) : A.take n = B.take n := by
  apply List.ext_getElem?
  intro i
  rw [List.getElem?_take, List.getElem?_take]
  split
  · rename_i hi; exact h i hi
  · rfl
theorem evMin_int (k k' : IntKind) (a b : Int) : evMin (.int k a) (.int k' b) = some (.int k (if b < a then b else a)) := rfl
theorem evMax_int (k k' : IntKind) (a b : Int) : evMax (.int k a) (.int k' b) = some (.int k (if b > a then b else a)) := rfl
def DR (S : Seat) (Hs : Nat → List Entry) (K : Nat) (l : List IOper) (labs : List Lab) (env : Env) (k : Nat) (E : Env) : Prop := ∃ tr, DRun S Hs K l labs env k tr E
theorem DR.nil {Hs : Nat → List Entry} {K : Nat} {env : Env} : DR S Hs K [] [] env K env := ⟨_, .nil _⟩
theorem DR.light {Hs : Nat → List Entry} {K : Nat} {o : IOper} {l : List IOper} {labs : List Lab} {env E : Env} {k : Nat} {b : Lab} {v : AV} (hg : gdec env o.guard = some true) (hd : ∀ j, j ≤ K → evalOp o.op env (Hs j) = some (v, Hs j)) (h : DR S Hs K l labs (updo env o.dst v) k E) : DR S Hs K (o :: l) (b :: labs) env k E :=
  let ⟨_, h⟩ := h; ⟨_, .light hg (fun j hj => .ev (hd j hj)) h⟩
theorem DR.heavy {Hs : Nat → List Entry} {K : Nat} {o : IOper} {l : List IOper} {labs : List Lab} {env E : Env} {k : Nat} {v : AV} (hg : gdec env o.guard = some true) (hd : evalOp o.op env (Hs k) = some (v, Hs (k + 1))) (h : DR S Hs K l labs (updo env o.dst v) (k + 1) E) : DR S Hs K (o :: l) (.h k :: labs) env k E :=
  let ⟨_, h⟩ := h; ⟨_, .heavy hg (.ev hd) h⟩
theorem DR.fixed {Hs : Nat → List Entry} {K : Nat} {o : IOper} {l : List IOper} {labs : List Lab} {env E : Env} {k lo hi : Nat} {v : AV} (hg : gdec env o.guard = some true) (h1 : lo ≤ k) (h2 : k ≤ hi) (hd : ∀ j, lo ≤ j → j ≤ hi → evalOp o.op env (Hs j) = some (v, Hs j)) (h : DR S Hs K l labs (updo env o.dst v) k E) : DR S Hs K (o :: l) (.g lo hi :: labs) env k E :=
  let ⟨_, h⟩ := h; ⟨_, .fixed hg h1 h2 (fun j a b _ => .ev (hd j a b)) h⟩
theorem WP.drawE {r : Option Nat} {N b : Nat} {Q : Exit → St → Prop} {l : List IOper} {H : List Entry} (hmx : S.P.follows .mixedOrders = true) (labs : List Lab) (hchk : drawOk l labs = true) (Hs : Nat → List Entry) (K : Nat) {env E : Env}
    (hH : Hs 0 = H) (hq : Q .normal ⟨E, Hs K⟩) (hd : DR S Hs K l labs env 0 E) : WP S r N b (.region l true) Q ⟨env, H⟩ :=
  let ⟨_, hd⟩ := hd; WP.draw hmx labs hchk Hs K hd hH hq
theorem freezeP_all_nil : freezeP all [] = [] := rfl
theorem freezeP_all_cons (e : Entry) (H : List Entry) : freezeP all (e :: H) = e.frzE :: freezeP all H := by
  simp [freezeP, all, List.mapIdx_cons]
theorem frzE_box (cs : List AV) : (Entry.box cs).frzE = .box cs := rfl
theorem frzE_arr (s v : Nat) (xs : List AV) : (Entry.arr s v xs).frzE = .frz s v xs := rfl
theorem frzE_dead : Entry.dead.frzE = .dead := rfl
theorem CallF.f {H : List Entry} {c : Nat} {f : IFn} {args : List AV} {r : AV} (ht : trFn S c = some f) (h : Fun S c args r) : CallF S (.func (.f c) [] []) args H r := CallF.plain (Callable.of ht) (h H)
theorem CallF.lend {H : List Entry} {c : Nat} {f : IFn} {args : List AV} {r : AV} (n : Nat) (ht : trFn S c = some f) (h : Fun S c (args.map (canon H n)) r) (hp : Plain r) : CallF S (.func (.f c) [] []) args H r := CallF.plain (Callable.of ht) (ACall.lend n h hp)
/-- A call ahead of which the caller's rows are frozen. -/
theorem Callee.frz {H : List Entry} {c : Nat} {f : IFn} {args : List AV} {r : AV} {K : AV → List Entry → Prop} (n : Nat) (ht : trFn S c = some f) (h : Fun S c (args.map (canon H n)) r) (k : K r (freezeP all H)) : Callee S (.func (.f c) [] []) args H K :=
  Callee.plain (Callable.of ht) (ACall.frzN all n (h (freezeP all H))) (by rintro _ _ ⟨rfl, rfl⟩; exact k)
/-- A statement of open order that ends in one store, behind all else. -/
theorem WP.drawSR (T : List (Reg S)) {r : Option Nat} {N b : Nat} {Q : Exit → St → Prop} {l : List IOper} {H : List Entry} {env : Env} (hmx : S.P.follows .mixedOrders = true) (o : IOper) (l0 : List IOper) (hl : l = l0 ++ [o]) (hchk : drawOk l (List.replicate l0.length (.g 0 0) ++ [.h 0]) = true)
    (h : lightW S T l0 (fun st => gdec st.env o.guard = some true ∧ ∃ v H', evalOp o.op st.env st.H = some (v, H') ∧ Q .normal ⟨updo st.env o.dst v, H'⟩) ⟨env, H⟩) : WP S r N b (.region l true) Q ⟨env, H⟩ := by
  have key : ∀ (l0 : List IOper) (env : Env) (H' : List Entry) (K : Env → AV → List Entry → Prop), lightW S T l0 (fun st => gdec st.env o.guard = some true ∧ ∃ v H', evalOp o.op st.env st.H = some (v, H') ∧ K st.env v H') ⟨env, H⟩ →
      ∃ (v : AV) (H1 : List Entry) (E : Env), K E v H1 ∧ ∀ Hs : Nat → List Entry, Hs 0 = H → Hs 1 = H1 → DR S Hs 1 (l0 ++ [o]) (List.replicate l0.length (.g 0 0) ++ [.h 0]) env 0 (updo E o.dst v) := by
    intro l0
    induction l0 with
    | nil =>
      intro env H' K h
      simp only [lightW] at h
      obtain ⟨hg, v, H1, h1, h2⟩ := h
      exact ⟨v, H1, env, h2, fun Hs h0 hh => DR.heavy hg (by rw [h0, hh]; exact h1) .nil⟩
    | cons o1 l0 ih =>
      intro env H' K h
      obtain ⟨d, op, g, aft⟩ := o1
      simp only [lightW] at h
      split at h
      · rename_i hg
        split at h
        · rename_i f xs
          obtain ⟨v, ⟨c, first, captured, h1, h2, h3⟩, h4⟩ := h.sound
          obtain ⟨u, H1, E, k1, k2⟩ := ih _ H' K h4
          refine ⟨u, H1, E, k1, fun Hs h0 hh => ?_⟩
          obtain ⟨tr, ht⟩ := k2 Hs h0 hh
          exact ⟨_, .fixed hg (Nat.le_refl _) (Nat.le_refl _) (fun j a b _ => by
            obtain rfl : j = 0 := by omega
            rw [h0]; exact .call h1 h2 h3) ht⟩
        · split at h
          · rename_i v H2 he
            obtain ⟨e1, h4⟩ := h
            subst e1
            obtain ⟨u, H1, E, k1, k2⟩ := ih _ H' K h4
            refine ⟨u, H1, E, k1, fun Hs h0 hh => ?_⟩
            obtain ⟨tr, ht⟩ := k2 Hs h0 hh
            exact ⟨_, .fixed hg (Nat.le_refl _) (Nat.le_refl _) (fun j a b _ => by
              obtain rfl : j = 0 := by omega
              rw [h0]; exact .ev he) ht⟩
          · exact h.elim
      · rename_i hg
        obtain ⟨u, H1, E, k1, k2⟩ := ih _ H' K h
        refine ⟨u, H1, E, k1, fun Hs h0 hh => ?_⟩
        obtain ⟨tr, ht⟩ := k2 Hs h0 hh
        exact ⟨_, .skip hg ht⟩
      · exact h.elim
  obtain ⟨v, H1, E, k1, k2⟩ := key l0 env H (fun E v H' => Q .normal ⟨updo E o.dst v, H'⟩) h
  subst hl
  exact WP.drawE hmx _ hchk (fun k => if k = 0 then H else H1) 1 rfl k1 (k2 _ rfl rfl)
theorem WP.drawS {r : Option Nat} {N b : Nat} {Q : Exit → St → Prop} {l : List IOper} {H : List Entry} {env : Env} (hmx : S.P.follows .mixedOrders = true) (o : IOper) (l0 : List IOper) (hl : l = l0 ++ [o]) (hchk : drawOk l (List.replicate l0.length (.g 0 0) ++ [.h 0]) = true)
    (h : lightW S [] l0 (fun st => gdec st.env o.guard = some true ∧ ∃ v H', evalOp o.op st.env st.H = some (v, H') ∧ Q .normal ⟨updo st.env o.dst v, H'⟩) ⟨env, H⟩) : WP S r N b (.region l true) Q ⟨env, H⟩ := WP.drawSR [] hmx o l0 hl hchk h
/-- One more round. -/
theorem wrapS {k : Nat} (h : k < 9223372036854775807) : IntKind.i64.wrap ((k : Int) + 1) = ((k + 1 : Nat) : Int) := wrap64 _ (by omega) (by omega)

end Go.Proofs.YtihhinbjhiankaaGreatDoor.Al
