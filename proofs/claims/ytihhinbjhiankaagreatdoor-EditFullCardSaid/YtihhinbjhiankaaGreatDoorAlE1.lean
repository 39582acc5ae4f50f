/-
  THE CLOSER: what a law is handed, told by abstract values; what it was handed, behind the call.
-/
import Derived.Test.YtihhinbjhiankaaGreatDoorAlD
import Derived.ProofKit
import Derived.OpenShut
import Derived.ShutString
import Derived.ChangeOld
import Derived.Below
import Derived.Carry
import Derived.SizedLaws
set_option linter.unusedSimpArgs false
set_option linter.unusedVariables false
namespace Go.Proofs.YtihhinbjhiankaaGreatDoor.Al
open Go Go.RowKit Go.ChangeShapes Go.WideShapes Go.ChangeAt

/-- Cells that are told by abstract ones, over memory that nobody writes. -/
def Tells (S : Seat) (w : World) (xs : List AV) (cs : List Value) : Prop := cs.length = xs.length ∧ ∀ j y, xs[j]? = some y → Rel S [] (fun b => b < w.heap.size) w y (cs.getD j undef)

/-- What is read at a type is told by an element of a type of Lean's. -/
def Shape (S : Seat) (t : TypeId) {α : Type} (E : α → AV) (W : α → Prop) : Prop :=
  ∀ {H : Type} {enc : TypeId × Value → H} {w : World} {base : Nat} {sp : Nat → Bool} {held : Bool} {fuel : Nat} {cs : List Value} {x : DataW H × List MemPlace},
    DataW.trod enc S.P w base sp held fuel t cs = some x → (x.1.weights S.P t).all (· ≤ reachBytes) = true → ∃ a, W a ∧ Tells S w (E a).cells cs

variable {S : Seat}

theorem weightsAll_mem {H : Type} {P : Program} {e : TypeId} : ∀ {ds : List (DataW H)} {d : DataW H}, d ∈ ds → ∀ n ∈ d.weights P e, n ∈ DataW.weightsAll P e ds
  | d0 :: ds, d, h, n, hn => by
    simp only [DataW.weightsAll, List.mem_append]
    rcases List.mem_cons.1 h with rfl | h
    · exact .inl hn
    · exact .inr (weightsAll_mem h n hn)
theorem sized_at {H : Type} {P : Program} {ts : List TypeId} {ds : List (DataW H)} (h : (DataW.weightsEach P ts ds).all (· ≤ reachBytes) = true) {j : Nat} {t : TypeId} {d : DataW H} (ht : ts[j]? = some t) (hd : ds[j]? = some d) : (d.weights P t).all (· ≤ reachBytes) = true :=
  List.all_eq_true.2 fun n hn => List.all_eq_true.1 h n (DataW.weights_mem_each ht hd n hn)

theorem Tells.one {w : World} {x : AV} {v : Value} (h : Rel S [] (fun b => b < w.heap.size) w x v) : Tells S w [x] [v] := ⟨rfl, fun j y hy => by
  cases j with
  | zero => simp only [List.getElem?_cons_zero, Option.some.injEq] at hy; subst hy; exact h
  | succ j => simp at hy⟩

theorem Shape.int {t : TypeId} {k : IntKind} (ht : S.P.underlying t = some (.int k)) : Shape S t (fun n => .int k n) (fun n => k.min ≤ n ∧ n ≤ k.max) := by
  intro H enc w base sp held fuel cs x h hsz
  cases fuel with
  | zero => simp [DataW.trod] at h
  | succ fuel =>
    unfold DataW.trod at h
    rw [ht] at h
    split at h
    all_goals (rename_i heq; first | (cases h; done) | (exfalso; cases heq; done) | skip)
    rename_i k1 k' n
    cases heq
    split at h
    · rename_i hk
      obtain ⟨rfl, hw⟩ := hk
      simp only [Lit.wf, Bool.and_eq_true, decide_eq_true_eq] at hw
      exact ⟨n, hw, Tells.one (.int _ _)⟩
    · cases h

theorem Shape.bool {t : TypeId} (ht : S.P.underlying t = some .bool) : Shape S t (fun b => .bool b) (fun _ => True) := by
  intro H enc w base sp held fuel cs x h hsz
  cases fuel with
  | zero => simp [DataW.trod] at h
  | succ fuel =>
    unfold DataW.trod at h
    rw [ht] at h
    split at h
    all_goals (rename_i heq; first | (cases h; done) | (exfalso; cases heq; done) | skip)
    rename_i b
    exact ⟨b, trivial, Tells.one (.bool _)⟩

theorem mapM_range {α : Type} {f : Nat → Option α} : ∀ {n : Nat} {xs : List α}, (List.range n).mapM f = some xs → xs.length = n ∧ ∀ i, i < n → ∃ x, f i = some x ∧ xs[i]? = some x := by
  intro n xs h
  obtain ⟨h1, h2⟩ := mapM_get h
  simp at h1
  refine ⟨h1, fun i hi => ?_⟩
  obtain ⟨x, hx, hy⟩ := h2 i i (by simp [hi])
  exact ⟨x, hx, hy⟩

theorem cells?_get {w : World} {base : Nat} {a : Addr} {n : Nat} {cs : List Value} (h : w.cells? base a n = some cs) : cs.length = n ∧ ∀ j, j < n → ∃ v, w.cell? (a.add j) = some v ∧ cs[j]? = some v := by
  unfold World.cells? at h
  split at h
  · exact mapM_range h
  · cases h

theorem cell_lt {w : World} {a : Addr} {v : Value} (h : w.cell? a = some v) : a.block < w.heap.size ∧ a.spot = none := by
  unfold World.cell? at h
  split at h
  · rename_i c x y hb
    refine ⟨heap_lt hb, ?_⟩
    split at h
    · cases h
    · rename_i hs; simpa using hs
  · cases h

theorem Shape.slice {t e : TypeId} {α : Type} {E : α → AV} {W : α → Prop} {sz : Nat} (ht : S.P.underlying t = some (.slice e)) (hz : S.P.cellsOf e = sz) (hpos : 0 < sz) (hE : ∀ a, (E a).cells.length = sz) (he : Shape S e E W) (hby : decide (0 < S.P.bytesOf e) = true := by kernel_rfl) :
    Shape S t (fun l : List α => .list false (l.map E)) (fun l => l.length ≤ 140737488355328 ∧ ∀ x ∈ l, W x) := by
  intro H enc w base sp held fuel cs x h hsz
  cases fuel with
  | zero => simp [DataW.trod] at h
  | succ fuel =>
    unfold DataW.trod at h
    rw [ht] at h
    split at h
    all_goals (rename_i heq; first | (cases h; done) | (exfalso; cases heq; done) | skip)
    · exact ⟨[], ⟨Nat.zero_le _, by simp⟩, Tells.one (.empty _ _ _ (by simp) (by simp))⟩
    · rename_i e' a len cap
      cases heq
      simp only at h
      split at h
      · rename_i hc
        obtain ⟨hb, hlc, hcm⟩ := hc
        obtain ⟨els, h1, h2⟩ := Option.bind_eq_some_iff.1 h
        obtain ⟨rest, _, rfl⟩ := Option.map_eq_some_iff.1 h2
        obtain ⟨hlen, hel⟩ := mapM_range h1
        rw [hz] at hel
        simp only [DataW.weights, ht, List.all_cons, List.all_append, Bool.and_eq_true, decide_eq_true_eq, List.length_map] at hsz
        obtain ⟨hs1, hs2, _⟩ := hsz
        have hsm : len ≤ 140737488355328 := by
          have h3 : (els.length + rest.length) * 1 ≤ (els.length + rest.length) * S.P.bytesOf e := Nat.mul_le_mul_left _ (of_decide_eq_true hby)
          have h4 : reachBytes = 140737488351232 := rfl
          omega
        have key : ∀ i, i < len → ∃ y : α, W y ∧ ∃ cs', w.cells? base (a.add (i * sz)) sz = some cs' ∧ Tells S w (E y).cells cs' := by
          intro i hi
          obtain ⟨z, hz', hzm⟩ := hel i hi
          obtain ⟨cs', h3, h4⟩ := Option.bind_eq_some_iff.1 hz'
          obtain ⟨y, hy, hty⟩ := he h4 (List.all_eq_true.2 fun n hn => List.all_eq_true.1 hs2 n (weightsAll_mem (List.mem_map.2 ⟨z, List.mem_of_getElem? hzm, rfl⟩) n hn))
          exact ⟨y, hy, cs', h3, hty⟩
        have hex : ∀ n, n ≤ len → ∃ l : List α, l.length = n ∧ ∀ i y, l[i]? = some y → W y ∧ ∃ cs', w.cells? base (a.add (i * sz)) sz = some cs' ∧ Tells S w (E y).cells cs' := by
          intro n
          induction n with
          | zero => intro _; exact ⟨[], rfl, fun i y h => by simp at h⟩
          | succ n ih =>
            intro hn
            obtain ⟨l, hl, hi⟩ := ih (by omega)
            obtain ⟨y, hy⟩ := key n (by omega)
            refine ⟨l ++ [y], by simp [hl], fun i z hz => ?_⟩
            rcases getElem?_push_cases hz with ⟨hz, _⟩ | ⟨rfl, rfl⟩
            · exact hi i z hz
            · rw [hl]; exact hy
        obtain ⟨l, hl, hi⟩ := hex len (Nat.le_refl _)
        refine ⟨l, ⟨by omega, fun x hx => ?_⟩, Tells.one ?_⟩
        · obtain ⟨i, hi'⟩ := List.getElem?_of_mem hx
          exact (hi i x hi').1
        · have hcm' : cap ≤ 9223372036854775807 := hcm
          rcases Nat.eq_zero_or_pos len with h0 | h0
          · have : l = [] := List.eq_nil_of_length_eq_zero (by omega)
            subst this
            rw [h0]
            exact .empty _ _ _ (by simp) hcm'
          · have first : a.spot = none ∧ a.block < w.heap.size := by
              obtain ⟨_, cs', h3, _⟩ := hi 0 l[0] (List.getElem?_eq_getElem (by omega))
              obtain ⟨_, h5⟩ := cells?_get h3
              obtain ⟨v, hv, _⟩ := h5 0 hpos
              have := cell_lt hv
              obtain ⟨b, off, spot⟩ := a
              cases spot with
              | none => exact ⟨rfl, by have h9 := this.1; rw [addr_add, addr_add] at h9; exact h9⟩
              | some sp => exact absurd this.2 (by simp [Addr.add])
            obtain ⟨b, off, spot⟩ := a
            obtain ⟨rfl, hblk⟩ := first
            have cellAt : ∀ i x, (l.map E)[i]? = some x → ∀ j y, x.cells[j]? = some y → ∃ v, w.cell? ⟨b, off + i * sz + j, none⟩ = some v ∧ Rel S [] (fun b => b < w.heap.size) w y v := by
              intro i x hx j y hy
              rw [List.getElem?_map] at hx
              cases hli : l[i]? with
              | none => rw [hli] at hx; cases hx
              | some z =>
                rw [hli] at hx; cases hx
                obtain ⟨_, cs', h3, h4⟩ := hi i z hli
                obtain ⟨h5, h6⟩ := cells?_get h3
                have hj : j < sz := by have := lt_of_get hy; rw [hE] at this; exact this
                obtain ⟨v, hv, hcv⟩ := h6 j hj
                rw [addr_add, addr_add] at hv
                refine ⟨v, hv, ?_⟩
                have := h4.2 j y hy
                rwa [List.getD_eq_getElem?_getD, hcv] at this
            refine .list false (l.map E) b off len cap sz (fun i j => (w.cell? ⟨b, off + i * sz + j, none⟩).getD undef) (by simpa using hl) hlc hcm' (by simp) hblk (fun x hx => ?_) (fun i x hx j y hy => ?_) (fun i x hx j y hy => ?_)
            · obtain ⟨z, _, rfl⟩ := List.mem_map.1 hx
              exact hE z
            · obtain ⟨v, hv, _⟩ := cellAt i x hx j y hy
              rw [hv]; rfl
            · obtain ⟨v, hv, hr⟩ := cellAt i x hx j y hy
              rw [hv]; exact hr
      · cases h

/-- Fields, one behind the other. -/
inductive Fields (S : Seat) : List Field → Nat → {α : Type} → (α → List AV) → (α → Prop) → Prop
  | nil (off : Nat) : Fields S [] off (fun _ : Unit => []) (fun _ => True)
  | cons {f : Field} {fs : List Field} {off sz : Nat} {α β : Type} {E : α → AV} {W : α → Prop} {F : β → List AV} {V : β → Prop} (ho : f.offset = off) (hz : S.P.cellsOf f.type = sz) (hE : ∀ a, (E a).cells.length = sz) (he : Shape S f.type E W)
      (h : Fields S fs (off + sz) F V) : Fields S (f :: fs) off (fun p : α × β => (E p.1).cells ++ F p.2) (fun p => W p.1 ∧ V p.2)

theorem Fields.open {fs : List Field} {off : Nat} {β : Type} {F : β → List AV} {V : β → Prop} (hf : Fields S fs off F V) :
    ∀ {H : Type} {enc : TypeId × Value → H} {w : World} {base : Nat} {sp : Nat → Bool} {held : Bool} {fuel : Nat} {cs : List Value} {xs : List (DataW H × List MemPlace)},
      (fs.mapM fun f => DataW.trod enc S.P w base sp held fuel f.type ((cs.drop f.offset).take (S.P.cellsOf f.type))) = some xs → (DataW.weightsEach S.P (fs.map (·.type)) (xs.map (·.1))).all (· ≤ reachBytes) = true → ∃ b, V b ∧ ∀ j y, (F b)[j]? = some y → Rel S [] (fun b => b < w.heap.size) w y (cs.getD (off + j) undef) := by
  induction hf with
  | nil off => intros; exact ⟨(), trivial, fun j y h => by simp at h⟩
  | @cons f fs off sz α β E W F V ho hz hE he h ih =>
    intro H enc w base sp held fuel cs xs hm hsz
    rw [List.mapM_cons] at hm
    obtain ⟨x, hx, hm⟩ := Option.bind_eq_some_iff.1 hm
    obtain ⟨ys, hys, hxs⟩ := Option.bind_eq_some_iff.1 hm
    cases hxs
    simp only [List.map_cons, DataW.weightsEach, List.all_append, Bool.and_eq_true] at hsz
    obtain ⟨a, ha, hta⟩ := he hx hsz.1
    obtain ⟨b, hb, htb⟩ := ih hys hsz.2
    refine ⟨(a, b), ⟨ha, hb⟩, fun j y hj => ?_⟩
    rcases Nat.lt_or_ge j sz with hlt | hge
    · rw [List.getElem?_append_left (by rw [hE]; exact hlt)] at hj
      have := hta.2 j y hj
      rw [List.getD_eq_getElem?_getD, List.getElem?_take, ho, hz, if_pos hlt, List.getElem?_drop] at this
      rw [List.getD_eq_getElem?_getD]; exact this
    · rw [List.getElem?_append_right (by rw [hE]; exact hge), hE] at hj
      have := htb (j - sz) y hj
      rwa [show off + sz + (j - sz) = off + j by omega] at this

theorem Shape.struct {t : TypeId} {fs : Array Field} {β : Type} {F : β → List AV} {V : β → Prop} {n : Nat} (ht : S.P.underlying t = some (.struct fs)) (hn : S.P.cellsOf t = n) (hF : ∀ b, (F b).length = n) (hf : Fields S fs.toList 0 F V) :
    Shape S t (fun b => .agg (F b)) V := by
  intro H enc w base sp held fuel cs x h hsz
  cases fuel with
  | zero => simp [DataW.trod] at h
  | succ fuel =>
    have step : (if cs.length = S.P.cellsOf t then (fs.toList.mapM fun f => DataW.trod enc S.P w base sp held fuel f.type ((cs.drop f.offset).take (S.P.cellsOf f.type))).map (fun xs => ((DataW.agg (xs.map (·.1)) : DataW H), xs.flatMap (·.2))) else none) = some x →
        ∃ a, V a ∧ Tells S w (AV.agg (F a)).cells cs := by
      intro h
      split at h
      · rename_i hl
        obtain ⟨xs, hxs, rfl⟩ := Option.map_eq_some_iff.1 h
        simp only [DataW.weights, ht] at hsz
        obtain ⟨b, hb, hr⟩ := hf.open hxs hsz
        refine ⟨b, hb, by rw [hl, hn]; exact (hF b).symm, fun j y hj => ?_⟩
        have := hr j y hj
        rwa [Nat.zero_add] at this
      · cases h
    unfold DataW.trod at h
    rw [ht] at h
    split at h
    all_goals (rename_i heq; first | (cases h; done) | (exfalso; cases heq; done) | exact step h | (cases heq; exact step h))

/-- What is handed over, told value by value. -/
def Handed (S : Seat) (w : World) (xs : List AV) (vs : List Value) : Prop := vs.length = xs.length ∧ ∀ i x, xs[i]? = some x → Rel S [] (fun b => b < w.heap.size) w x (vs.getD i undef)

theorem Handed.nil (S : Seat) (w : World) : Handed S w [] [] := ⟨rfl, fun i x h => by simp at h⟩
theorem Handed.cons {w : World} {x : AV} {v : Value} {xs : List AV} {vs : List Value} (h : Rel S [] (fun b => b < w.heap.size) w x v) (k : Handed S w xs vs) : Handed S w (x :: xs) (v :: vs) :=
  ⟨by simp [k.1], fun i y hy => by
    cases i with
    | zero => simp only [List.getElem?_cons_zero, Option.some.injEq] at hy; subst hy; exact h
    | succ i => simpa using k.2 i y (by simpa using hy)⟩

/-- A value that is one cell. -/
theorem Shape.one {t : TypeId} {α : Type} {E : α → AV} {W : α → Prop} (he : Shape S t E W) (h1 : ∀ a, (E a).cells = [E a]) {H : Type} {enc : TypeId × Value → H} {w : World} {base : Nat} {sp : Nat → Bool} {held : Bool} {v : Value} {d : DataW H} {ps : List MemPlace}
    (h : DataW.Trod enc S.P w base sp held t v d ps) (hsz : (d.weights S.P t).all (· ≤ reachBytes) = true) (hv : ∀ cs, v ≠ .agg cs) : ∃ a, W a ∧ Rel S [] (fun b => b < w.heap.size) w (E a) v := by
  obtain ⟨fuel, hf⟩ := h
  obtain ⟨a, ha, ht⟩ := he hf hsz
  refine ⟨a, ha, ?_⟩
  have hc : v.cells = #[v] := by cases v <;> first | rfl | (exact absurd rfl (hv _))
  rw [hc] at ht
  have := ht.2 0 (E a) (by rw [h1]; rfl)
  simpa using this
/-- A value of more cells. -/
theorem Shape.many {t : TypeId} {β : Type} {F : β → List AV} {V : β → Prop} (he : Shape S t (fun b => .agg (F b)) V) {n : Nat} (hF : ∀ b, (F b).length = n) (hn : 1 < n) {H : Type} {enc : TypeId × Value → H} {w : World} {base : Nat} {sp : Nat → Bool} {held : Bool} {v : Value} {d : DataW H} {ps : List MemPlace}
    (h : DataW.Trod enc S.P w base sp held t v d ps) (hsz : (d.weights S.P t).all (· ≤ reachBytes) = true) : ∃ a, V a ∧ Rel S [] (fun b => b < w.heap.size) w (.agg (F a)) v := by
  obtain ⟨fuel, hf⟩ := h
  obtain ⟨a, ha, ht⟩ := he hf hsz
  refine ⟨a, ha, ?_⟩
  have hl := ht.1
  simp only [AV.cells, hF, Array.length_toList] at hl
  have hv : ∃ cs, v = .agg cs := by
    cases v <;> first | exact ⟨_, rfl⟩ | (exfalso; simp [Value.cells] at hl; omega)
  obtain ⟨cs, rfl⟩ := hv
  refine .agg _ _ (by simpa [Value.cells, hF] using hl) fun i x hx => ?_
  have := ht.2 i x hx
  simpa [Value.cells, List.getD_eq_getElem?_getD, Array.getD_eq_getD_getElem?] using this

/-- The call of a law that answers 'true'. -/
theorem law_calls {c : Nat} {xs : List AV} {b : Bool} (h : Fun S c xs (.bool b)) {w : World} {vs : List Value} (hv : Handed S w xs vs) (hg : GlOk S (fun b => b < w.heap.size) w) : Calls S.P (S.fn c) vs.toArray w fun e w' => e = .returned (.bool b) ∧ Below w.heap.size w w' := by
  have hs : Sim S [] (fun b => b < w.heap.size) (fun _ => False) w [] := ⟨rfl, fun id e he => by simp at he, fun id e g he => by simp at he, fun id id' e e' g g' he => by simp at he, fun b hb => by rcases hb with hb | hb; exact hb; exact hb.elim, fun _ _ hx => hx, hg⟩
  refine (h [] [] _ _ w vs.toArray hs ⟨by simpa using hv.1, fun i x hx => ?_⟩).mono ?_
  · have := hv.2 i x hx
    simpa [List.getD_eq_getElem?_getD, Array.getD_eq_getD_getElem?] using this
  · rintro e w' ⟨r, H', vv, m', I', rfl, ⟨rfl, rfl⟩, h3, h4, h5, h6, h7⟩
    cases h3
    exact ⟨rfl, h7.os, h7.tape, h7.output, h7.size, fun k hk => h7.keep k (.inl hk)⟩

/-- No tables: nothing is asked. -/
theorem GlOk.none {I : Nat → Prop} {w : World} (h : S.gl = []) : GlOk S I w := fun p hp => by rw [h] at hp; cases hp

/-- What was handed over reads as it did. -/
theorem handed_back {H : Type} {enc : TypeId × Value → H} {P : Program} (hl : laidOutB P = true) {W W' : World} (hb : Below W.heap.size W W') : ∀ {ts : List TypeId} {vs : List Value} {ds : List (DataW H)} {ps : List MemPlace},
    ts.all (fun t => P.readableRec t && decide (t < P.types.size)) = true → DataW.TrodAll enc P W 0 (fun _ => true) true ts vs ds ps → DataW.TrodAll enc P W' 0 (fun b => decide (b < W.heap.size)) true ts vs ds ps := by
  intro ts
  induction ts with
  | nil => intro vs ds ps _ h; cases vs <;> cases ds <;> simp [DataW.TrodAll] at h ⊢; exact h
  | cons t ts ih =>
    intro vs ds ps ht h
    simp only [List.all_cons, Bool.and_eq_true, decide_eq_true_eq] at ht
    obtain ⟨v, vs', d, ds', p, q, rfl, rfl, rfl, h1, h2⟩ := trodAll_cons h
    refine trodAll_cons_mk (Below.trod hl ht.1.1 ht.1.2 h1 hb ?_) (ih ht.2 h2)
    obtain ⟨n, hn⟩ := h1
    exact DataW.trod_lt n _ _ _ hn

end Go.Proofs.YtihhinbjhiankaaGreatDoor.Al
