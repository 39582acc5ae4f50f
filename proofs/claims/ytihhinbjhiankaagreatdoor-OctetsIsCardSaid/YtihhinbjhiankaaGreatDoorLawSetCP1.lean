/-
  JOINED: B1, B2, B3, B4, B5, B6, B7, B8, B9
-/
import Derived.Test.YtihhinbjhiankaaGreatDoorLawSetCP0
import Derived.RangeFuncLeaves
set_option linter.unusedSimpArgs false
set_option linter.unusedVariables false
/- OPERATORS, CONVERSIONS, CONSTANTS. -/
namespace Go.Proofs.YtihhinbjhiankaaGreatDoor.Al
open Go
variable {S : Seat} {m : List ME} {I X : Nat → Prop} {w : World} {H : List Entry}

theorem evInt_sound {op : BinOp} {k : IntKind} {a b : Int} {v : AV} {t : Nat} (h1 : op ≠ .shl) (h2 : op ≠ .shr) (h : evInt op k a b = some v) : ∃ vv, (binOp op t (.int k a) (.int k b)).run S.P w = .ok vv w ∧ Rel S m I w v vv := by
  cases op <;> simp only [evInt] at h
  case quo =>
    split at h
    · cases h
    · rename_i hb
      cases h
      exact ⟨_, by simp [binOp, Op.intDiv, hb], .int _ _⟩
  case rem =>
    split at h
    · cases h
    · rename_i hb
      cases h
      exact ⟨_, by simp [binOp, Op.intDiv, hb], .int _ _⟩
  case shl => exact absurd rfl h1
  case shr => exact absurd rfl h2
  case add => cases h; exact ⟨_, by simp [binOp, Op.intArith], .int _ _⟩
  case sub => cases h; exact ⟨_, by simp [binOp, Op.intArith], .int _ _⟩
  case mul => cases h; exact ⟨_, by simp [binOp, Op.intArith], .int _ _⟩
  case and => cases h; exact ⟨.int k (Go.bits .and k a b), by rw [binOp_and, intBits_and]; rfl, .int _ _⟩
  case or => cases h; exact ⟨.int k (Go.bits .or k a b), by rw [binOp_or, intBits_or]; rfl, .int _ _⟩
  case xor => cases h; exact ⟨.int k (Go.bits .xor k a b), by rw [binOp_xor, intBits_xor]; rfl, .int _ _⟩
  case andNot => cases h; exact ⟨.int k (Go.bits .andNot k a b), by rw [binOp_andNot, intBits_andNot]; rfl, .int _ _⟩
  all_goals
    cases h
    refine ⟨.bool _, ?_, .bool _⟩
    simp [binOp, Op.intCmp]

theorem evShift_sound {op : BinOp} {k k' : IntKind} {a b : Int} {v : AV} {t : Nat} (h : evShift op k a b = some v) : ∃ vv, (binOp op t (.int k a) (.int k' b)).run S.P w = .ok vv w ∧ Rel S m I w v vv := by
  unfold evShift at h
  split at h
  · cases h
  · rename_i hb
    cases op <;> simp only at h <;> cases h
    · exact ⟨_, by simp [binOp, Op.shift, hb], .int _ _⟩
    · exact ⟨_, by simp [binOp, Op.shift, hb], .int _ _⟩

theorem bin_sound {x y : AV} {xv yv : Value} (hx : Rel S m I w x xv) (hy : Rel S m I w y yv) {isB : Bool} {op : BinOp} {t : Nat} (ht : isB = true → S.P.underlying t = some .bool) {v : AV}
    (h : evBin isB op x y = some v) : ∃ vv, (binOp op t xv yv).run S.P w = .ok vv w ∧ Rel S m I w v vv := by
  unfold evBin at h
  split at h
  · rename_i k a k' b
    cases hx; cases hy
    split at h
    · exact evShift_sound h
    · exact evShift_sound h
    · rename_i h1 h2
      split at h
      · rename_i hk
        subst hk
        exact evInt_sound (fun e => h1 e) (fun e => h2 e) h
      · cases h
  · rename_i a b
    cases hx; cases hy
    cases op <;> simp only [evStr] at h <;> try (cases h; done)
    case add =>
      split at h
      · rename_i hle
        cases h
        have hb : ¬ ((9223372036854775807 : Int) < (a.length : Int) + (b.length : Int)) := by unfold maxRow at hle; omega
        refine ⟨.string (⟨a.toArray⟩ ++ ⟨b.toArray⟩), ?_, ?_⟩
        · have e1 : (⟨a.toArray⟩ : ByteArray).size = a.length := by simp [ByteArray.size]
          have e2 : (⟨b.toArray⟩ : ByteArray).size = b.length := by simp [ByteArray.size]
          simp [binOp, Op.stringOp, e1, e2, hb]
        · have : (⟨a.toArray⟩ ++ ⟨b.toArray⟩ : ByteArray) = ⟨(a ++ b).toArray⟩ := by
            apply ByteArray.ext
            simp [ByteArray.data_append]
          rw [this]; exact .str _
      · cases h
    case eql => cases h; exact ⟨_, by simp [binOp, Op.stringOp], .bool _⟩
    case neq => cases h; exact ⟨_, by simp [binOp, Op.stringOp], .bool _⟩
  · rename_i a b
    cases hx; cases hy
    split at h
    · rename_i hB
      have hu := ht hB
      have he : (Op.equal t (.bool a) (.bool b)).run S.P w = .ok (a == b) w := by
        unfold Op.equal Op.maxDepth
        rw [show (10000 : Nat) = 9999 + 1 from rfl, Op.equalIn]
        simp [run_underlying hu]
      cases op <;> simp only at h <;> cases h
      · refine ⟨.bool (a == b), ?_, .bool _⟩
        simp [binOp, he]
      · refine ⟨.bool (!(a == b)), ?_, .bool _⟩
        simp [binOp, he]
    · cases h
  · cases h

def TKok (P : Program) (t : Nat) : TK → Prop
  | .slice => ∃ e, P.underlying t = some (.slice e)
  | .pointer => ∃ e, P.underlying t = some (.pointer e)
  | .func => ∃ a b c, P.underlying t = some (.func a b c)

def nilOf : TK → Value
  | .slice => .slice none 0 0
  | .pointer => .pointer none
  | .func => .nilFunc

theorem nil_sound (hs : Sim S m I X w H) {x : AV} {xv : Value} (hx : Rel S m I w x xv) {k : TK} {t : Nat} (ht : TKok S.P t k) {v : AV} (h : evNil H k x = some v) :
    ∃ b, (Op.equal t xv (nilOf k)).run S.P w = .ok b w ∧ Rel S m I w v (.bool b) := by
  unfold Op.equal Op.maxDepth
  rw [show (10000 : Nat) = 9999 + 1 from rfl, Op.equalIn]
  have hsl : k = .slice → ∀ (a : Option Addr) (n c : Nat), xv = .slice a n c → ∃ b, ((Op.equalIn (9999 + 1) t xv (nilOf k)).run S.P w = .ok b w) ∧ (b = true → a = none) := by
    intro hk a n c hv
    subst hk; subst hv
    obtain ⟨e, he⟩ := ht
    rw [Op.equalIn]
    cases a with
    | none => exact ⟨true, by simp [run_underlying he, nilOf], fun _ => rfl⟩
    | some a => exact ⟨false, by simp [run_underlying he, nilOf], by simp⟩
  rw [← Op.equalIn]
  cases k with
  | slice =>
    cases x with
    | list tt xs =>
      cases xs with
      | nil =>
        simp only [evNil] at h; cases h
        cases hx with
        | empty _ a c _ _ => obtain ⟨b, hb, _⟩ := hsl rfl a 0 c rfl; exact ⟨b, hb, .anybool b⟩
        | list _ _ b off n c sz rd hn => obtain ⟨b, hb, _⟩ := hsl rfl _ n c rfl; exact ⟨b, hb, .anybool b⟩
      | cons y ys =>
        simp only [evNil] at h; cases h
        cases hx with
        | list _ _ b off n c sz rd hn =>
          obtain ⟨b, hb, hf⟩ := hsl rfl _ n c rfl
          cases b with
          | true => have := hf rfl; cases this
          | false => exact ⟨false, hb, .bool false⟩
    | own id ver lo hi =>
      simp only [evNil] at h
      split at h
      · rename_i ho
        cases h
        have key : ∀ {sz u : Nat} {e1 : ME} {ys : List AV}, m[id]? = some e1 → RowOk S m I w e1 sz u ys → u = ver → ∃ b, (Op.equalIn (9999 + 1) t xv (nilOf .slice)).run S.P w = .ok b w ∧ Rel S m I w .anybool (.bool b) := by
          intro sz u e1 ys h1 hr hu
          subst hu
          obtain ⟨a, c, hv, _⟩ := own_len h1 hr hx
          obtain ⟨b, hb, _⟩ := hsl rfl a _ c hv
          exact ⟨b, hb, .anybool b⟩
        simp only [AV.oneIn] at ho
        split at ho
        · rename_i sz u ys he
          obtain ⟨e1, h1, hr⟩ := hs.hok id _ he
          exact key h1 hr (by simpa using ho)
        · rename_i sz u ys he
          obtain ⟨e1, h1, hr, _⟩ := hs.hok id _ he
          exact key h1 hr (by simpa using ho)
        · cases ho
      · cases h
    | _ => simp [evNil] at h
  | pointer =>
    cases x <;> simp only [evNil] at h <;> cases h
    cases hx
    obtain ⟨e, he⟩ := ht
    exact ⟨true, by rw [Op.equalIn]; simp [run_underlying he, nilOf], .bool true⟩
  | func =>
    obtain ⟨a, b, c, he⟩ := ht
    cases x <;> simp only [evNil] at h <;> cases h
    · cases hx
      exact ⟨false, by rw [Op.equalIn]; simp [run_underlying he, nilOf], .bool false⟩
    · cases hx
      exact ⟨true, by rw [Op.equalIn]; simp [run_underlying he, nilOf], .bool true⟩

theorem un_sound {x : AV} {xv : Value} (hx : Rel S m I w x xv) {op : UnOp} {v : AV} (h : evUn op x = some v) : ∃ vv, (Op.unary op xv).run S.P w = .ok vv w ∧ Rel S m I w v vv := by
  unfold evUn at h
  split at h
  · cases hx; cases h
    exact ⟨_, by simp [Op.unary, Op.intArith], .int _ _⟩
  · rename_i k n
    cases hx
    split at h
    · rename_i hk
      cases h
      refine ⟨.int k (Go.bits .xor k (-1) n), ?_, .int _ _⟩
      simp only [Op.unary, hk, if_true, intBits_xor]; rfl
    · rename_i hk
      cases h
      refine ⟨.int k (Go.bits .xor k k.max n), ?_, .int _ _⟩
      simp only [Op.unary, hk, intBits_xor]; rfl
  · cases hx; cases h
    exact ⟨_, by simp [Op.unary], .bool _⟩
  · cases hx; cases h
    rename_i b
    exact ⟨.bool (!b), by simp [Op.unary], .anybool _⟩
  · cases h

theorem foldA_min : ∀ (xs : List AV) (vs : List Value) (x : AV) (xv : Value), Rel S m I w x xv → vs.length = xs.length → (∀ (i : Nat) (y : AV), xs[i]? = some y → Rel S m I w y (vs[i]?.getD undef)) → ∀ {v : AV},
    xs.foldlM evMin x = some v → ∃ vv, (vs.foldlM Builtin.min2 xv).run S.P w = .ok vv w ∧ Rel S m I w v vv
  | [], [], x, xv, hx, _, _, v, h => by cases h; exact ⟨xv, rfl, hx⟩
  | y :: ys, u :: us, x, xv, hx, hl, hr, v, h => by
    rw [List.foldlM_cons] at h
    cases hm : evMin x y with
    | none => rw [hm] at h; cases h
    | some z =>
      rw [hm] at h
      have hy := hr 0 y rfl
      simp only [List.getElem?_cons_zero, Option.getD_some] at hy
      unfold evMin at hm
      split at hm
      · cases hx; cases hy; cases hm
        obtain ⟨vv, h1, h2⟩ := foldA_min ys us _ _ (.int _ _) (by simpa using hl) (fun i y hy => hr (i + 1) y hy) h
        refine ⟨vv, ?_, h2⟩
        rw [List.foldlM_cons, Sem.run_bind]
        simp only [Builtin.min2, Sem.run_pure, Result.andThen_ok]
        exact h1
      · cases hm

theorem foldA_max : ∀ (xs : List AV) (vs : List Value) (x : AV) (xv : Value), Rel S m I w x xv → vs.length = xs.length → (∀ (i : Nat) (y : AV), xs[i]? = some y → Rel S m I w y (vs[i]?.getD undef)) → ∀ {v : AV},
    xs.foldlM evMax x = some v → ∃ vv, (vs.foldlM Builtin.max2 xv).run S.P w = .ok vv w ∧ Rel S m I w v vv
  | [], [], x, xv, hx, _, _, v, h => by cases h; exact ⟨xv, rfl, hx⟩
  | y :: ys, u :: us, x, xv, hx, hl, hr, v, h => by
    rw [List.foldlM_cons] at h
    cases hm : evMax x y with
    | none => rw [hm] at h; cases h
    | some z =>
      rw [hm] at h
      have hy := hr 0 y rfl
      simp only [List.getElem?_cons_zero, Option.getD_some] at hy
      unfold evMax at hm
      split at hm
      · cases hx; cases hy; cases hm
        obtain ⟨vv, h1, h2⟩ := foldA_max ys us _ _ (.int _ _) (by simpa using hl) (fun i y hy => hr (i + 1) y hy) h
        refine ⟨vv, ?_, h2⟩
        rw [List.foldlM_cons, Sem.run_bind]
        simp only [Builtin.max2, Sem.run_pure, Result.andThen_ok]
        exact h1
      · cases hm

/-! ### Bytes to a string -/
theorem foldl_push (ns : List Int) (f : Int → UInt8) : ∀ (r : ByteArray), ns.foldl (fun r n => r.push (f n)) r = ⟨(r.data.toList ++ ns.map f).toArray⟩ := by
  induction ns with
  | nil => intro r; apply ByteArray.ext; simp
  | cons n ns ih =>
    intro r
    rw [List.foldl_cons, ih]
    apply ByteArray.ext
    simp [ByteArray.push]

theorem mapM_byteOf : ∀ (xs : List AV) (s : List UInt8), xs.mapM byteOf = some s → ∃ ns : List Int, xs = ns.map (AV.int .u8) ∧ s = ns.map (fun n => UInt8.ofNat n.toNat)
  | [], s, h => by
    simp at h
    exact ⟨[], rfl, by simpa using h.symm⟩
  | x :: xs, s, h => by
    rw [List.mapM_cons] at h
    cases hb : byteOf x with
    | none => rw [hb] at h; cases h
    | some b =>
      rw [hb] at h
      cases hm : xs.mapM byteOf with
      | none => rw [hm] at h; cases h
      | some s' =>
        rw [hm] at h
        cases h
        obtain ⟨ns, h1, h2⟩ := mapM_byteOf xs s' hm
        unfold byteOf at hb
        split at hb
        · rename_i n
          cases hb
          exact ⟨n :: ns, by rw [h1]; rfl, by rw [h2]; rfl⟩
        · cases hb

theorem convS_sound (hs : Sim S m I X w H) {x : AV} {xv : Value} (hx : Rel S m I w x xv) {xs : List AV} (hse : seen H x = some xs) {s : List UInt8} (h : xs.mapM byteOf = some s) :
    (Conv.bytesToString xv).run S.P w = .ok (.string ⟨s.toArray⟩) w := by
  obtain ⟨ns, rfl, rfl⟩ := mapM_byteOf xs s h
  have hz : ∀ y ∈ ns.map (AV.int .u8), y.cells.length = 1 := by
    intro y hy
    obtain ⟨n, _, rfl⟩ := List.mem_map.1 hy
    rfl
  obtain ⟨a, c, vs, rfl, hc, hcx, hcell⟩ := seen_cells hs hx hse hz
  have hvs : vs = ns.map (Value.int .u8) := by
    apply List.ext_getElem?
    intro k
    have hl : vs.length = ns.length := by have := hcx.1; simpa using this
    by_cases hk : k < ns.length
    · have h1 : (ns.map (AV.int .u8))[k]? = some (.int .u8 ns[k]) := by simp [hk]
      have := hcx.2.2 k _ h1 0 (.int .u8 ns[k]) rfl
      simp only [Nat.mul_one, Nat.add_zero] at this
      rw [List.getElem?_eq_getElem (by omega : k < vs.length)] at this ⊢
      simp only [Option.getD_some] at this
      rw [List.getElem?_map, List.getElem?_eq_getElem hk]
      cases hv : vs[k] <;> rw [hv] at this <;> cases this
      rfl
    · rw [List.getElem?_eq_none (by omega), List.getElem?_eq_none (by simp; omega)]
  by_cases h0 : ns = []
  · subst h0
    cases a with
    | none => simp [Conv.bytesToString]; rfl
    | some a =>
      have := run_bytesToString (P := S.P) w a 0 c [] (by simp [loadCells, loadCellsFrom])
      simp only [List.foldl_nil] at this
      exact this
  · obtain ⟨b, off, rfl, hcells⟩ := hcell (by simpa using h0)
    have hl := run_loadCells_list (P := S.P) w ⟨b, off, none⟩ vs hcells
    have hlen : vs.length = (ns.map (AV.int .u8)).length := by rw [hvs]; simp
    rw [hlen, hvs] at hl
    have := run_bytesToString (P := S.P) w ⟨b, off, none⟩ _ c ns hl
    rw [this, foldl_push]
    rfl

/-! ### Constants -/
def trLeaf : Value → Option AV
  | .bool b => some (.bool b)
  | .int k n => some (.int k n)
  | .string s => some (.str s.data.toList)
  | .slice none 0 0 => some (.list true [])
  | .pointer none => some .nilptr
  | .nilFunc => some .nilfunc
  | .nilIface => some .nilIface
  | _ => none

def trVal : Value → Option AV
  | .agg cs => (cs.toList.mapM trLeaf).map .agg
  | .tuple vs => if vs.size = 0 then some (.tup []) else none
  | v => trLeaf v

theorem trLeaf_sound {v : Value} {a : AV} (h : trLeaf v = some a) : Rel S m I w a v ∧ a.oneIn H = true ∧ Pure a := by
  unfold trLeaf at h
  split at h <;> cases h
  · exact ⟨.bool _, rfl, .bool _⟩
  · exact ⟨.int _ _, rfl, .int _ _⟩
  · rename_i s
    exact ⟨by have := Rel.str (S := S) (m := m) (I := I) (w := w) s.data.toList; simpa using this, rfl, .str _⟩
  · exact ⟨.empty true none 0 (fun _ => rfl) (by omega), rfl, .list _ _ (by simp)⟩
  · exact ⟨.nilptr, rfl, .nilptr⟩
  · exact ⟨.nilfunc, rfl, .nilfunc⟩
  · exact ⟨.nilIface, rfl, .nilIface⟩

theorem mapM_trLeaf : ∀ (vs : List Value) (avs : List AV), vs.mapM trLeaf = some avs → avs.length = vs.length ∧ ∀ (i : Nat) (a : AV), avs[i]? = some a → ∃ v, vs[i]? = some v ∧ trLeaf v = some a
  | [], avs, h => by simp at h; subst h; exact ⟨rfl, by simp⟩
  | v :: vs, avs, h => by
    rw [List.mapM_cons] at h
    cases hb : trLeaf v with
    | none => rw [hb] at h; cases h
    | some b =>
      rw [hb] at h
      cases hm : vs.mapM trLeaf with
      | none => rw [hm] at h; cases h
      | some s' =>
        rw [hm] at h
        cases h
        obtain ⟨h1, h2⟩ := mapM_trLeaf vs s' hm
        refine ⟨by simp [h1], fun i a ha => ?_⟩
        cases i with
        | zero => simp at ha; subst ha; exact ⟨v, rfl, hb⟩
        | succ i => simp at ha; simpa using h2 i a ha

theorem trVal_sound {v : Value} {a : AV} (h : trVal v = some a) : Rel S m I w a v ∧ Rels S m I w a.cells v.cells := by
  unfold trVal at h
  split at h
  · rename_i cs
    cases hm : cs.toList.mapM trLeaf with
    | none => rw [hm] at h; cases h
    | some avs =>
      rw [hm] at h
      cases h
      obtain ⟨h1, h2⟩ := mapM_trLeaf _ _ hm
      have hr : Rels S m I w avs cs := ⟨by simpa using h1.symm, fun i x hx => by
        obtain ⟨v, hv, ht⟩ := h2 i x hx
        rw [getD_list, hv]
        exact (trLeaf_sound (H := []) ht).1⟩
      exact ⟨.agg _ _ hr.1 hr.2, hr⟩
  · rename_i vs
    split at h
    · rename_i h0
      cases h
      have : vs = #[] := Array.eq_empty_of_size_eq_zero h0
      subst this
      refine ⟨.tup _ _ rfl (by simp), ⟨rfl, fun i x hx => ?_⟩⟩
      cases i with
      | zero => simp [AV.cells] at hx; subst hx; simp [Value.cells]; exact .tup _ _ rfl (by simp)
      | succ i => simp [AV.cells] at hx
    · cases h
  · have h' := h
    have hr := (trLeaf_sound (S := S) (m := m) (I := I) (w := w) (H := []) h').1
    refine ⟨hr, ?_⟩
    have hac : a.cells = [a] ∧ v.cells = #[v] := by
      unfold trLeaf at h'
      split at h' <;> cases h' <;> exact ⟨rfl, rfl⟩
    rw [hac.1, hac.2]
    refine ⟨rfl, fun i x hx => ?_⟩
    cases i with
    | zero => simp at hx; subst hx; simpa using hr
    | succ i => simp at hx

end Go.Proofs.YtihhinbjhiankaaGreatDoor.Al

/- HOW THE PROGRAM's OPERATIONS ARE TOLD, and that they answer as told. -/
namespace Go.Proofs.YtihhinbjhiankaaGreatDoor.Al
open Go
variable {S : Seat} {m : List ME} {I X : Nat → Prop} {w : World} {H : List Entry}

def trOpd (S : Seat) : Operand → Option Opd
  | .tmp t => some (.t t)
  | .const v => (trVal v).map .c
  | .func f => if S.fn (S.cf f) = f then some (.f (S.cf f)) else none
  | .global _ => none

def trOpds (S : Seat) (xs : List Operand) : Option (List Opd) := xs.mapM (trOpd S)

def isAggD : TypeDesc → Bool
  | .struct _ | .array _ _ => true
  | _ => false

def tagg (S : Seat) (t : Nat) : Option (Bool × Nat) := match S.P.underlying t, S.P.info? t with
  | some d, some i => some (isAggD d, i.size)
  | _, _ => none

structure TE where
  e : Nat
  i : TypeInfo
  z : Value
  za : AV

def telem (S : Seat) (t : Nat) : Option TE := match S.P.underlying t with
  | some (.slice e) => (match S.P.info? e with
    | some i => (match i.zero with
      | some z => (match trVal z with
        | some za => if z.cells.size = i.size ∧ 0 < i.size ∧ z.cells.all (·.oneCell') = true then some ⟨e, i, z, za⟩ else none
        | none => none)
      | none => none)
    | none => none)
  | _ => none

def trParts (S : Seat) (place : Nat → Option (Nat × Nat)) : List (Nat × Operand) → Option (List (Nat × Nat × Opd))
  | [] => some []
  | (k, x) :: r => match place k, trOpd S x, trParts S place r with
    | some (o, n), some x', some r' => some ((o, n, x') :: r')
    | _, _, _ => none

def trRow (S : Seat) : List (Nat × Operand) → Option (List (Nat × Opd))
  | [] => some []
  | (k, x) :: r => match trOpd S x, trRow S r with
    | some x', some r' => some ((k, x') :: r')
    | _, _ => none

def sizes (S : Seat) (fs : List Field) : Option (List (Nat × Nat)) := fs.mapM fun f => (S.P.info? f.type).map fun i => (f.offset, i.size)

def trOpt (S : Seat) : Option Operand → Option (Option Opd)
  | none => some none
  | some x => (trOpd S x).map some

def trBin (S : Seat) (op : BinOp) (t : Nat) (x y : Operand) : Option IOp :=
  match trOpd S x, trOpd S y with
  | some x', some y' => (match op with
    | .eql | .neq => (match S.P.underlying t, y with
      | some (.slice _), .const (.slice none 0 0) => some (.isnil .slice (op == .neq) x')
      | some (.func _ _ _), .const .nilFunc => some (.isnil .func (op == .neq) x')
      | some (.pointer _), .const (.pointer none) => some (.isnil .pointer (op == .neq) x')
      | some .bool, _ => some (.bin true op x' y')
      | some (.int _), _ => some (.bin false op x' y')
      | some .string, _ => some (.bin false op x' y')
      | _, _ => none)
    | _ => some (.bin false op x' y'))
  | _, _ => none

def trConv (S : Seat) (src dst : Nat) (x : Operand) : Option IOp :=
  match S.P.underlying src, S.P.underlying dst, trOpd S x with
  | some _, some (.int k), some x' => some (.convI k x')
  | some (.slice e), some .string, some x' => (match S.P.underlying e with
    | some (.int .u8) => some (.convS x')
    | _ => none)
  | _, _, _ => none

def trBuiltin (S : Seat) (b : Builtin) (ts : List Nat) (args : List Operand) : Option IOp :=
  match b, ts, args with
  | .len, [t], [x] => (match S.P.underlying t, trOpd S x with
    | some (.slice _), some x' => some (.len x')
    | some .string, some x' => some (.lenS x')
    | some (.array n _), some _ => some (.lenA n)
    | _, _ => none)
  | .min, _, _ => (trOpds S args).map .min
  | .max, _, _ => (trOpds S args).map .max
  | .append, [t, u], [x, y] => (match telem S t, S.P.underlying u, trOpd S x, trOpd S y with
    | some e, some (.slice _), some x', some y' => some (.append e.i.size e.i.bytes x' y')
    | some e, some (.int _), some x', some y' => some (.appendZ e.i.size e.i.bytes e.za x' y')
    | _, _, _, _ => none)
  | .copy, [t, u], [x, y] => (match telem S t, S.P.underlying u, trOpd S x, trOpd S y with
    | some e, some (.slice _), some x', some y' => some (.copy e.i.size x' y')
    | _, _, _, _ => none)
  | .clear, [t], [x] => (match telem S t, trOpd S x with
    | some e, some x' => some (.clear e.i.size e.za x')
    | _, _ => none)
  | _, _, _ => none

def trCall (S : Seat) (c : Call) : Option IOp :=
  match c.callee with
  | .builtin b => trBuiltin S b c.argTypes.toList c.args.toList
  | .value f => (match trOpd S f, trOpds S c.args.toList with
    | some f', some xs => some (.call f' xs)
    | _, _ => none)
  | .invoke r n => (match trOpd S r, trOpds S c.args.toList with
    | some r', some xs => some (.invoke r' n xs)
    | _, _ => none)

def trOp (S : Seat) (op : Go.Op) : Option IOp := match op with
  | .move x => (trOpd S x).map .mv
  | .assign x => (trOpd S x).map .mv
  | .pick c a b => (match trOpd S c, trOpd S a, trOpd S b with
    | some c', some a', some b' => some (.pick c' a' b')
    | _, _, _ => none)
  | .alloc e => (match S.P.info? e with
    | some i => (match i.zero with
      | some z => (trVal z).map fun za => .alloc za.cells
      | none => none)
    | none => none)
  | .box _ x => (trOpd S x).map .box
  | .build t parts => (match S.P.info? t, S.P.underlying t with
    | some i, some (.struct fs) => (match i.zero with
      | some z => (match trVal z, sizes S fs.toList with
        | some za, some ps => (trParts S (fun k => ps[k]?) parts.toList).map (.build za.cells)
        | _, _ => none)
      | none => none)
    | some i, some (.array _ e) => (match i.zero with
      | some z => (match trVal z, S.P.info? e with
        | some za, some ei => (trParts S (fun k => some (k * ei.size, ei.size)) parts.toList).map (.build za.cells)
        | _, _ => none)
      | none => none)
    | _, _ => none)
  | .buildSlice t len parts => (match telem S t, trRow S parts.toList with
    | some e, some ps => some (.bslice e.i.size len e.za ps)
    | _, _ => none)
  | .load t a => (match tagg S t, trOpd S a with
    | some (g, n), some a' => some (.load g n a')
    | _, _ => none)
  | .store t a v => (match tagg S t, trOpd S a, trOpd S v with
    | some (_, n), some a', some v' => some (.store n a' v')
    | _, _, _ => none)
  | .nilCheck x => (trOpd S x).map .nilck
  | .binOp op t x y _ => trBin S op t x y
  | .unOp op _ x => (trOpd S x).map (.un op)
  | .convert src dst x => trConv S src dst x
  | .makeInterface t x => (match S.P.underlying t, trOpd S x with
    | some (.interface _), _ => none
    | some _, some x' => if S.ty (S.ct t) = t then some (.mkiface (S.ct t) x') else none
    | _, _ => none)
  | .makeFunc (.func f) first captured => (match trOpds S first.toList, trOpds S captured.toList with
    | some fs, some cs => if S.fn (S.cf f) = f then some (.mkfunc (S.cf f) fs cs) else none
    | _, _ => none)
  | .makeSlice t l c => (match telem S t, trOpd S l, trOpd S c with
    | some e, some l', some c' => some (.mkslice e.i.size e.i.bytes e.za l' c')
    | _, _, _ => none)
  | .slice t x lo hi mx => (match telem S t, trOpd S x, trOpt S lo, trOpt S hi, trOpt S mx with
    | some e, some x', some lo', some hi', some mx' => some (.slice e.i.size x' lo' hi' mx')
    | _, _, _, _, _ => none)
  | .fieldAddr s x f => (match S.P.underlying s, trOpd S x with
    | some (.struct fs), some x' => (match fs[f]? with
      | some fd => (match S.P.info? fd.type with
        | some i => if i.size = 0 then none else some (.faddr fd.offset x')
        | none => none)
      | none => none)
    | _, _ => none)
  | .field s x f => (match S.P.underlying s, trOpd S x with
    | some (.struct fs), some x' => (match fs[f]? with
      | some fd => (match tagg S fd.type with
        | some (g, n) => some (.field g fd.offset n x')
        | none => none)
      | none => none)
    | _, _ => none)
  | .indexAddr t x i => (match S.P.underlying t, trOpd S x, trOpd S i with
    | some (.slice e), some x', some i' => (S.P.info? e).map fun j => .iaddr j.size x' i'
    | some (.array len e), some x', some i' => (S.P.info? e).map fun j => .iaddrA len j.size x' i'
    | _, _, _ => none)
  | .index t x i => (match S.P.underlying t, trOpd S x, trOpd S i with
    | some (.array len e), some x', some i' => (tagg S e).map fun g => .idxA g.1 len g.2 x' i'
    | _, _, _ => none)
  | .extract x i => (trOpd S x).map fun x' => .extract x' i
  | .typeAssert x _ t false => (match S.P.underlying t, trOpd S x with
    | some (.interface _), _ => none
    | some _, some x' => if S.ty (S.ct t) = t then some (.tassert (S.ct t) x') else none
    | _, _ => none)
  | .call c => trCall S c
  | .panic _ => some (.pick (.c .undef) (.c .undef) (.c .undef))
  | _ => none

def EnvR (S : Seat) (m : List ME) (I : Nat → Prop) (w : World) (env : Env) (tmps : Array Value) : Prop := ∀ j, Rel S m I w (env j) (tmps.getD j undef)

theorem EnvR.mono {env : Env} {tmps : Array Value} {m' : List ME} {I' : Nat → Prop} {w' : World} (h : EnvR S m I w env tmps) (hm : MLe m m') (hI : ∀ b, I b → I' b) (hw : ∀ b, I b → w'.heap[b]? = w.heap[b]?) : EnvR S m' I' w' env tmps :=
  fun j => (h j).mono hm hI hw

theorem trOpd_sound {env : Env} {a : Act} (he : EnvR S m I w env a.tmps) {x : Operand} {y : Opd} (h : trOpd S x = some y) : Rel S m I w (y.ev env) (a.eval x) := by
  cases x with
  | tmp t => cases h; exact he t
  | const v =>
    simp only [trOpd] at h
    cases hv : trVal v with
    | none => rw [hv] at h; cases h
    | some z => rw [hv] at h; cases h; exact (trVal_sound hv).1
  | global g => cases h
  | func f =>
    simp only [trOpd] at h
    split at h
    · rename_i hf
      cases h
      exact .func (.f (S.cf f)) [] [] (.func f) #[] #[] (by simp [fnOf, hf]) rfl rfl (by simp) (by simp)
    · cases h

theorem trOpds_sound {env : Env} {a : Act} (he : EnvR S m I w env a.tmps) : ∀ {xs : List Operand} {ys : List Opd}, trOpds S xs = some ys → Rels S m I w (ys.map (Opd.ev env)) (xs.map a.eval).toArray
  | [], ys, h => by
    simp [trOpds] at h; subst h; exact ⟨rfl, by simp⟩
  | x :: xs, ys, h => by
    unfold trOpds at h
    rw [List.mapM_cons] at h
    cases hb : trOpd S x with
    | none => rw [hb] at h; cases h
    | some b =>
      rw [hb] at h
      cases hm : xs.mapM (trOpd S) with
      | none => rw [hm] at h; cases h
      | some s' =>
        rw [hm] at h
        cases h
        obtain ⟨h1, h2⟩ := trOpds_sound he (xs := xs) (ys := s') hm
        refine ⟨by simpa using h1, fun i z hz => ?_⟩
        cases i with
        | zero => simp at hz; subst hz; simpa using trOpd_sound he hb
        | succ i =>
          have := h2 i z (by simpa using hz)
          simpa using this

theorem trOpt_sound {env : Env} {a : Act} (he : EnvR S m I w env a.tmps) {x : Option Operand} {y : Option Opd} (h : trOpt S x = some y) : RelO S m I w (y.map (Opd.ev env)) (x.map a.eval) := by
  cases x with
  | none => cases h; trivial
  | some x =>
    simp only [trOpt] at h
    cases hb : trOpd S x with
    | none => rw [hb] at h; cases h
    | some b => rw [hb] at h; cases h; exact trOpd_sound he hb

theorem tagg_ok {t : Nat} {g : Bool} {n : Nat} (h : tagg S t = some (g, n)) : TyOk S.P t g n := by
  unfold tagg at h
  split at h
  · rename_i d i hd hi
    cases h
    exact ⟨⟨d, hd, by cases d <;> rfl⟩, ⟨i, hi, rfl⟩⟩
  · cases h

theorem telem_ok {t : Nat} {e : TE} (h : telem S t = some e) : ElOk S.P t e.e e.i e.z ∧ trVal e.z = some e.za ∧ 0 < e.i.size ∧ (∀ v ∈ e.z.cells, v.oneCell' = true) := by
  unfold telem at h
  split at h
  · rename_i e' he
    split at h
    · rename_i i hi
      split at h
      · rename_i z hz
        split at h
        · rename_i za hza
          split at h
          · rename_i hc
            cases h
            exact ⟨⟨he, hi, hz, hc.1⟩, hza, hc.2.1, fun v hv => Array.all_eq_true_iff_forall_mem.1 hc.2.2 v hv⟩
          · cases h
        · cases h
      · cases h
    · cases h
  · cases h

end Go.Proofs.YtihhinbjhiankaaGreatDoor.Al

/- EACH OPERATION ANSWERS AS TOLD. -/
namespace Go.Proofs.YtihhinbjhiankaaGreatDoor.Al
open Go
variable {S : Seat} {m : List ME} {I X : Nat → Prop} {w : World} {H : List Entry}

theorem parts_sound {env : Env} {a : Act} (he : EnvR S m I w env a.tmps) {place : Nat → Option (Nat × Nat)} : ∀ {ps : List (Nat × Operand)} {qs : List (Nat × Nat × Opd)}, trParts S place ps = some qs →
    qs.length = ps.length ∧ ∀ (i : Nat) (p : Nat × Nat × AV) (q : Nat × Value), (qs.map fun p => (p.1, p.2.1, p.2.2.ev env))[i]? = some p → (ps.map fun q => (q.1, a.eval q.2))[i]? = some q → place q.1 = some (p.1, p.2.1) ∧ Rel S m I w p.2.2 q.2
  | [], qs, h => by cases h; exact ⟨rfl, by simp⟩
  | (k, x) :: r, qs, h => by
    simp only [trParts] at h
    split at h
    · rename_i o n x' r' h1 h2 h3
      cases h
      obtain ⟨i1, i2⟩ := parts_sound he h3
      refine ⟨by simp [i1], fun i p q hp hq => ?_⟩
      cases i with
      | zero => simp at hp hq; subst hp; subst hq; exact ⟨h1, trOpd_sound he h2⟩
      | succ i => simp only [List.map_cons, List.getElem?_cons_succ] at hp hq; exact i2 i p q hp hq
    · cases h

theorem row_sound {env : Env} {a : Act} (he : EnvR S m I w env a.tmps) : ∀ {ps : List (Nat × Operand)} {qs : List (Nat × Opd)}, trRow S ps = some qs →
    qs.length = ps.length ∧ ∀ (i : Nat) (p : Nat × AV) (q : Nat × Value), (qs.map fun p => (p.1, p.2.ev env))[i]? = some p → (ps.map fun q => (q.1, a.eval q.2))[i]? = some q → q.1 = p.1 ∧ Rel S m I w p.2 q.2
  | [], qs, h => by cases h; exact ⟨rfl, by simp⟩
  | (k, x) :: r, qs, h => by
    simp only [trRow] at h
    split at h
    · rename_i x' r' h2 h3
      cases h
      obtain ⟨i1, i2⟩ := row_sound he h3
      refine ⟨by simp [i1], fun i p q hp hq => ?_⟩
      cases i with
      | zero => simp at hp hq; subst hp; subst hq; exact ⟨rfl, trOpd_sound he h2⟩
      | succ i => simp only [List.map_cons, List.getElem?_cons_succ] at hp hq; exact i2 i p q hp hq
    · cases h

theorem sizes_run : ∀ {fs : List Field} {ps : List (Nat × Nat)}, sizes S fs = some ps → (fs.mapM fun f => Prod.mk f.offset <$> sizeOf f.type).run S.P w = .ok ps w
  | [], ps, h => by simp [sizes] at h; subst h; rfl
  | f :: fs, ps, h => by
    unfold sizes at h
    rw [List.mapM_cons] at h
    cases hb : S.P.info? f.type with
    | none => rw [hb] at h; cases h
    | some b =>
      rw [hb] at h
      cases hm : fs.mapM (fun f => (S.P.info? f.type).map fun i => (f.offset, i.size)) with
      | none => rw [hm] at h; cases h
      | some s' =>
        rw [hm] at h
        cases h
        have ih := sizes_run (fs := fs) (ps := s') hm
        have h1 : (sizeOf f.type).run S.P w = .ok b.size w := by simp [sizeOf, typeInfo, hb]
        rw [List.mapM_cons]
        simp only [Sem.run_bind, Sem.run_map, h1, Result.andThen_ok, ih, Sem.run_pure]

structure Ans (S : Seat) (m : List ME) (I X : Nat → Prop) (w : World) (v : AV) (H' : List Entry) (r : Result Next) : Prop where
  ex : ∃ nx w' m' vv, r = .ok nx w' ∧ (nx = .value vv ∨ (nx = .skip ∧ vv = undef)) ∧ Rel S m' I w' v vv ∧ Went S m I X w m' w' H'

theorem Ans.val {v : AV} {H' : List Entry} {s : Sem Value} {vv : Value} {w' : World} {m' : List ME} (h : s.run S.P w = .ok vv w') (hr : Rel S m' I w' v vv) (hg : Went S m I X w m' w' H') :
    Ans S m I X w v H' ((do pure (.value (← s)) : Sem Next).run S.P w) := ⟨⟨.value vv, w', m', vv, by simp [h], .inl rfl, hr, hg⟩⟩

theorem own_row (hs : Sim S m I X w H) {id ver lo hi : Nat} (ho : AV.oneIn H (.own id ver lo hi) = true) {xv : Value} (hx : Rel S m I w (.own id ver lo hi) xv) : ∃ a c, xv = .slice a (hi - lo) c := by
  simp only [AV.oneIn] at ho
  split at ho
  · rename_i sz u ys he
    obtain ⟨e1, h1, hr⟩ := hs.hok id _ he
    have : u = ver := by simpa using ho
    subst this
    obtain ⟨a, c, h2, _⟩ := own_len h1 hr hx
    exact ⟨a, c, h2⟩
  · rename_i sz u ys he
    obtain ⟨e1, h1, hr, _⟩ := hs.hok id _ he
    have : u = ver := by simpa using ho
    subst this
    obtain ⟨a, c, h2, _⟩ := own_len h1 hr hx
    exact ⟨a, c, h2⟩
  · cases ho

theorem len_slice (hs : Sim S m I X w H) {x : AV} {xv : Value} (hx : Rel S m I w x xv) {n : Nat} (h : rowLen H x = some n) : ∃ a c, xv = .slice a n c := by
  cases x with
  | list t xs =>
    cases h
    cases hx with
    | empty _ a c _ _ => exact ⟨a, c, rfl⟩
    | list _ _ b off n c sz rd hn => subst hn; exact ⟨_, c, rfl⟩
  | own id ver lo hi =>
    simp only [rowLen] at h
    split at h
    · rename_i ho
      cases h
      exact own_row hs ho hx
    · cases h
  | _ => cases h

theorem builtin_sound (hs : Sim S m I X w H) {env : Env} {a : Act} (he : EnvR S m I w env a.tmps) {b : Builtin} {ts : Array Nat} {args : Array Operand} {ty : Nat} {cs : Array Bool} {op : IOp}
    (ht : trBuiltin S b ts.toList args.toList = some op) {v : AV} {H' : List Entry} (h : evalOp op env H = some (v, H')) : Ans S m I X w v H' ((builtin b ts ty cs (args.map a.eval)).run S.P w) := by
  obtain ⟨ts⟩ := ts
  obtain ⟨args⟩ := args
  simp only at ht
  unfold trBuiltin at ht
  split at ht
  · rename_i t x
    split at ht
    · rename_i e x' hu hx
      cases ht
      simp only [evalOp] at h
      have hr := trOpd_sound he hx
      cases hv : rowLen H (x'.ev env) with
      | none => rw [hv] at h; cases h
      | some n =>
        rw [hv] at h; cases h
        obtain ⟨ao, c, hval⟩ := len_slice hs hr hv
        refine Ans.val (vv := .int .i64 n) ?_ (.int _ _) hs.stay
        simp [hval, Builtin.len_, run_underlying hu, goInt]
    · rename_i x' hu hx
      cases ht
      simp only [evalOp] at h
      have hr := trOpd_sound he hx
      cases hv : x'.ev env with
      | str s =>
        rw [hv] at h hr
        cases h
        have hval : a.eval x = .string ⟨s.toArray⟩ := by cases hval : a.eval x <;> rw [hval] at hr <;> cases hr; rfl
        refine Ans.val (vv := .int .i64 s.length) ?_ (.int _ _) hs.stay
        have hsz : (⟨s.toArray⟩ : ByteArray).size = s.length := by show s.toArray.size = _; simp
        simp [hval, Builtin.len_, run_underlying hu, goInt, hsz]
      | _ => rw [hv] at h; cases h
    · rename_i n e x' hu hx
      cases ht
      simp only [evalOp] at h
      cases h
      refine Ans.val (vv := .int .i64 n) ?_ (.int _ _) hs.stay
      simp [Builtin.len_, run_underlying hu, goInt]
    · cases ht
  · cases hx : trOpds S args with
    | none => rw [hx] at ht; cases ht
    | some xs =>
      rw [hx] at ht; cases ht
      have hr := trOpds_sound he hx
      simp only [evalOp] at h
      cases hv : foldA evMin (xs.map (Opd.ev env)) with
      | none => rw [hv] at h; cases h
      | some z =>
        rw [hv] at h; cases h
        obtain ⟨h1, h2⟩ := hr
        cases xs with
        | nil => simp [foldA] at hv
        | cons x xs =>
          cases args with
          | nil => simp at h1
          | cons o os =>
            simp only [List.map_cons, foldA] at hv
            have h0 := h2 0 _ rfl
            simp only [List.map_cons] at h0
            obtain ⟨vv, hrun, hrr⟩ := foldA_min _ (os.map a.eval) _ (a.eval o) (by simpa using h0) (by simpa using h1) (fun i y hy => by
              have := h2 (i + 1) y (by simpa using hy)
              simpa using this) hv
            refine Ans.val (vv := vv) ?_ hrr hs.stay
            simpa [Builtin.min_] using hrun
  · cases hx : trOpds S args with
    | none => rw [hx] at ht; cases ht
    | some xs =>
      rw [hx] at ht; cases ht
      have hr := trOpds_sound he hx
      simp only [evalOp] at h
      cases hv : foldA evMax (xs.map (Opd.ev env)) with
      | none => rw [hv] at h; cases h
      | some z =>
        rw [hv] at h; cases h
        obtain ⟨h1, h2⟩ := hr
        cases xs with
        | nil => simp [foldA] at hv
        | cons x xs =>
          cases args with
          | nil => simp at h1
          | cons o os =>
            simp only [List.map_cons, foldA] at hv
            have h0 := h2 0 _ rfl
            simp only [List.map_cons] at h0
            obtain ⟨vv, hrun, hrr⟩ := foldA_max _ (os.map a.eval) _ (a.eval o) (by simpa using h0) (by simpa using h1) (fun i y hy => by
              have := h2 (i + 1) y (by simpa using hy)
              simpa using this) hv
            refine Ans.val (vv := vv) ?_ hrr hs.stay
            simpa [Builtin.max_] using hrun
  · rename_i t u x y
    split at ht
    · rename_i e d x' y' h1 h2 h3 h4
      cases ht
      obtain ⟨hel, hza, hpos, hz1⟩ := telem_ok h1
      simp only [evalOp] at h
      have hx := trOpd_sound he h3
      have hy := trOpd_sound he h4
      cases hv : seen H (y'.ev env) with
      | none => rw [hv] at h; cases h
      | some ys =>
        rw [hv] at h
        simp only [Option.bind_some] at h
        by_cases hok : szOk H e.i.size ys = true
        · obtain ⟨ao, c, vs, hval, hc, hcy, hcell⟩ := seen_cells hs hy hv (szOk_len hok)
          have hA : Appends S.P w e.e e.i e.z (fun s => (Builtin.append_ #[t, u] ty #[s, a.eval y]).run S.P w) ys.length vs := by
            refine appends_of hel h2 (.inl ⟨_, rfl⟩) (by simp [hval, Builtin.lenOf]) (fun w' hw' => ?_) (fun h0 => List.eq_nil_of_length_eq_zero (by rw [hcy.1, h0]; simp)) (hcy.one hs (szOk_one hok))
            rw [hval]
            by_cases h0 : ys = []
            · subst h0
              have : vs = [] := List.eq_nil_of_length_eq_zero (by rw [hcy.1]; simp)
              subst this
              cases ao with
              | none => exact run_firstCells_none _ _ _ _ _
              | some ad => exact run_firstCells_some w' _ 0 ad 0 c [] (by simp) (by simp)
            · obtain ⟨b, off, rfl, hcells⟩ := hcell h0
              exact run_firstCells_some w' _ _ _ _ _ vs hcy.1 (fun k u hk => by rw [cell_of_heap (w := w) (by rw [hw'])]; exact hcells k u hk)
          obtain ⟨vv, w', m', hrun, hrel, hgo⟩ := append_sound hs hx hel hA (fun _ => hcy) h
          exact Ans.val (by simpa using hrun) hrel hgo
        · have hne : ys ≠ [] := fun h0 => by subst h0; simp [szOk] at hok
          simp [evAppend, hne, hok] at h
    · rename_i e d x' y' h1 h2 h3 h4
      cases ht
      obtain ⟨hel, hza, hpos, hz1⟩ := telem_ok h1
      simp only [evalOp] at h
      have hx := trOpd_sound he h3
      have hy := trOpd_sound he h4
      cases hn : y'.ev env with
      | int k n =>
        rw [hn] at h hy
        simp only at h
        split at h
        · rename_i hle
          obtain ⟨l1, l2⟩ := hle
          have hyv : a.eval y = .int k n := by cases hyv : a.eval y <;> rw [hyv] at hy <;> cases hy; rfl
          have hrels := (trVal_sound (S := S) (m := m) (I := I) (w := w) hza).2
          by_cases h0 : n.toNat = 0
          · have hn0 : n = 0 := by omega
            subst hn0
            simp only [Int.toNat_zero, List.replicate_zero] at h
            have hA := appendZ_of (w := w) (ty := ty) hel h2 hpos (n := 0) (k := k) (by simp) (by omega) hz1
            obtain ⟨vv, w', m', hrun, hrel, hgo⟩ := append_sound hs hx hel (ys := []) (by simpa using hA) (fun _ => by simpa [Builtin.zeroCells] using Cells.nil e.i.size) h
            exact Ans.val (by simpa [hyv] using hrun) hrel hgo
          · have hok : szOk H e.i.size (List.replicate n.toNat e.za) = true ∧ e.i.bytes ≤ 4096 := by
              unfold evAppend at h
              rw [if_neg (by simp [h0])] at h
              split at h
              · rename_i hc; exact ⟨hc.2.2, hc.1⟩
              · cases h
            have hzl : e.za.cells.length = e.i.size := szOk_len hok.1 _ (List.mem_replicate.2 ⟨h0, rfl⟩)
            have hbb : n.toNat * e.i.bytes ≤ 281474976710656 := by
              have h1 := Nat.mul_le_mul (show n.toNat ≤ maxRow by omega) hok.2
              unfold maxRow at h1; omega
            have hA := appendZ_of (w := w) (ty := ty) hel h2 hpos (n := n.toNat) (k := k) hbb (by unfold maxRow at l2; omega) hz1
            rw [Int.toNat_of_nonneg l1] at hA
            obtain ⟨vv, w', m', hrun, hrel, hgo⟩ := append_sound hs hx hel (ys := List.replicate n.toNat e.za) (by simpa using hA) (fun _ => zeroCells_cells hrels hzl) h
            exact Ans.val (by simpa [hyv] using hrun) hrel hgo
        · cases h
      | _ => rw [hn] at h; cases h
    · cases ht
  · rename_i t u x y
    split at ht
    · rename_i e d x' y' h1 h2 h3 h4
      cases ht
      obtain ⟨hel, hza, hpos, hz1⟩ := telem_ok h1
      simp only [evalOp] at h
      have hx := trOpd_sound he h3
      have hy := trOpd_sound he h4
      cases hv : seen H (y'.ev env) with
      | none => rw [hv] at h; cases h
      | some ys =>
        rw [hv] at h
        simp only [Option.bind_some] at h
        obtain ⟨vv, w', hrun, hrel, hgo⟩ := copy_sound (u := u) (ty := ty) hs hx hy hel hv h
        exact Ans.val (by simpa using hrun) hrel hgo
    · cases ht
  · rename_i t x
    split at ht
    · rename_i e x' h1 h3
      cases ht
      obtain ⟨hel, hza, hpos, hz1⟩ := telem_ok h1
      simp only [evalOp] at h
      have hx := trOpd_sound he h3
      cases hv : evClear H e.i.size e.za (x'.ev env) with
      | none => rw [hv] at h; cases h
      | some H1 =>
        rw [hv] at h; cases h
        obtain ⟨w', hrun, hgo⟩ := clear_sound (ty := ty) hs hx hel (trVal_sound hza).2 hv
        refine Ans.val (vv := .tuple #[]) (by simpa using hrun) (.tup _ _ rfl (by simp)) hgo
    · cases ht
  · cases ht

theorem iptr_val {cs : List AV} {off : Nat} {v : Value} (h : Rel S m I w (.iptr cs off) v) : ∃ ad, v = .pointer (some ad) := by
  cases h; exact ⟨_, rfl⟩
theorem func_val {c : Nat} {xs ys : List AV} {v : Value} (h : Rel S m I w (.func (.f c) xs ys) v) : ∃ fs cs, v = .func (.func (S.fn c)) fs cs ∧ Rels S m I w xs fs ∧ Rels S m I w ys cs := by
  cases h with
  | func _ _ _ g fs cs hg hf hc h1 h2 =>
    have hgg : g = .func (S.fn c) := hg
    subst hgg
    exact ⟨fs, cs, rfl, ⟨hf, h1⟩, ⟨hc, h2⟩⟩

theorem addr_sound (hs : Sim S m I X w H) {p : AV} {pv : Value} (hp : Rel S m I w p pv) {off : Nat} {q : AV} (h : evAddr H off p = some q) :
    ∃ ad : Addr, pv = .pointer (some ad) ∧ Rel S m I w q (.pointer (some (ad.add off))) := by
  unfold evAddr at h
  split at h
  · rename_i id o
    split at h
    · rename_i cs hH
      cases h
      obtain ⟨e, arr, T, k1, k2, _⟩ := hs.hok id _ hH
      cases hp with
      | ptr _ _ e' _ he' hpv =>
        rw [k1] at he'; cases he'
        exact ⟨_, hpv k2, by rw [addr_add]; exact .ptr _ _ e _ k1 (fun _ => rfl)⟩
    · cases h
  · rename_i id ver i o
    split at h
    · rename_i sz u xs hH
      split at h
      · rename_i hu
        cases h
        obtain ⟨e, k1, k2⟩ := hs.hok id _ hH
        cases hp with
        | eptr _ _ _ _ e' _ he' hle hpv =>
          rw [k1] at he'; cases he'
          have k3 := k2.1
          have := hpv (by omega)
          exact ⟨_, this.2, by rw [addr_add]; exact .eptr _ _ _ _ e _ k1 hle (fun _ => ⟨this.1, by rw [Nat.add_assoc]⟩)⟩
      · cases h
    · cases h
  · rename_i cs o
    cases h
    cases hp with
    | iptr _ _ b o' rd hI hc hr => exact ⟨_, rfl, by rw [addr_add, Nat.add_assoc]; exact .iptr _ _ _ _ rd hI hc hr⟩
  · cases h

theorem part_sound {t : Nat} {g : Bool} {n : Nat} (ht : TyOk S.P t g n) {cs : List AV} {arr : Array Value} (hr : Rels S m I w cs arr) {off : Nat} {v : AV}
    (h : (if g then (if off + n ≤ cs.length then some (AV.agg ((cs.drop off).take n)) else none) else cs[off]?) = some v) :
    ∃ vv, (part t arr off).run S.P w = .ok vv w ∧ Rel S m I w v vv := by
  cases g with
  | false =>
    simp only [Bool.false_eq_true, if_false] at h
    have hlt : off < arr.size := by rw [hr.1]; exact (List.getElem?_eq_some_iff.1 h).1
    have := hr.2 off v h
    rw [show arr.getD off undef = arr[off] by simp [hlt]] at this
    exact ⟨arr[off], by simp [part, run_isAgg ht, hlt], this⟩
  | true =>
    simp only [if_true] at h
    split at h
    · rename_i hle
      cases h
      refine ⟨.agg (arr.extract off (off + n)), by simp [part, run_isAgg ht, run_sizeOf' ht], .agg _ _ (by simp [hr.1]; omega) (fun i y hy => ?_)⟩
      rw [List.getElem?_take] at hy
      split at hy
      · rename_i hi
        rw [List.getElem?_drop] at hy
        have := hr.2 _ y hy
        have hlt : off + i < arr.size := by rw [hr.1]; exact (List.getElem?_eq_some_iff.1 hy).1
        rw [show arr.getD (off + i) undef = arr[off + i] by simp [hlt]] at this
        rw [getD_list, Array.toList_extract, show (arr.toList.extract off (off + n))[i]?.getD undef = arr[off + i] by simp [List.extract, List.getElem?_drop, hi, hlt]]
        exact this
      · cases hy
    · cases h

theorem evalOp_sound (hs : Sim S m I X w H) {env : Env} {a : Act} (he : EnvR S m I w env a.tmps) {o : Oper} {op : IOp} (ht : trOp S o.op = some op) {v : AV} {H' : List Entry}
    (h : evalOp op env H = some (v, H')) : Ans S m I X w v H' ((execOp a.eval o).run S.P w) := by
  obtain ⟨dst, oo, ty, pos, aft, grd⟩ := o
  simp only at ht
  have hmv : ∀ {x : Operand} {y : Opd}, trOpd S x = some y → evalOp (.mv y) env H = some (v, H') → Ans S m I X w v H' (.ok (.value (a.eval x)) w) := by
    intro x y h1 h2
    cases h2
    exact ⟨⟨_, w, m, a.eval x, rfl, .inl rfl, trOpd_sound he h1, hs.stay⟩⟩
  cases oo <;> simp only [trOp] at ht <;> (try (cases ht; done))
  case move x =>
    cases hx : trOpd S x with
    | none => rw [hx] at ht; cases ht
    | some x' => rw [hx] at ht; cases ht; exact hmv hx h
  case assign x =>
    cases hx : trOpd S x with
    | none => rw [hx] at ht; cases ht
    | some x' => rw [hx] at ht; cases ht; exact hmv hx h
  case panic x =>
    cases ht
    simp [evalOp, Opd.ev] at h
  case pick c x y =>
    split at ht
    · rename_i c' x' y' h1 h2 h3
      cases ht
      simp only [evalOp] at h
      have hc := trOpd_sound he h1
      split at h
      · rename_i hb
        rw [hb] at hc; cases h
        have hcv : a.eval c = .bool true := by cases hv : a.eval c <;> rw [hv] at hc <;> cases hc; rfl
        exact ⟨⟨_, w, m, a.eval x, by simp [execOp, hcv, asBool], .inl rfl, trOpd_sound he h2, hs.stay⟩⟩
      · rename_i hb
        rw [hb] at hc; cases h
        have hcv : a.eval c = .bool false := by cases hv : a.eval c <;> rw [hv] at hc <;> cases hc; rfl
        exact ⟨⟨_, w, m, a.eval y, by simp [execOp, hcv, asBool], .inl rfl, trOpd_sound he h3, hs.stay⟩⟩
      · cases h
    · cases ht
  case alloc e =>
    split at ht
    · rename_i i hi
      split at ht
      · rename_i z hz
        cases hza : trVal z with
        | none => rw [hza] at ht; cases ht
        | some za =>
          rw [hza] at ht; cases ht
          simp only [evalOp] at h
          cases h
          obtain ⟨hg, hr⟩ := box_sound hs (trVal_sound (S := S) (m := m) (I := I) (w := w) hza).2 e
          refine Ans.val ?_ hr hg
          simp [Instr.alloc, zeroValue, typeInfo, hi, hz, newVar, newRow]
      · cases ht
    · cases ht
  case box e x =>
    cases hx : trOpd S x with
    | none => rw [hx] at ht; cases ht
    | some x' =>
      rw [hx] at ht; cases ht
      simp only [evalOp] at h
      split at h
      · rename_i hone
        cases h
        obtain ⟨hg, hr⟩ := box_sound hs (cells_sound hs (trOpd_sound he hx) hone).1 e
        refine Ans.val ?_ hr hg
        simp [Instr.box, newVar, newRow]
      · cases h
  case build t parts =>
    split at ht
    · rename_i i fs hi hu
      split at ht
      · rename_i z hz
        split at ht
        · rename_i za ps hza hps
          cases hpp : trParts S (fun k => ps[k]?) parts.toList with
          | none => rw [hpp] at ht; cases ht
          | some qs =>
            rw [hpp] at ht; cases ht
            simp only [evalOp] at h
            cases hf : fillA H za.cells (qs.map fun p => (p.1, p.2.1, p.2.2.ev env)) with
            | none => rw [hf] at h; cases h
            | some cs =>
              rw [hf] at h; cases h
              obtain ⟨p1, p2⟩ := parts_sound he hpp
              obtain ⟨arr, harr, hrr⟩ := fill_sound hs (place := fun k => ps.toArray[k]?) _ (parts.toList.map fun q => (q.1, a.eval q.2)) _ z.cells (by simp [p1]) (fun i p q hp hq => by simpa using p2 i p q hp hq) (trVal_sound hza).2 hf
              have hsz := sizes_run (S := S) (w := w) hps
              refine Ans.val (vv := .agg arr) ?_ (.agg _ _ hrr.1 hrr.2) hs.stay
              have hsz' : (fs.mapM fun f => Prod.mk f.offset <$> sizeOf f.type).run S.P w = .ok ps.toArray w := by
                rw [Array.mapM_eq_mapM_toList, Sem.run_map, hsz]; rfl
              simp [Instr.build, zeroValue, typeInfo, hi, hz, run_underlying hu, hsz'] at harr ⊢
              rw [harr]; rfl
        · cases ht
      · cases ht
    · rename_i i n e hi hu
      split at ht
      · rename_i z hz
        split at ht
        · rename_i za ei hza hei
          cases hpp : trParts S (fun k => some (k * ei.size, ei.size)) parts.toList with
          | none => rw [hpp] at ht; cases ht
          | some qs =>
            rw [hpp] at ht; cases ht
            simp only [evalOp] at h
            cases hf : fillA H za.cells (qs.map fun p => (p.1, p.2.1, p.2.2.ev env)) with
            | none => rw [hf] at h; cases h
            | some cs =>
              rw [hf] at h; cases h
              obtain ⟨p1, p2⟩ := parts_sound he hpp
              obtain ⟨arr, harr, hrr⟩ := fill_sound hs (place := fun k => some (k * ei.size, ei.size)) _ (parts.toList.map fun q => (q.1, a.eval q.2)) _ z.cells (by simp [p1]) (fun i p q hp hq => p2 i p q hp hq) (trVal_sound hza).2 hf
              refine Ans.val (vv := .agg arr) ?_ (.agg _ _ hrr.1 hrr.2) hs.stay
              simp [Instr.build, zeroValue, typeInfo, sizeOf, hi, hz, hei, run_underlying hu] at harr ⊢
              rw [harr]; rfl
        · cases ht
      · cases ht
    · cases ht
  case buildSlice t len parts =>
    split at ht
    · rename_i e ps h1 h2
      cases ht
      obtain ⟨hel, hza, hpos, hz1⟩ := telem_ok h1
      simp only [evalOp, evBslice] at h
      split at h
      · rename_i hc
        cases h
        obtain ⟨c1, c2, c3, c4⟩ := hc
        obtain ⟨p1, p2⟩ := row_sound he h2
        have hzl : e.za.cells.length = e.i.size := szOk_len c3 _ (by simp)
        have hz0 := zeroCells_cells (n := len) (trVal_sound (S := S) (m := m) (I := I) (w := w) hza).2 hzl
        obtain ⟨arr, harr, hrr⟩ := fillRow_sound hs (n := len) _ (parts.toList.map fun q => (q.1, a.eval q.2)) _ _ (by simp [p1]) (fun i p q hp hq => p2 i p q hp hq) (by simp) hz0 c4
        have hlen : ∀ (ps : List (Nat × AV)) (xs : List AV), (ps.foldl (fun xs p => xs.set p.1 p.2) xs).length = xs.length := by
          intro ps
          induction ps with
          | nil => intro xs; rfl
          | cons p ps ih => intro xs; rw [List.foldl_cons, ih]; simp
        have hsize : arr.toList.length = len * e.i.size := by rw [hrr.1, hlen]; simp
        have hp := push_row (T := e.e) (cap := len) (tail := []) (w' := w.alloc (.cells arr e.e)) hs hrr (.inr (by simp)) (by simpa using hsize) (by rw [hlen]; simp) (by
          have : len * 1 ≤ len * e.i.size := Nat.mul_le_mul_left _ c1
          omega)
        rw [hlen, List.length_replicate] at hp
        refine Ans.val ?_ hp.2 hp.1
        have hn0 : ¬ (16777216 < len * e.i.size) := by omega
        have hmade : (if len * e.i.size = 0 then (#[] : Array Value) else Builtin.zeroCells e.z.cells len) = Builtin.zeroCells e.z.cells len := by
          split
          · rename_i h0
            have : len = 0 := by
              rcases Nat.mul_eq_zero.1 h0 with h0 | h0
              · exact h0
              · omega
            subst this; simp [Builtin.zeroCells]
          · rfl
        have hzc : Builtin.zeroCells e.z.cells len = (Array.range (len * e.i.size)).map (e.z.cells[· % e.z.cells.size]!) := by simp [Builtin.zeroCells, hel.size]
        by_cases h0 : len = 0
        · subst h0
          have hz00 : Builtin.zeroCells e.z.cells 0 = #[] := by simp [Builtin.zeroCells]
          rw [hz00] at harr
          simp [Instr.buildSlice, run_underlying hel.und, sizeOf, typeInfo, hel.ti, newRow, Array.range_zero'] at harr ⊢
          rw [harr]; rfl
        · have h5 : ¬ (len * e.i.size = 0) := by have := Nat.mul_pos (Nat.pos_of_ne_zero h0) hpos; omega
          rw [hzc] at harr
          simp [Instr.buildSlice, run_underlying hel.und, sizeOf, typeInfo, zeroValue, hel.ti, hel.zero, newRow, hn0, h5] at harr ⊢
          rw [harr]; rfl
      · cases h
    · cases ht
  case load t x =>
    split at ht
    · rename_i g n x' h1 h2
      cases ht
      simp only [evalOp] at h
      cases hv : evLoad H g n (x'.ev env) with
      | none => rw [hv] at h; cases h
      | some z =>
        rw [hv] at h; cases h
        obtain ⟨vv, hrun, hrel⟩ := load_run hs (trOpd_sound he h2) (tagg_ok h1) hv
        exact Ans.val hrun hrel hs.stay
    · cases ht
  case store t x y =>
    split at ht
    · rename_i g n x' y' h1 h2 h3
      cases ht
      simp only [evalOp] at h
      cases hv : evStore H n (x'.ev env) (y'.ev env) with
      | none => rw [hv] at h; cases h
      | some H1 =>
        rw [hv] at h; cases h
        obtain ⟨w', hrun, hgo⟩ := store_run hs (trOpd_sound he h2) (trOpd_sound he h3) (tagg_ok h1) hv
        exact ⟨⟨.skip, w', m, undef, by simp [execOp, hrun], .inr ⟨rfl, rfl⟩, .undef _, hgo⟩⟩
    · cases ht
  case nilCheck x =>
    cases hx : trOpd S x with
    | none => rw [hx] at ht; cases ht
    | some x' =>
      rw [hx] at ht; cases ht
      simp only [evalOp] at h
      have hr := trOpd_sound he hx
      have ok : ∀ {vv : Value}, (execOp a.eval (⟨dst, .nilCheck x, ty, pos, aft, grd⟩ : Oper)).run S.P w = .ok (.value vv) w → Rel S m I w v vv → Ans S m I X w v H ((execOp a.eval (⟨dst, .nilCheck x, ty, pos, aft, grd⟩ : Oper)).run S.P w) :=
        fun {vv} h1 h2 => ⟨⟨_, w, m, vv, h1, .inl rfl, h2, hs.stay⟩⟩
      split at h
      · rename_i id off hv
        split at h
        · rename_i cs hH
          cases h
          rw [hv] at hr
          obtain ⟨e, arr, T, k1, k2, _⟩ := hs.hok id _ hH
          have hval : ∃ ad, a.eval x = .pointer (some ad) := by
            cases hr with
            | ptr _ _ e' _ he' hpv => rw [k1] at he'; cases he'; exact ⟨_, hpv k2⟩
          obtain ⟨ad, hval⟩ := hval
          exact ok (by simp [execOp, hval]) (hval ▸ hr)
        · cases h
      · rename_i id ver i off hv
        split at h
        · rename_i sz u xs hH
          split at h
          · rename_i hu
            cases h
            rw [hv] at hr
            obtain ⟨e, k1, k2⟩ := hs.hok id _ hH
            have hval : ∃ ad, a.eval x = .pointer (some ad) := by
              cases hr with
              | eptr _ _ _ _ e' _ he' hle hpv => rw [k1] at he'; cases he'; exact ⟨_, (hpv (by have := k2.1; omega)).2⟩
            obtain ⟨ad, hval⟩ := hval
            exact ok (by simp [execOp, hval]) (hval ▸ hr)
          · cases h
        · cases h
      · rename_i cs off hv
        cases h
        rw [hv] at hr
        obtain ⟨ad, hval⟩ := iptr_val hr
        exact ok (by simp [execOp, hval]) (hval ▸ hr)
      · rename_i c first captured hv
        cases h
        rw [hv] at hr
        obtain ⟨fs, cs, hval, _⟩ := func_val hr
        exact ok (by simp [execOp, hval]) (hval ▸ hr)
      · cases h
  case binOp op t x y t' =>
    unfold trBin at ht
    split at ht
    · rename_i x' y' h1 h2
      have hx := trOpd_sound he h1
      have hy := trOpd_sound he h2
      have guard : ∀ {k : Bool}, evalOp (.bin k op x' y') env H = some (v, H') → (eqGuard op t x y (a.eval x) (a.eval y)) = pure () := by
        intro k hk
        simp only [evalOp] at hk
        cases hv : evBin k op (x'.ev env) (y'.ev env) with
        | none => rw [hv] at hk; cases hk
        | some z =>
          unfold evBin at hv
          split at hv
          · rename_i e1 e2; rw [e1] at hx; cases hval : a.eval x <;> rw [hval] at hx <;> cases hx; exact eqGuard_at_int ..
          · rename_i e1 e2; rw [e1] at hx; cases hval : a.eval x <;> rw [hval] at hx <;> cases hx; exact eqGuard_at_string ..
          · rename_i e1 e2; rw [e1] at hx; cases hval : a.eval x <;> rw [hval] at hx <;> cases hx; exact eqGuard_at_bool ..
          · cases hv
      have bin : ∀ {k : Bool}, (k = true → S.P.underlying t = some .bool) → evalOp (.bin k op x' y') env H = some (v, H') → Ans S m I X w v H' ((execOp a.eval (⟨dst, .binOp op t x y t', ty, pos, aft, grd⟩ : Oper)).run S.P w) := by
        intro k hk h
        have hg := guard h
        simp only [evalOp] at h
        cases hv : evBin k op (x'.ev env) (y'.ev env) with
        | none => rw [hv] at h; cases h
        | some z =>
          rw [hv] at h; cases h
          obtain ⟨vv, hrun, hrel⟩ := bin_sound hx hy hk hv
          exact ⟨⟨.value vv, w, m, vv, by simp [execOp, hg, hrun], .inl rfl, hrel, hs.stay⟩⟩
      have nil : ∀ {k : TK} {c : Value}, op = .eql ∨ op = .neq → TKok S.P t k → y = .const c → c = nilOf k → evalOp (.isnil k (op == .neq) x') env H = some (v, H') →
          Ans S m I X w v H' ((execOp a.eval (⟨dst, .binOp op t x y t', ty, pos, aft, grd⟩ : Oper)).run S.P w) := by
        intro k c hop hk hy' hc h
        subst hy'; subst hc
        simp only [evalOp] at h
        cases hv : evNil H k (x'.ev env) with
        | none => rw [hv] at h; cases h
        | some z =>
          rw [hv] at h
          simp only [Option.bind_some] at h
          obtain ⟨b, hrun, hrel⟩ := nil_sound hs hx hk hv
          have hyv : a.eval (.const (nilOf k)) = nilOf k := rfl
          have hg : (eqGuard op t x (.const (nilOf k)) (a.eval x) (nilOf k)) = pure () := by
            rcases hop with rfl | rfl <;> cases k <;> cases a.eval x <;> rfl
          have hbin : ∀ r : Bool, ((op = .eql ∧ r = b) ∨ (op = .neq ∧ r = !b)) → (binOp op t (a.eval x) (nilOf k)).run S.P w = .ok (.bool r) w := by
            intro r hr
            have hne : ∀ (op' : BinOp), (op' = .eql ∨ op' = .neq) → (binOp op' t (a.eval x) (nilOf k)).run S.P w = ((Op.equal t (a.eval x) (nilOf k)).run S.P w).andThen fun b w => .ok (.bool (if op' = .eql then b else !b)) w := by
              intro op' hop'
              rcases hop' with rfl | rfl <;> cases k <;> cases hxv : a.eval x <;> simp [binOp, nilOf]
            rcases hr with ⟨rfl, rfl⟩ | ⟨rfl, rfl⟩
            · rw [hne _ (.inl rfl), hrun]; rfl
            · rw [hne _ (.inr rfl), hrun]; rfl
          rcases hop with rfl | rfl
          · rw [if_neg (by decide)] at h
            cases h
            exact ⟨⟨.value (.bool b), w, m, .bool b, by simp [execOp, hyv, hg, hbin b (.inl ⟨rfl, rfl⟩)], .inl rfl, hrel, hs.stay⟩⟩
          · rw [if_pos (by decide)] at h
            cases hn : notA z with
            | none => rw [hn] at h; cases h
            | some z' =>
              rw [hn] at h; cases h
              have hrel' : Rel S m I w v (.bool (!b)) := by
                unfold notA at hn
                split at hn <;> cases hn
                · cases hrel; exact .bool _
                · exact .anybool _
              exact ⟨⟨.value (.bool (!b)), w, m, .bool (!b), by simp [execOp, hyv, hg, hbin (!b) (.inr ⟨rfl, rfl⟩)], .inl rfl, hrel', hs.stay⟩⟩
      split at ht
      · split at ht
        · rename_i e hu
          cases ht; exact nil (k := .slice) (.inl rfl) ⟨_, hu⟩ rfl rfl h
        · rename_i hu
          cases ht; exact nil (k := .func) (.inl rfl) ⟨_, _, _, hu⟩ rfl rfl h
        · rename_i hu
          cases ht; exact nil (k := .pointer) (.inl rfl) ⟨_, hu⟩ rfl rfl h
        · rename_i hu
          cases ht; exact bin (fun _ => hu) h
        · cases ht; exact bin (by simp) h
        · cases ht; exact bin (by simp) h
        · cases ht
      · split at ht
        · rename_i e hu
          cases ht; exact nil (k := .slice) (.inr rfl) ⟨_, hu⟩ rfl rfl h
        · rename_i hu
          cases ht; exact nil (k := .func) (.inr rfl) ⟨_, _, _, hu⟩ rfl rfl h
        · rename_i hu
          cases ht; exact nil (k := .pointer) (.inr rfl) ⟨_, hu⟩ rfl rfl h
        · rename_i hu
          cases ht; exact bin (fun _ => hu) h
        · cases ht; exact bin (by simp) h
        · cases ht; exact bin (by simp) h
        · cases ht
      · cases ht; exact bin (by simp) h
    · cases ht
  case unOp op t x =>
    cases hx : trOpd S x with
    | none => rw [hx] at ht; cases ht
    | some x' =>
      rw [hx] at ht; cases ht
      simp only [evalOp] at h
      cases hv : evUn op (x'.ev env) with
      | none => rw [hv] at h; cases h
      | some z =>
        rw [hv] at h; cases h
        obtain ⟨vv, hrun, hrel⟩ := un_sound (trOpd_sound he hx) hv
        exact Ans.val hrun hrel hs.stay
  case convert src dst x =>
    unfold trConv at ht
    split at ht
    · rename_i d k x' h1 h2 h3
      cases ht
      simp only [evalOp] at h
      have hr := trOpd_sound he h3
      cases hv : x'.ev env with
      | int k' n =>
        rw [hv] at h hr; cases h
        have hval : a.eval x = .int k' n := by cases hval : a.eval x <;> rw [hval] at hr <;> cases hr; rfl
        refine Ans.val (vv := .int k (k.wrap n)) ?_ (.int _ _) hs.stay
        simp [convert, run_underlying h1, run_underlying h2, hval, Conv.intToInt]
      | _ => rw [hv] at h; cases h
    · rename_i e x' h1 h2 h3
      split at ht
      · rename_i hu8
        cases ht
        simp only [evalOp] at h
        have hr := trOpd_sound he h3
        cases hv : seen H (x'.ev env) with
        | none => rw [hv] at h; cases h
        | some xs =>
          rw [hv] at h
          simp only [Option.bind_some] at h
          cases hb : xs.mapM byteOf with
          | none => rw [hb] at h; cases h
          | some s =>
            rw [hb] at h; cases h
            have hrun := convS_sound hs hr hv hb
            obtain ⟨ao, c, hval, _⟩ := seen_sound hs hr hv
            refine Ans.val (vv := .string ⟨s.toArray⟩) ?_ (.str _) hs.stay
            rw [hval] at hrun
            simp [convert, run_underlying h1, run_underlying h2, run_underlying hu8, hval, hrun]
      · cases ht
    · cases ht
  case makeInterface t x =>
    split at ht
    · cases ht
    · rename_i d x' hd h1 h2
      split at ht
      · rename_i hty
        cases ht
        simp only [evalOp] at h
        cases h
        refine Ans.val (vv := .iface t (a.eval x)) ?_ (by have := Rel.iface (S := S) (m := m) (I := I) (w := w) (S.ct t) _ _ (trOpd_sound he h2); rwa [hty] at this) hs.stay
        cases d <;> first
          | exact absurd rfl (hd _)
          | simp [Instr.makeInterface, run_underlying h1]
      · cases ht
    · cases ht
  case makeFunc fn first captured =>
    cases fn <;> simp only at ht <;> (try (cases ht; done))
    rename_i f
    split at ht
    · rename_i fs cs h1 h2
      split at ht
      · rename_i hf
        cases ht
        simp only [evalOp] at h
        cases h
        have r1 := trOpds_sound he h1
        have r2 := trOpds_sound he h2
        refine Ans.val (vv := .func (.func f) (first.map a.eval) (captured.map a.eval)) rfl ?_ hs.stay
        have e1 : first.map a.eval = (first.toList.map a.eval).toArray := by rw [← Array.toList_map, Array.toArray_toList]
        have e2 : captured.map a.eval = (captured.toList.map a.eval).toArray := by rw [← Array.toList_map, Array.toArray_toList]
        rw [e1, e2]
        exact .func _ _ _ _ _ _ (by simp [fnOf, hf]) r1.1 r2.1 r1.2 r2.2
      · cases ht
    · cases ht
  case makeSlice t l c =>
    split at ht
    · rename_i e l' c' h1 h2 h3
      cases ht
      obtain ⟨hel, hza, hpos, hz1⟩ := telem_ok h1
      simp only [evalOp] at h
      obtain ⟨vv, w', m', hrun, hrel, hgo⟩ := mkslice_sound hs (trOpd_sound he h2) (trOpd_sound he h3) hel (trVal_sound hza).2 h
      exact Ans.val hrun hrel hgo
    · cases ht
  case slice t x lo hi mx =>
    split at ht
    · rename_i e x' lo' hi' mx' h1 h2 h3 h4 h5
      cases ht
      obtain ⟨hel, hza, hpos, hz1⟩ := telem_ok h1
      simp only [evalOp] at h
      cases hv : evSlice H e.i.size (x'.ev env) (lo'.map (Opd.ev env)) (hi'.map (Opd.ev env)) (mx'.map (Opd.ev env)) with
      | none => rw [hv] at h; cases h
      | some z =>
        rw [hv] at h; cases h
        obtain ⟨vv, hrun, hrel⟩ := slice_run hs (trOpd_sound he h2) (trOpt_sound he h3) (trOpt_sound he h4) (trOpt_sound he h5) hel.und ⟨_, hel.ti, rfl⟩ hv
        exact Ans.val hrun hrel hs.stay
    · cases ht
  case fieldAddr t x f =>
    split at ht
    · rename_i fs x' h1 h2
      split at ht
      · rename_i fd hfd
        split at ht
        · rename_i i hi
          split at ht
          · cases ht
          · rename_i hn0
            cases ht
            simp only [evalOp] at h
            have hr := trOpd_sound he h2
            cases hv : evAddr H fd.offset (x'.ev env) with
            | none => rw [hv] at h; cases h
            | some z =>
              rw [hv] at h; cases h
              obtain ⟨ad, hval, hrel⟩ := addr_sound hs hr hv
              refine Ans.val (vv := .pointer (some (ad.add fd.offset))) ?_ hrel hs.stay
              simp [Instr.fieldAt, run_underlying h1, hfd, hval, Instr.sureAddr, fieldPlace, sizeOf, typeInfo, hi, hn0]
        · cases ht
      · cases ht
    · cases ht
  case field t x f =>
    split at ht
    · rename_i fs x' h1 h2
      split at ht
      · rename_i fd hfd
        split at ht
        · rename_i g n htg
          cases ht
          simp only [evalOp] at h
          have hr := trOpd_sound he h2
          cases hv : x'.ev env with
          | agg cs =>
            rw [hv] at h hr
            obtain ⟨arr, hval, hrr⟩ : ∃ arr, a.eval x = .agg arr ∧ Rels S m I w cs arr := by
              cases hval : a.eval x <;> rw [hval] at hr <;> cases hr
              rename_i hs1 hs2
              exact ⟨_, rfl, hs1, hs2⟩
            obtain ⟨vv, hp, hrel⟩ := part_sound (tagg_ok htg) hrr (off := fd.offset) (v := v) (by
              cases g <;> simp only [Bool.false_eq_true, if_true, if_false] at h ⊢
              · cases hc : cs[fd.offset]? <;> rw [hc] at h <;> cases h; rfl
              · split at h
                · rename_i hle; cases h; rw [if_pos hle]
                · cases h)
            have hH : H' = H := by
              cases g <;> simp only [Bool.false_eq_true, if_true, if_false] at h
              · cases hc : cs[fd.offset]? <;> rw [hc] at h <;> cases h; rfl
              · split at h
                · cases h; rfl
                · cases h
            subst hH
            refine Ans.val (vv := vv) ?_ hrel hs.stay
            simp [Instr.field, run_underlying h1, hfd, hval, asAgg, hp]
          | _ => rw [hv] at h; cases h
        · cases ht
      · cases ht
    · cases ht
  case indexAddr t x i =>
    split at ht
    · rename_i e x' i' h1 h2 h3
      cases hj : S.P.info? e with
      | none => rw [hj] at ht; cases ht
      | some j =>
        rw [hj] at ht; cases ht
        simp only [evalOp] at h
        cases hv : evIndex H j.size (x'.ev env) (i'.ev env) with
        | none => rw [hv] at h; cases h
        | some z =>
          rw [hv] at h; cases h
          obtain ⟨vv, hrun, hrel⟩ := index_run hs (trOpd_sound he h2) (trOpd_sound he h3) h1 ⟨j, hj, rfl⟩ hv
          exact Ans.val hrun hrel hs.stay
    · rename_i len e x' i' h1 h2 h3
      cases hj : S.P.info? e with
      | none => rw [hj] at ht; cases ht
      | some j =>
        rw [hj] at ht; cases ht
        simp only [evalOp] at h
        have hr := trOpd_sound he h2
        have hri := trOpd_sound he h3
        cases hv : i'.ev env with
        | int k n =>
          rw [hv] at h hri
          have hvi : a.eval i = .int k n := by cases hval : a.eval i <;> rw [hval] at hri <;> cases hri; rfl
          simp only at h
          split at h
          · rename_i hn
            cases hv2 : evAddr H (n.toNat * j.size) (x'.ev env) with
            | none => rw [hv2] at h; cases h
            | some z =>
              rw [hv2] at h; cases h
              obtain ⟨ad, hval, hrel⟩ := addr_sound hs hr hv2
              refine Ans.val (vv := .pointer (some (ad.add (n.toNat * j.size)))) ?_ hrel hs.stay
              simp [Instr.indexAt, run_underlying h1, hvi, hval, asIntOf, Instr.sureAddr, hn, sizeOf, typeInfo, hj]
          · cases h
        | _ => rw [hv] at h; cases h
    · cases ht
  case index t x i =>
    split at ht
    · rename_i len e x' i' h1 h2 h3
      cases htg : tagg S e with
      | none => rw [htg] at ht; cases ht
      | some gn =>
        obtain ⟨g, n0⟩ := gn
        rw [htg] at ht; cases ht
        simp only [evalOp] at h
        have hr := trOpd_sound he h2
        have hri := trOpd_sound he h3
        split at h
        · rename_i cs k n hv hvi
          rw [hv] at hr
          rw [hvi] at hri
          have hvi : a.eval i = .int k n := by cases hval : a.eval i <;> rw [hval] at hri <;> cases hri; rfl
          obtain ⟨arr, hval, hrr⟩ : ∃ arr, a.eval x = .agg arr ∧ Rels S m I w cs arr := by
            cases hval : a.eval x <;> rw [hval] at hr <;> cases hr
            rename_i hs1 hs2
            exact ⟨_, rfl, hs1, hs2⟩
          split at h
          · rename_i hn
            obtain ⟨vv, hp, hrel⟩ := part_sound (tagg_ok htg) hrr (off := n.toNat * n0) (v := v) (by
              cases g <;> simp only [Bool.false_eq_true, if_true, if_false] at h ⊢
              · cases hc : cs[n.toNat * n0]? <;> rw [hc] at h <;> cases h; rfl
              · split at h
                · rename_i hle; cases h; rw [if_pos hle]
                · cases h)
            have hH : H' = H := by
              cases g <;> simp only [Bool.false_eq_true, if_true, if_false] at h
              · cases hc : cs[n.toNat * n0]? <;> rw [hc] at h <;> cases h; rfl
              · split at h
                · cases h; rfl
                · cases h
            subst hH
            refine Ans.val (vv := vv) ?_ hrel hs.stay
            simp [Instr.index, run_underlying h1, hvi, hval, asIntOf, hn, run_sizeOf' (tagg_ok htg), hp]
          · cases h
        · cases h
    · cases ht
  case extract x i =>
    cases hx : trOpd S x with
    | none => rw [hx] at ht; cases ht
    | some x' =>
      rw [hx] at ht; cases ht
      simp only [evalOp] at h
      have hr := trOpd_sound he hx
      cases hv : x'.ev env with
      | tup vs =>
        rw [hv] at h hr
        simp only at h
        cases hi : vs[i]? with
        | none => rw [hi] at h; cases h
        | some z =>
          rw [hi] at h; cases h
          obtain ⟨arr, hval, hsz, hrr⟩ : ∃ arr, a.eval x = .tuple arr ∧ arr.size = vs.length ∧ ∀ i x, vs[i]? = some x → Rel S m I w x (arr.getD i undef) := by
            cases hval : a.eval x <;> rw [hval] at hr <;> cases hr
            rename_i hs1 hs2
            exact ⟨_, rfl, hs1, hs2⟩
          have hlt : i < arr.size := by rw [hsz]; exact (List.getElem?_eq_some_iff.1 hi).1
          have hrel := hrr i _ hi
          rw [show arr.getD i undef = arr[i] by simp [hlt]] at hrel
          refine Ans.val (vv := arr[i]) ?_ hrel hs.stay
          simp [Instr.extract, hval, hlt]
      | _ => rw [hv] at h; cases h
  case typeAssert x xt t ok =>
    cases ok <;> simp only at ht <;> (try (cases ht; done))
    split at ht
    · cases ht
    · rename_i d x' hd h1 h2
      split at ht
      · rename_i hty
        cases ht
        simp only [evalOp] at h
        have hr := trOpd_sound he h2
        cases hv : x'.ev env with
        | iface t' z =>
          rw [hv] at h hr
          simp only at h
          split at h
          · rename_i htt
            cases h
            obtain ⟨u, hval, hrel⟩ : ∃ u, a.eval x = .iface (S.ty t') u ∧ Rel S m I w v u := by
              cases hval : a.eval x <;> rw [hval] at hr <;> cases hr
              rename_i hrr
              exact ⟨_, rfl, hrr⟩
            rw [htt, hty] at hval
            refine Ans.val (vv := u) ?_ hrel hs.stay
            cases d <;> first
              | exact absurd rfl (hd _)
              | simp [Instr.typeAssert, run_underlying h1, hval]
          · cases h
        | _ => rw [hv] at h; cases h
      · cases ht
    · cases ht
  case call c =>
    unfold trCall at ht
    split at ht
    · rename_i b hb
      have := builtin_sound (cs := c.args.map fun | .const _ => true | _ => false) (ty := ty) hs he ht h
      obtain ⟨nx, w', m', vv, hr, hx⟩ := this.ex
      refine ⟨⟨nx, w', m', vv, ?_, hx⟩⟩
      simp only [execOp, resolve, hb, Sem.run_bind, Sem.run_pure, Result.andThen_ok, invoke]
      exact hr
    · split at ht
      · cases ht; simp [evalOp] at h
      · cases ht
    · split at ht
      · cases ht; simp [evalOp] at h
      · cases ht

end Go.Proofs.YtihhinbjhiankaaGreatDoor.Al

/- CALLS: what a call is told by; things that are frozen when they are handed on; what is forgotten when a call ends. -/
namespace Go.Proofs.YtihhinbjhiankaaGreatDoor.Al
open Go
variable {S : Seat} {m : List ME} {I X : Nat → Prop} {w : World} {H : List Entry}

inductive Idb (n : Nat) : AV → Prop
  | undef : Idb n .undef
  | bool (b : Bool) : Idb n (.bool b)
  | anybool : Idb n .anybool
  | int (k : IntKind) (i : Int) : Idb n (.int k i)
  | str (s : List UInt8) : Idb n (.str s)
  | list (t : Bool) (xs : List AV) (h : ∀ x ∈ xs, ∀ y ∈ x.cells, Idb n y) : Idb n (.list t xs)
  | own (id ver lo hi : Nat) (h : id < n) : Idb n (.own id ver lo hi)
  | agg (cs : List AV) (h : ∀ x ∈ cs, Idb n x) : Idb n (.agg cs)
  | tup (cs : List AV) (h : ∀ x ∈ cs, Idb n x) : Idb n (.tup cs)
  | ptr (id off : Nat) (h : id < n) : Idb n (.ptr id off)
  | eptr (id ver i off : Nat) (h : id < n) : Idb n (.eptr id ver i off)
  | iptr (cs : List AV) (off : Nat) (h : ∀ x ∈ cs, Idb n x) : Idb n (.iptr cs off)
  | nilptr : Idb n .nilptr
  | func (c : Nat) (first captured : List AV) (h1 : ∀ x ∈ first, Idb n x) (h2 : ∀ x ∈ captured, Idb n x) : Idb n (.func (.f c) first captured)
  | yield (id : Nat) (first captured : List AV) (h : id < n) (h1 : ∀ x ∈ first, Idb n x) (h2 : ∀ x ∈ captured, Idb n x) : Idb n (.func (.y id) first captured)
  | nilfunc : Idb n .nilfunc
  | iface (t : Nat) (v : AV) (h : Idb n v) : Idb n (.iface t v)
  | nilIface : Idb n .nilIface
  | map (id : Nat) (h : id < n) : Idb n (.map id)

theorem lt_of_get {α : Type} {l : List α} {i : Nat} {x : α} (h : l[i]? = some x) : i < l.length := (List.getElem?_eq_some_iff.1 h).1

theorem Rel.idb {x : AV} {v : Value} (h : Rel S m I w x v) : Idb m.length x := by
  have mem : ∀ {P : AV → Prop} {cs : List AV}, (∀ (i : Nat) (x : AV), cs[i]? = some x → P x) → ∀ x ∈ cs, P x := by
    intro P cs h x hx
    obtain ⟨i, hi⟩ := List.getElem?_of_mem hx
    exact h i x hi
  induction h with
  | undef v => exact .undef
  | bool b => exact .bool b
  | anybool b => exact .anybool
  | int k n => exact .int k n
  | str s => exact .str s
  | empty t a c ht hc => exact .list _ _ (by simp)
  | list t xs b off n c sz rd hn hnc hcm ht hI hsz hc hr ih =>
    refine .list t xs (fun x hx y hy => ?_)
    obtain ⟨i, hi⟩ := List.getElem?_of_mem hx
    obtain ⟨j, hj⟩ := List.getElem?_of_mem hy
    exact ih i x hi j y hj
  | own id ver lo hi e v he hv h => exact .own _ _ _ _ (lt_of_get he)
  | agg cs vs hs h ih => exact .agg _ (mem ih)
  | tup cs vs hs h ih => exact .tup _ (mem ih)
  | ptr id off e v he h => exact .ptr _ _ (lt_of_get he)
  | eptr id ver i off e v he hv h => exact .eptr _ _ _ _ (lt_of_get he)
  | iptr cs off b o rd hI hc hr ih => exact .iptr _ _ (mem ih)
  | nilptr => exact .nilptr
  | func fn first captured g fs cs hg hf hc h1 h2 ih1 ih2 =>
    cases fn with
    | f c => exact .func _ _ _ (mem ih1) (mem ih2)
    | y id =>
      obtain ⟨e, he, _⟩ := hg
      exact .yield _ _ _ (lt_of_get he) (mem ih1) (mem ih2)
  | nilfunc => exact .nilfunc
  | iface t x v h ih => exact .iface _ _ ih
  | nilIface => exact .nilIface
  | map id e v he h => exact .map _ (lt_of_get he)

theorem get_take {α : Type} {l : List α} {i n : Nat} (h : i < n) : (l.take n)[i]? = l[i]? := by rw [List.getElem?_take, if_pos h]

theorem Rel.take {x : AV} {v : Value} {n : Nat} (h : Rel S m I w x v) (hx : Idb n x) : Rel S (m.take n) I w x v := by
  induction h with
  | undef v => exact .undef v
  | bool b => exact .bool b
  | anybool b => exact .anybool b
  | int k n => exact .int k n
  | str s => exact .str s
  | empty t a c ht hc => exact .empty t a c ht hc
  | list t xs b off n c sz rd hn hnc hcm ht hI hsz hc hr ih =>
    cases hx with
    | list _ _ hx => exact .list t xs b off n c sz rd hn hnc hcm ht hI hsz hc (fun i x hi j y hj => ih i x hi j y hj (hx x (List.mem_of_getElem? hi) y (List.mem_of_getElem? hj)))
  | own id ver lo hi e v he hv h => cases hx with | own _ _ _ _ hx => exact .own _ _ _ _ e v (by rw [get_take hx]; exact he) hv h
  | agg cs vs hs h ih => cases hx with | agg _ hx => exact .agg _ _ hs (fun i x hi => ih i x hi (hx x (List.mem_of_getElem? hi)))
  | tup cs vs hs h ih => cases hx with | tup _ hx => exact .tup _ _ hs (fun i x hi => ih i x hi (hx x (List.mem_of_getElem? hi)))
  | ptr id off e v he h => cases hx with | ptr _ _ hx => exact .ptr _ _ e v (by rw [get_take hx]; exact he) h
  | eptr id ver i off e v he hv h => cases hx with | eptr _ _ _ _ hx => exact .eptr _ _ _ _ e v (by rw [get_take hx]; exact he) hv h
  | iptr cs off b o rd hI hc hr ih => cases hx with | iptr _ _ hx => exact .iptr _ _ _ _ rd hI hc (fun j y hj => ih j y hj (hx y (List.mem_of_getElem? hj)))
  | nilptr => exact .nilptr
  | func fn first captured g fs cs hg hf hc h1 h2 ih1 ih2 =>
    cases hx with
    | func c _ _ k1 k2 => exact .func _ _ _ g fs cs hg hf hc (fun i x hi => ih1 i x hi (k1 x (List.mem_of_getElem? hi))) (fun i x hi => ih2 i x hi (k2 x (List.mem_of_getElem? hi)))
    | yield id _ _ k0 k1 k2 =>
      obtain ⟨e, he, h⟩ := hg
      exact .func _ _ _ g fs cs ⟨e, by rw [get_take k0]; exact he, h⟩ hf hc (fun i x hi => ih1 i x hi (k1 x (List.mem_of_getElem? hi))) (fun i x hi => ih2 i x hi (k2 x (List.mem_of_getElem? hi)))
  | nilfunc => exact .nilfunc
  | iface t x v h ih => cases hx with | iface _ _ hx => exact .iface _ _ _ (ih hx)
  | nilIface => exact .nilIface
  | map id e v he h => cases hx with | map _ hx => exact .map _ e v (by rw [get_take hx]; exact he) h

def EntB (n : Nat) : Entry → Prop
  | .dead => True
  | .box cs => ∀ x ∈ cs, Idb n x
  | .arr _ _ xs => ∀ x ∈ xs, ∀ y ∈ x.cells, Idb n y
  | .frz _ _ xs => ∀ x ∈ xs, ∀ y ∈ x.cells, Idb n y
  | .loop L => ∀ j, Idb n (L.env j)

theorem RowOk.idb {e : ME} {sz ver : Nat} {xs : List AV} (h : RowOk S m I w e sz ver xs) : ∀ x ∈ xs, ∀ y ∈ x.cells, Idb m.length y := by
  intro x hx y hy
  obtain ⟨h1, h0, h2, h3, h4, h5⟩ := h
  obtain ⟨i, hi⟩ := List.getElem?_of_mem hx
  obtain ⟨j, hj⟩ := List.getElem?_of_mem hy
  rcases h5 with ⟨_, h5⟩ | ⟨_, arr, T, _, _, hc⟩
  · have := lt_of_get hi; omega
  · exact (hc i x hi j y hj).idb

theorem HOk.entB {id : Nat} {e : Entry} (h : HOk S m I w id e) : EntB m.length e := by
  cases e with
  | dead => trivial
  | box cs =>
    obtain ⟨e, arr, T, _, _, _, _, h5⟩ := h
    intro x hx
    obtain ⟨i, hi⟩ := List.getElem?_of_mem hx
    exact (h5.2 i x hi).idb
  | arr sz ver xs => obtain ⟨e, _, h⟩ := h; exact h.idb
  | frz sz ver xs => obtain ⟨e, _, h, _⟩ := h; exact h.idb
  | loop L => obtain ⟨e, tmps, fn, _, _, _, _, h5, _⟩ := h; exact fun j => (h5 j).idb

theorem RowOk.take {e : ME} {sz ver n : Nat} {xs : List AV} (h : RowOk S m I w e sz ver xs) (hx : ∀ x ∈ xs, ∀ y ∈ x.cells, Idb n y) : RowOk S (m.take n) I w e sz ver xs := by
  obtain ⟨h1, h0, h2, h3, h4, h5⟩ := h
  refine ⟨h1, h0, h2, h3, h4, ?_⟩
  rcases h5 with h5 | ⟨h5, arr, T, ha, hs, hc⟩
  · exact .inl h5
  · exact .inr ⟨h5, arr, T, ha, hs, fun i x hi j y hj => (hc i x hi j y hj).take (hx x (List.mem_of_getElem? hi) y (List.mem_of_getElem? hj))⟩

theorem HOk.take {id n : Nat} {e : Entry} (h : HOk S m I w id e) (hid : id < n) (he : EntB n e) : HOk S (m.take n) I w id e := by
  cases e with
  | dead => trivial
  | box cs =>
    obtain ⟨e, arr, T, h1, h2, h3, h4, h5⟩ := h
    exact ⟨e, arr, T, by rw [get_take hid]; exact h1, h2, h3, h4, h5.1, fun i x hi => (h5.2 i x hi).take (he x (List.mem_of_getElem? hi))⟩
  | arr sz ver xs => obtain ⟨e, h1, h⟩ := h; exact ⟨e, by rw [get_take hid]; exact h1, h.take he⟩
  | frz sz ver xs => obtain ⟨e, h1, h, h2⟩ := h; exact ⟨e, by rw [get_take hid]; exact h1, h.take he, h2⟩
  | loop L =>
    obtain ⟨e, tmps, fn, h1, h2, h3, h4, h5, h6⟩ := h
    exact ⟨e, tmps, fn, by rw [get_take hid]; exact h1, h2, h3, h4, fun j => (h5 j).take (he j), h6⟩

theorem Sim.take {n : Nat} (h : Sim S m I X w H) (he : ∀ id e, id < n → H[id]? = some e → EntB n e) : Sim S (m.take n) I X w (H.take n) := by
  have key : ∀ {id : Nat} {e : Entry}, (H.take n)[id]? = some e → id < n ∧ H[id]? = some e := by
    intro id e hh
    rw [List.getElem?_take] at hh
    split at hh
    · rename_i hlt; exact ⟨hlt, hh⟩
    · cases hh
  have keym : ∀ {id : Nat} {g : ME}, (m.take n)[id]? = some g → m[id]? = some g := by
    intro id g hh
    rw [List.getElem?_take] at hh
    split at hh
    · exact hh
    · cases hh
  refine ⟨by simp [h.len], fun id e hh => ?_, fun id e g hh hl hg => ?_, fun id id' e e' g g' h1 l1 h2 l2 g1 g2 => ?_, h.lt, h.disj, h.gl⟩
  · obtain ⟨hlt, hh⟩ := key hh
    exact (h.hok id e hh).take hlt (he id e hlt hh)
  · exact h.sep id e g (key hh).2 hl (keym hg)
  · exact h.inj id id' e e' g g' (key h1).2 l1 (key h2).2 l2 (keym g1) (keym g2)

theorem MLe.take {m m' : List ME} {n : Nat} (h : MLe m m') (hn : m.length ≤ n) : MLe m (m'.take n) := fun id e he => by
  obtain ⟨e', h1, h2⟩ := h id e he
  exact ⟨e', by rw [get_take (by have := lt_of_get he; omega)]; exact h1, h2⟩

/-! ### Freezing -/
theorem Sim.freeze (hs : Sim S m I X w H) {id sz ver : Nat} {xs : List AV} {e : ME} (hH : H[id]? = some (.arr sz ver xs)) (h1 : m[id]? = some e) :
    Sim S m (fun b => I b ∨ (e.nilrow = false ∧ b = e.blk)) X w (H.set id (.frz sz ver xs)) := by
  have hidH := lt_of_get hH
  refine ⟨by simp [hs.len], fun k e1 hk => ?_, fun k e1 g1 hk hl hg hn => ?_, fun k k' e1 e2 g1 g2 hk1 hl1 hk2 hl2 hg1 hg2 hn1 hn2 hb => ?_, fun b hb => ?_, fun b hb => ?_, hs.gl.mono (fun _ hb => .inl hb) fun _ _ => rfl⟩
  · by_cases hkid : k = id
    · subst hkid
      rw [List.getElem?_set_self hidH] at hk
      cases hk
      obtain ⟨e', h1', hr⟩ := hs.hok _ _ hH
      rw [h1] at h1'; cases h1'
      exact ⟨e, h1, hr.keep (.refl m) (fun _ hb => .inl hb) (fun _ _ => rfl) (fun _ => rfl), fun hn => .inr ⟨hn, rfl⟩⟩
    · rw [List.getElem?_set_ne (Ne.symm hkid)] at hk
      exact (hs.hok k e1 hk).keep (.refl m) (fun _ hb => .inl hb) (fun _ _ => rfl) rfl (fun _ _ _ _ => rfl)
  · by_cases hkid : k = id
    · subst hkid
      rw [List.getElem?_set_self hidH] at hk
      cases hk; cases hl
    · rw [List.getElem?_set_ne (Ne.symm hkid)] at hk
      obtain ⟨a1, a2⟩ := hs.sep k e1 g1 hk hl hg hn
      refine ⟨fun hb => ?_, a2⟩
      rcases hb with hb | ⟨hn', hb⟩
      · exact a1 hb
      · exact hkid (hs.inj k id e1 _ g1 e hk hl hH rfl hg h1 hn hn' hb)
  · have key : ∀ {k : Nat} {e1 : Entry}, (H.set id (.frz sz ver xs))[k]? = some e1 → e1.live = true → H[k]? = some e1 := by
      intro k e1 hk hl
      by_cases hkid : k = id
      · subst hkid
        rw [List.getElem?_set_self hidH] at hk
        cases hk; cases hl
      · rwa [List.getElem?_set_ne (Ne.symm hkid)] at hk
    exact hs.inj k k' e1 e2 g1 g2 (key hk1 hl1) hl1 (key hk2 hl2) hl2 hg1 hg2 hn1 hn2 hb
  · rcases hb with (hb | ⟨hn, rfl⟩) | hb
    · exact hs.lt b (.inl hb)
    · exact hs.blk_lt hH rfl h1 hn
    · exact hs.lt b (.inr hb)
  · rcases hb with hb | ⟨hn, rfl⟩
    · exact hs.disj b hb
    · exact (hs.sep id _ e hH rfl h1 hn).2

def freeze1 (H : List Entry) (id : Nat) : List Entry := match H[id]? with
  | some (.arr sz ver xs) => H.set id (.frz sz ver xs)
  | _ => H

theorem freeze1_sound (hs : Sim S m I X w H) (id : Nat) : ∃ I' : Nat → Prop, Sim S m I' X w (freeze1 H id) ∧ ∀ b, I b → I' b := by
  unfold freeze1
  split
  · rename_i sz ver xs hH
    obtain ⟨e, h1, _⟩ := hs.hok _ _ hH
    exact ⟨_, hs.freeze hH h1, fun _ hb => .inl hb⟩
  · exact ⟨I, hs, fun _ hb => hb⟩

theorem freezeAll_sound : ∀ (ids : List Nat) {I : Nat → Prop} {H : List Entry}, Sim S m I X w H → ∃ I' : Nat → Prop, Sim S m I' X w (ids.foldl freeze1 H) ∧ ∀ b, I b → I' b
  | [], I, _, hs => ⟨I, hs, fun _ hb => hb⟩
  | id :: ids, _, _, hs => by
    obtain ⟨I1, h1, k1⟩ := freeze1_sound hs id
    obtain ⟨I2, h2, k2⟩ := freezeAll_sound ids h1
    exact ⟨I2, h2, fun b hb => k2 b (k1 b hb)⟩

def deref1 (H : List Entry) : AV → AV
  | .own id ver lo hi => (match H[id]? with
    | some (.frz _ v xs) => if v = ver ∧ hi ≤ xs.length then .list false ((xs.take hi).drop lo) else .own id ver lo hi
    | _ => .own id ver lo hi)
  | .list true xs => .list false xs
  | v => v
theorem deref1_sound (hs : Sim S m I X w H) {x : AV} {v : Value} (h : Rel S m I w x v) : Rel S m I w (deref1 H x) v := by
  unfold deref1
  split
  · rename_i id ver lo hi
    split
    · rename_i sz u xs hH
      split
      · rename_i hc
        obtain ⟨e1, h1, hrow, rI⟩ := hs.hok id _ hH
        obtain ⟨c1, c2⟩ := hc
        subst c1
        have hrow2 := hrow
        obtain ⟨r1, r0, r2, r3, r4, r5⟩ := hrow2
        by_cases hlt : lo < hi
        · obtain ⟨hn, rfl⟩ := own_val h1 hrow h hlt
          rcases r5 with ⟨r5, _⟩ | ⟨_, arr, T, ha, hsz, hcn⟩
          · rw [hn] at r5; cases r5
          refine Rel.sub (rd := fun i j => arr.getD (i * e1.sz + j) undef) (off := 0) (esz := e1.sz) rfl (rI hn) r4 (fun i x hx j y hy => ?_) (fun i x hx j y hy => hcn i x hx j y hy) (by omega) c2 (by omega) (by omega) (by simp) (fun _ => by rw [r0]; simp)
          have hj : j < e1.sz := by rw [← r4 x (List.mem_of_getElem? hx)]; exact lt_of_get hy
          have hi' : i < e1.cap := Nat.lt_of_lt_of_le (lt_of_get hx) r2
          have hll : i * e1.sz + j < arr.size := by rw [hsz]; exact mul_add_lt hi' hj
          rw [cell_of_row w e1.blk _ arr T (0, 0) ha]; simp [hll]
        · obtain ⟨a, c, rfl, hc⟩ := own_len h1 hrow h
          have h0 : hi - lo = 0 := by omega
          have hnil : (xs.take hi).drop lo = [] := List.eq_nil_of_length_eq_zero (by simp; omega)
          have hcm : c ≤ 9223372036854775807 := by
            cases h with
            | own _ _ _ _ e2 _ he2 hver hrel =>
              rw [h1] at he2; cases he2
              obtain ⟨k1, k2, hcase⟩ := hrel (by omega)
              clear r5
              rcases hcase with ⟨_, _, _, hv⟩ | ⟨_, _, hv, _⟩ <;> simp only [Value.slice.injEq] at hv <;> omega
          rw [hnil, h0]
          exact .empty false a c (by simp) hcm
      · exact h
    · exact h
  · rename_i xs
    cases h with
    | empty _ a c ht hc => exact .empty false a c (by simp) hc
    | list _ _ b off n c sz rd hn hnc hcm ht hI hsz hc hr => exact .list false xs b off n c sz rd hn hnc hcm (by simp) hI hsz hc hr
  · exact h

/-! ### Calls -/
def ACall (S : Seat) (c : Nat) (args : List AV) (H : List Entry) (R : AV → List Entry → Prop) : Prop :=
  ∀ (m : List ME) (I X : Nat → Prop) (w : World) (vs : Array Value), Sim S m I X w H → Rels S m I w args vs →
    Calls S.P (S.fn c) vs w fun e w' => ∃ r H' vv m' I', e = .returned vv ∧ R r H' ∧ Rel S m' I' w' r vv ∧ Sim S m' I' X w' H' ∧ MLe m m' ∧ (∀ b, I b → I' b) ∧ Ext I X w w'

theorem ACall.mono {c : Nat} {args : List AV} {R R' : AV → List Entry → Prop} (h : ACall S c args H R) (hr : ∀ r H', R r H' → R' r H') : ACall S c args H R' :=
  fun m I X w vs hs hv => (h m I X w vs hs hv).mono fun _ _ ⟨r, H', vv, m', I', h1, h2, h3⟩ => ⟨r, H', vv, m', I', h1, hr _ _ h2, h3⟩

def Fun (S : Seat) (c : Nat) (args : List AV) (r : AV) : Prop := ∀ H, ACall S c args H fun r' H' => r' = r ∧ H' = H
def FunOwn (S : Seat) (c : Nat) (args : List AV) (sz : Nat) (xs : List AV) : Prop := ∀ H, ACall S c args H fun r' H' => r' = .own H.length 0 0 xs.length ∧ H' = H ++ [.arr sz 0 xs]

end Go.Proofs.YtihhinbjhiankaaGreatDoor.Al

/- RUNS OF OPERATIONS, AND CODE. -/
namespace Go.Proofs.YtihhinbjhiankaaGreatDoor.Al
open Go
variable {S : Seat} {m m0 : List ME} {I I0 X X0 : Nat → Prop} {w w0 : World} {H : List Entry}

structure St where
  env : Env
  H : List Entry

def FW : Option Nat → Fence
  | none => Fence.wide
  | some l => Fence.wide.inRound l

theorem FW_round (r : Option Nat) : (FW r).round = r := by cases r <;> rfl
theorem FW_fn (r : Option Nat) (f : FuncId) : (FW r).fn f := by cases r <;> trivial
theorem FW_depth (r : Option Nat) : (FW r).depth = none := by cases r <;> rfl
theorem callsIn_FW {r : Option Nat} {n : Nat} {P : Program} {f : FuncId} {args : Array Value} {w : World} {R : Ending → World → Prop} : CallsIn (FW r) n P f args w R ↔ Calls P f args w R := by
  cases r with
  | none => exact callsIn_wide
  | some l => exact ⟨fun h => callsIn_wide.1 (CallsIn.outOfRound h), fun h => CallsIn.inRound l (callsIn_wide.2 h)⟩

def mark (r : Nat) : Deferred := { target := .collected r, args := #[] }

structure Fr (S : Seat) (m : List ME) (I X : Nat → Prop) (w : World) (n0 N : Nat) (env : Env) (a : Act) : Prop where
  env : EnvR S m I w env a.tmps
  size : a.tmps.size = N
  marks : ∃ rs : List Nat, a.defers = rs.map mark ∧ rs.Nodup ∧ ∀ r ∈ rs, X r ∧ n0 ≤ r ∧ w.heap[r]? = some (.deferred (some []))

theorem Fr.mono {n0 N : Nat} {env : Env} {a : Act} {m' : List ME} {I' : Nat → Prop} {w' : World} (h : Fr S m I X w n0 N env a) (hm : MLe m m') (hI : ∀ b, I b → I' b) (hx : Ext I X w w') : Fr S m' I' X w' n0 N env a := by
  refine ⟨h.env.mono hm hI (fun b hb => hx.keep b (.inl hb)), h.size, ?_⟩
  obtain ⟨rs, h1, h2, h3⟩ := h.marks
  exact ⟨rs, h1, h2, fun r hr => ⟨(h3 r hr).1, (h3 r hr).2.1, by rw [hx.keep r (.inr (h3 r hr).1)]; exact (h3 r hr).2.2⟩⟩

theorem Fr.put {n0 N : Nat} {env : Env} {a : Act} (h : Fr S m I X w n0 N env a) {d : Option Nat} (hd : ∀ k, d = some k → k < N) {x : AV} {v : Value} (hx : Rel S m I w x v) : Fr S m I X w n0 N (updo env d x) (a.put d v) := by
  cases d with
  | none => exact h
  | some d =>
    refine ⟨fun j => ?_, by simp [Act.put, h.size], h.marks⟩
    simp only [updo, upd, Act.put]
    have hlt : d < a.tmps.size := by rw [h.size]; exact hd d rfl
    by_cases hj : j = d
    · subst hj
      rw [if_pos rfl]
      rw [show (a.tmps.setIfInBounds j v).getD j undef = v by simp [hlt]]
      exact hx
    · rw [if_neg hj]
      rw [show (a.tmps.setIfInBounds d v).getD j undef = a.tmps.getD j undef by simp [Ne.symm hj]]
      exact h.env j

structure From (m0 : List ME) (I0 X0 : Nat → Prop) (w0 : World) (m : List ME) (I X : Nat → Prop) (w : World) : Prop where
  le : MLe m0 m
  i : ∀ b, I0 b → I b
  x : ∀ b, X0 b → X b
  ext : Ext I0 X0 w0 w

theorem From.refl (m : List ME) (I X : Nat → Prop) (w : World) : From m I X w m I X w := ⟨.refl m, fun _ h => h, fun _ h => h, .refl I X w⟩
theorem From.step {m' : List ME} {I' X' : Nat → Prop} {w' : World} (h : From m0 I0 X0 w0 m I X w) (hm : MLe m m') (hI : ∀ b, I b → I' b) (hX : ∀ b, X b → X' b) (hx : Ext I X w w') : From m0 I0 X0 w0 m' I' X' w' :=
  ⟨h.le.trans hm, fun b hb => hI b (h.i b hb), fun b hb => hX b (h.x b hb),
   ⟨hx.os.trans h.ext.os, hx.tape.trans h.ext.tape, hx.output.trans h.ext.output, Nat.le_trans h.ext.size hx.size, fun b hb => (hx.keep b (hb.imp (h.i b) (h.x b))).trans (h.ext.keep b hb)⟩⟩

def calm : Exit → Prop
  | .panic _ | .outgrown => False
  | _ => True

def Post (S : Seat) (m0 : List ME) (I0 X0 : Nat → Prop) (w0 : World) (N : Nat) (Q : Exit → St → Prop) (e : Exit) (a : Act) (w : World) : Prop :=
  ∃ st m I X, Q e st ∧ calm e ∧ From m0 I0 X0 w0 m I X w ∧ Sim S m I X w st.H ∧ Fr S m I X w w0.heap.size N st.env a

/-! ### Telling regions -/
def trOper (S : Seat) (N : Nat) (cops : Array Oper) (c : Oper) : Option IOper :=
  match trOp S c.op with
  | some op => (match c.dst with
    | some d => if d < N then (match c.guard with
      | none => some ⟨some d, op, none, (c.after.toList.filter (Region.binds .any)).map (·.on)⟩
      | some (j, b) => (match (cops[j]?).bind (·.dst) with
        | some g => some ⟨some d, op, some (g, b), (c.after.toList.filter (Region.binds .any)).map (·.on)⟩
        | none => none)) else none
    | none => (match c.guard with
      | none => some ⟨none, op, none, (c.after.toList.filter (Region.binds .any)).map (·.on)⟩
      | some (j, b) => (match (cops[j]?).bind (·.dst) with
        | some g => some ⟨none, op, some (g, b), (c.after.toList.filter (Region.binds .any)).map (·.on)⟩
        | none => none)))
  | none => none

def trOpers (S : Seat) (N : Nat) (cops : Array Oper) : Option (List IOper) := cops.toList.mapM (trOper S N cops)

def gdec (env : Env) : Option (Nat × Bool) → Option Bool
  | none => some true
  | some (d, b) => match env d with
    | .bool v => some (v == b)
    | .tup [] => some false
    | _ => none

theorem trOper_parts {N : Nat} {cops : Array Oper} {c : Oper} {o : IOper} (h : trOper S N cops c = some o) :
    trOp S c.op = some o.op ∧ c.dst = o.dst ∧ (∀ k, o.dst = some k → k < N) ∧ o.after = (c.after.toList.filter (Region.binds .any)).map (·.on) ∧
    ((c.guard = none ∧ o.guard = none) ∨ ∃ j b g, c.guard = some (j, b) ∧ (cops[j]?).bind (·.dst) = some g ∧ o.guard = some (g, b)) := by
  unfold trOper at h
  split at h
  · rename_i op hop
    split at h
    · rename_i d hd
      split at h
      · rename_i hlt
        split at h
        · rename_i hg
          cases h
          exact ⟨hop, hd, fun k hk => by cases hk; exact hlt, rfl, .inl ⟨hg, rfl⟩⟩
        · rename_i j b hg
          split at h
          · rename_i g hgd
            cases h
            exact ⟨hop, hd, fun k hk => by cases hk; exact hlt, rfl, .inr ⟨j, b, g, hg, hgd, rfl⟩⟩
          · cases h
      · cases h
    · rename_i hd
      split at h
      · rename_i hg
        cases h
        exact ⟨hop, hd, (fun k hk => by cases hk), rfl, .inl ⟨hg, rfl⟩⟩
      · rename_i j b hg
        split at h
        · rename_i g hgd
          cases h
          exact ⟨hop, hd, (fun k hk => by cases hk), rfl, .inr ⟨j, b, g, hg, hgd, rfl⟩⟩
        · cases h
  · cases h

theorem guard_sound {N : Nat} {cops : Array Oper} {c : Oper} {o : IOper} (h : trOper S N cops c = some o) {env : Env} {tmps : Array Value} (he : EnvR S m I w env tmps) {t : Bool} (hg : gdec env o.guard = some t) :
    Region.wanted c (yielded cops tmps) = t := by
  obtain ⟨_, _, _, _, hcase⟩ := trOper_parts h
  rcases hcase with ⟨h1, h2⟩ | ⟨j, b, g, h1, h2, h3⟩
  · rw [h2] at hg; cases hg
    simp [Region.wanted, h1]
  · rw [h3] at hg
    have hr := he g
    simp only [gdec] at hg
    simp only [Region.wanted, h1, yielded, h2, Option.bind_some]
    split at hg
    · rename_i v hv
      cases hg
      rw [hv] at hr
      have hval : tmps[g]? = some (.bool v) := by
        cases hx : tmps[g]? with
        | none => simp [hx] at hr; cases hr
        | some u =>
          simp [hx] at hr
          cases u <;> cases hr
          rfl
      rw [hval]
      cases v <;> cases b <;> rfl
    · rename_i hv
      cases hg
      rw [hv] at hr
      cases hx : tmps[g]? with
      | none => simp
      | some u =>
        simp [hx] at hr
        cases u <;> cases hr
        simp
    · cases hg

def Match (S : Seat) (N : Nat) (cops : Array Oper) : List Nat → List IOper → Prop
  | [], [] => True
  | i :: is, o :: os => (∃ c, cops[i]? = some c ∧ trOper S N cops c = some o) ∧ Match S N cops is os
  | _, _ => False

def SRun (S : Seat) (r : Option Nat) (N : Nat) (l : List IOper) (Q : St → Prop) (st : St) : Prop :=
  ∀ (cops : Array Oper) (idx : List Nat), Match S N cops idx l → ∀ (m0 : List ME) (I0 X0 : Nat → Prop) (w0 : World) (QM : Exit → Act → World → Prop),
    (∀ (st : St) (m : List ME) (I X : Nat → Prop) (w : World) (a : Act), Q st → From m0 I0 X0 w0 m I X w → Sim S m I X w st.H → Fr S m I X w w0.heap.size N st.env a → QM .normal a w) →
    ∀ (m : List ME) (I X : Nat → Prop) (w : World) (a : Act), From m0 I0 X0 w0 m I X w → Sim S m I X w st.H → Fr S m I X w w0.heap.size N st.env a → wpOpsIn (FW r) 0 S.P cops QM idx a w

theorem SRun.nil {r : Option Nat} {N : Nat} {Q : St → Prop} {st : St} (h : Q st) : SRun S r N [] Q st := by
  intro cops idx hm m0 I0 X0 w0 QM hQ m I X w a hf hs hfr
  cases idx with
  | nil => exact hQ st m I X w a h hf hs hfr
  | cons _ _ => exact hm.elim

theorem trOp_noDefer {op : Go.Op} {i : IOp} (h : trOp S op = some i) : ∀ c, op ≠ .defer c := by
  intro c hc; subst hc; simp [trOp] at h

theorem SRun.op {r : Option Nat} {N : Nat} {Q : St → Prop} {o : IOper} {l : List IOper} {env : Env} {v : AV} {H' : List Entry} (hg : gdec env o.guard = some true) (h : evalOp o.op env H = some (v, H'))
    (k : SRun S r N l Q ⟨updo env o.dst v, H'⟩) : SRun S r N (o :: l) Q ⟨env, H⟩ := by
  intro cops idx hm m0 I0 X0 w0 QM hQ m I X w a hf hs hfr
  cases idx with
  | nil => exact hm.elim
  | cons i is =>
    obtain ⟨⟨c, hc, ht⟩, hrest⟩ := hm
    obtain ⟨p1, p2, p3, p4, p5⟩ := trOper_parts ht
    have hw := guard_sound ht hfr.env hg
    simp only [wpOpsIn, hc, hw, if_true]
    refine ⟨fun f _ => FW_fn r f, ?_⟩
    rw [FW_round, Oper.semAt_eq r _ _ (trOp_noDefer p1)]
    obtain ⟨nx, w', m', vv, hrun, hnx, hrel, hgo⟩ := (evalOp_sound hs hfr.env p1 h).ex
    rw [hrun]
    have hfr' : Fr S m' I X w' w0.heap.size N (updo env o.dst v) (a.put c.dst vv) := by
      rw [p2]; exact (hfr.mono hgo.le (fun _ hb => hb) hgo.ext).put p3 hrel
    have hnext := k cops is hrest m0 I0 X0 w0 QM hQ m' I X w' _ (hf.step hgo.le (fun _ hb => hb) (fun _ hb => hb) hgo.ext) hgo.sim hfr'
    rcases hnx with rfl | ⟨rfl, rfl⟩
    · exact hnext
    · exact hnext

theorem SRun.skip {r : Option Nat} {N : Nat} {Q : St → Prop} {o : IOper} {l : List IOper} {env : Env} (hg : gdec env o.guard = some false)
    (k : SRun S r N l Q ⟨updo env o.dst (.tup []), H⟩) : SRun S r N (o :: l) Q ⟨env, H⟩ := by
  intro cops idx hm m0 I0 X0 w0 QM hQ m I X w a hf hs hfr
  cases idx with
  | nil => exact hm.elim
  | cons i is =>
    obtain ⟨⟨c, hc, ht⟩, hrest⟩ := hm
    obtain ⟨p1, p2, p3, p4, p5⟩ := trOper_parts ht
    have hw := guard_sound ht hfr.env hg
    simp only [wpOpsIn, hc, hw, Bool.false_eq_true, if_false]
    refine ⟨fun f _ => FW_fn r f, ?_⟩
    rw [p2]
    exact k cops is hrest m0 I0 X0 w0 QM hQ m I X w _ hf hs (hfr.put p3 (.tup [] #[] rfl (by simp)))

structure Callable (S : Seat) (c : Nat) : Prop where
  ex : ∃ fn, S.P.funcs[S.fn c]? = some fn ∧ (fn.name == "runtime.NumGoroutine") = false ∧ fn.body.isNone = false

theorem run_callFunc {c : Nat} (h : Callable S c) (args : Array Value) : (callFunc (S.fn c) args).run S.P w = .ok (.enter (S.fn c) args) w := by
  obtain ⟨fn, h1, h2, h3⟩ := h.ex
  simp only [callFunc, Sem.run_bind, run_program, Result.andThen_ok, h1, h2, h3, Bool.false_eq_true, if_false, Sem.run_pure]

theorem Rels.append {xs ys : List AV} {a b : Array Value} (h : Rels S m I w xs a) (k : Rels S m I w ys b) : Rels S m I w (xs ++ ys) (a ++ b) := by
  refine ⟨by simp [h.1, k.1], fun i x hx => ?_⟩
  rw [getD_list, Array.toList_append]
  rcases Nat.lt_or_ge i xs.length with hi | hi
  · rw [List.getElem?_append_left hi] at hx
    rw [List.getElem?_append_left (by rw [Array.length_toList, h.1]; exact hi), ← getD_list]
    exact h.2 i x hx
  · rw [List.getElem?_append_right hi] at hx
    have hl : a.toList.length = xs.length := by rw [Array.length_toList, h.1]
    rw [List.getElem?_append_right (by rw [hl]; exact hi), hl, ← getD_list]
    exact k.2 _ x hx

theorem trCall_call {cl : Go.Call} {f : Opd} {xs : List Opd} (h : trCall S cl = some (.call f xs)) : ∃ fo, cl.callee = .value fo ∧ trOpd S fo = some f ∧ trOpds S cl.args.toList = some xs := by
  unfold trCall at h
  split at h
  · exfalso
    unfold trBuiltin at h
    repeat' split at h
    all_goals first
      | (cases h; done)
      | (obtain ⟨y, _, hy⟩ := Option.map_eq_some_iff.1 h; cases hy; done)
      | skip
  · rename_i fo hfo
    split at h
    · rename_i f' xs' h1 h2
      cases h
      exact ⟨fo, hfo, h1, h2⟩
    · cases h
  · split at h
    · cases h
    · cases h

theorem trOp_call {op : Go.Op} {f : Opd} {xs : List Opd} (h : trOp S op = some (.call f xs)) : ∃ cl fo, op = .call cl ∧ cl.callee = .value fo ∧ trOpd S fo = some f ∧ trOpds S cl.args.toList = some xs := by
  cases op
  case call cl =>
    obtain ⟨fo, h1, h2, h3⟩ := trCall_call h
    exact ⟨cl, fo, rfl, h1, h2, h3⟩
  all_goals
    exfalso
    simp only [trOp, trBin, trConv] at h
    (try (repeat' split at h)) <;> first
      | (cases h; done)
      | (obtain ⟨y, _, hy⟩ := Option.map_eq_some_iff.1 h; cases hy; done)
      | (rename_i hq; cases hq; done)

theorem SRun.call {r : Option Nat} {N : Nat} {Q : St → Prop} {o : IOper} {l : List IOper} {env : Env} {f : Opd} {xs : List Opd} {c : Nat} {first captured : List AV} {R : AV → List Entry → Prop} (hg : gdec env o.guard = some true)
    (ho : o.op = .call f xs) (hf : f.ev env = .func (.f c) first captured) (hcb : Callable S c) (h : ACall S c (first ++ xs.map (Opd.ev env) ++ captured) H R)
    (k : ∀ v H', R v H' → SRun S r N l Q ⟨updo env o.dst v, H'⟩) : SRun S r N (o :: l) Q ⟨env, H⟩ := by
  intro cops idx hm m0 I0 X0 w0 QM hQ m I X w a hfrom hs hfr
  cases idx with
  | nil => exact hm.elim
  | cons i is =>
    obtain ⟨⟨cc, hc, ht⟩, hrest⟩ := hm
    obtain ⟨p1, p2, p3, p4, p5⟩ := trOper_parts ht
    have hw := guard_sound ht hfr.env hg
    simp only [wpOpsIn, hc, hw, if_true]
    refine ⟨fun f _ => FW_fn r f, ?_⟩
    rw [FW_round, Oper.semAt_eq r _ _ (trOp_noDefer p1)]
    rw [ho] at p1
    obtain ⟨dst, oo, ty, pos, aft, grd⟩ := cc
    simp only at p1 p2
    obtain ⟨cl, fo, rfl, hfo, h1, h2⟩ := trOp_call p1
    have hrf := trOpd_sound hfr.env h1
    have hra := trOpds_sound hfr.env h2
    rw [hf] at hrf
    obtain ⟨fs, cs, hval, r1, r2⟩ := func_val hrf
    have hrun : (execOp a.eval (⟨dst, .call cl, ty, pos, aft, grd⟩ : Oper)).run S.P w = .ok (.enter (S.fn c) (fs ++ cl.args.map a.eval ++ cs)) w := by
      simp only [execOp, resolve, hfo, Deferred.ofValue, hval, Sem.run_bind, Sem.run_pure, Result.andThen_ok, invoke]
      exact run_callFunc hcb _
    rw [hrun]
    refine ⟨(fun hd => by rw [FW_depth] at hd; cases hd), ?_⟩
    rw [callsIn_FW]
    have hargs : Rels S m I w (first ++ xs.map (Opd.ev env) ++ captured) (fs ++ cl.args.map a.eval ++ cs) := by
      refine (r1.append ?_).append r2
      have e1 : cl.args.map a.eval = (cl.args.toList.map a.eval).toArray := by rw [← Array.toList_map, Array.toArray_toList]
      rw [e1]; exact hra
    refine (h m I X w _ hs hargs).mono ?_
    rintro e w' ⟨rv, H', vv, m', I', rfl, hR, hrel, hsim, hle, hI, hext⟩
    have hfr' : Fr S m' I' X w' w0.heap.size N (updo env o.dst rv) (a.put dst vv) := by
      rw [p2]; exact (hfr.mono hle hI hext).put p3 hrel
    exact k rv H' hR cops is hrest m0 I0 X0 w0 QM hQ m' I' X w' _ (hfrom.step hle hI (fun _ hb => hb) hext) hsim hfr'
    end Go.Proofs.YtihhinbjhiankaaGreatDoor.Al

/- CODE: statements told by abstract code, and the rules by which a body is gone through. -/
namespace Go.Proofs.YtihhinbjhiankaaGreatDoor.Al
open Go
variable {S : Seat} {m m0 : List ME} {I I0 X X0 : Nat → Prop} {w w0 : World} {H : List Entry}

def trCode (S : Seat) (N : Nat) : Code → Option IC
  | .skip => some .skip
  | .region _ ops draw => (trOpers S N ops).map fun l => .region l draw
  | .seq a b => (match trCode S N a, trCode S N b with
    | some a', some b' => some (.seq a' b')
    | _, _ => none)
  | .cond c a b => (match trOpd S c, trCode S N a, trCode S N b with
    | some c', some a', some b' => some (.cond c' a' b')
    | _, _, _ => none)
  | .block id b => (trCode S N b).map (.block id)
  | .loop b => (trCode S N b).map .loop
  | .rangeFunc g ps a b => (match trOpd S g, trCode S N a, trCode S N b with
    | some g', some a', some b' => if ps.all (fun p => decide (p < N)) = true then some (.rangeFunc g' ps.toList a' b') else none
    | _, _, _ => none)
  | .exit id => some (.exit id)
  | .scope b => (trCode S N b).map .scope
  | .label l => some (.label l)
  | .goto l => some (.goto l)
  | .ret => some .ret
  | .refuse _ => none

def WP (S : Seat) (r : Option Nat) (N b : Nat) (ic : IC) (Q : Exit → St → Prop) (st : St) : Prop :=
  ∀ (c : Code), trCode S N c = some ic → ∀ (m0 : List ME) (I0 X0 : Nat → Prop) (w0 : World) (m : List ME) (I X : Nat → Prop) (w : World) (a : Act), m0.length ≤ b →
    From m0 I0 X0 w0 m I X w → Sim S m I X w st.H → Fr S m I X w w0.heap.size N st.env a → c.wpIn (FW r) 0 S.P (Post S m0 I0 X0 w0 N Q) a w

variable {r : Option Nat} {N b : Nat} {Q Q' : Exit → St → Prop} {st : St}

theorem Post.mono {e : Exit} {a : Act} (h : Post S m0 I0 X0 w0 N Q e a w) (hq : ∀ e st, Q e st → Q' e st) : Post S m0 I0 X0 w0 N Q' e a w := by
  obtain ⟨st, m, I, X, h1, h2⟩ := h
  exact ⟨st, m, I, X, hq e st h1, h2⟩

theorem WP.mono {ic : IC} (h : WP S r N b ic Q st) (hq : ∀ e st, Q e st → Q' e st) : WP S r N b ic Q' st :=
  fun c hc m0 I0 X0 w0 m I X w a hb0 hf hs hfr => wpIn_mono (h c hc m0 I0 X0 w0 m I X w a hb0 hf hs hfr) fun _ _ _ hp => hp.mono hq

theorem WP.skip (h : Q .normal st) : WP S r N b .skip Q st := by
  intro c hc m0 I0 X0 w0 m I X w a hb0 hf hs hfr
  cases c <;> simp only [trCode] at hc <;> (try (cases hc; done)) <;> (try (obtain ⟨y, _, hy⟩ := Option.map_eq_some_iff.1 hc; cases hy; done)) <;> (try ((repeat' split at hc) <;> cases hc; done))
  exact wpIn_skip ⟨st, m, I, X, h, trivial, hf, hs, hfr⟩

theorem WP.exit {id : Nat} (h : Q (.exit id) st) : WP S r N b (.exit id) Q st := by
  intro c hc m0 I0 X0 w0 m I X w a hb0 hf hs hfr
  cases c <;> simp only [trCode] at hc <;> (try (obtain ⟨y, _, hy⟩ := Option.map_eq_some_iff.1 hc; cases hy; done)) <;> (try ((repeat' split at hc) <;> cases hc; done)) <;> cases hc
  exact wpIn_exit ⟨st, m, I, X, h, trivial, hf, hs, hfr⟩

theorem WP.label {id : Nat} (h : Q .normal st) : WP S r N b (.label id) Q st := by
  intro c hc m0 I0 X0 w0 m I X w a hb0 hf hs hfr
  cases c <;> simp only [trCode] at hc <;> (try (obtain ⟨y, _, hy⟩ := Option.map_eq_some_iff.1 hc; cases hy; done)) <;> (try ((repeat' split at hc) <;> cases hc; done)) <;> cases hc
  exact wpIn_label ⟨st, m, I, X, h, trivial, hf, hs, hfr⟩

theorem WP.goto {id : Nat} (h : Q (.goto id) st) : WP S r N b (.goto id) Q st := by
  intro c hc m0 I0 X0 w0 m I X w a hb0 hf hs hfr
  cases c <;> simp only [trCode] at hc <;> (try (obtain ⟨y, _, hy⟩ := Option.map_eq_some_iff.1 hc; cases hy; done)) <;> (try ((repeat' split at hc) <;> cases hc; done)) <;> cases hc
  exact wpIn_goto ⟨st, m, I, X, h, trivial, hf, hs, hfr⟩

theorem WP.ret (h : Q .ret st) : WP S r N b .ret Q st := by
  intro c hc m0 I0 X0 w0 m I X w a hb0 hf hs hfr
  cases c <;> simp only [trCode] at hc <;> (try (cases hc; done)) <;> (try (obtain ⟨y, _, hy⟩ := Option.map_eq_some_iff.1 hc; cases hy; done)) <;> (try ((repeat' split at hc) <;> cases hc; done))
  exact wpIn_ret ⟨st, m, I, X, h, trivial, hf, hs, hfr⟩

def thenQ (k : St → Prop) (Q : Exit → St → Prop) : Exit → St → Prop
  | .normal, st => k st
  | e, st => Q e st

theorem WP.seq {x y : IC} (h : WP S r N b x (thenQ (WP S r N b y Q) Q) st) : WP S r N b (.seq x y) Q st := by
  intro c hc m0 I0 X0 w0 m I X w a hb0 hf hs hfr
  cases c <;> simp only [trCode] at hc <;> (try (cases hc; done)) <;> (try (obtain ⟨y, _, hy⟩ := Option.map_eq_some_iff.1 hc; cases hy; done)) <;> (try ((repeat' split at hc) <;> cases hc; done))
  rename_i c1 c2
  split at hc
  · rename_i a' b' h1 h2
    cases hc
    refine wpIn_seq (wpIn_mono (h c1 h1 m0 I0 X0 w0 m I X w a hb0 hf hs hfr) ?_)
    rintro e a1 w1 ⟨st1, m1, I1, X1, hq, hc1, hf1, hs1, hfr1⟩
    cases e with
    | normal => exact hq c2 h2 m0 I0 X0 w0 m1 I1 X1 w1 a1 hb0 hf1 hs1 hfr1
    | _ => exact ⟨st1, m1, I1, X1, hq, hc1, hf1, hs1, hfr1⟩
  · cases hc

theorem WP.cond {c : Opd} {x y : IC} {t : Bool} (ht : c.ev st.env = .bool t) (h : WP S r N b (if t then x else y) Q st) : WP S r N b (.cond c x y) Q st := by
  intro cc hc m0 I0 X0 w0 m I X w a hb0 hf hs hfr
  cases cc <;> simp only [trCode] at hc <;> (try (cases hc; done)) <;> (try (obtain ⟨y, _, hy⟩ := Option.map_eq_some_iff.1 hc; cases hy; done)) <;> (try ((repeat' split at hc) <;> cases hc; done))
  rename_i g c1 c2
  split at hc
  · rename_i g' a' b' h0 h1 h2
    cases hc
    have hr := trOpd_sound hfr.env h0
    rw [ht] at hr
    generalize hv : a.eval g = v at hr
    cases hr
    refine wpIn_cond hv ?_
    cases t with
    | true => exact h c1 h1 m0 I0 X0 w0 m I X w a hb0 hf hs hfr
    | false => exact h c2 h2 m0 I0 X0 w0 m I X w a hb0 hf hs hfr
  · cases hc

theorem WP.cond_any {c : Opd} {x y : IC} (ht : c.ev st.env = .anybool) (h1 : WP S r N b x Q st) (h2 : WP S r N b y Q st) : WP S r N b (.cond c x y) Q st := by
  intro cc hc m0 I0 X0 w0 m I X w a hb0 hf hs hfr
  cases cc <;> simp only [trCode] at hc <;> (try (cases hc; done)) <;> (try (obtain ⟨y, _, hy⟩ := Option.map_eq_some_iff.1 hc; cases hy; done)) <;> (try ((repeat' split at hc) <;> cases hc; done))
  rename_i g c1 c2
  split at hc
  · rename_i g' a' b' k0 k1 k2
    cases hc
    have hr := trOpd_sound hfr.env k0
    rw [ht] at hr
    generalize hv : a.eval g = v at hr
    cases hr with
    | anybool t =>
    refine wpIn_cond hv ?_
    cases t with
    | true => exact h1 c1 k1 m0 I0 X0 w0 m I X w a hb0 hf hs hfr
    | false => exact h2 c2 k2 m0 I0 X0 w0 m I X w a hb0 hf hs hfr
  · cases hc

def blockQ (id : Nat) (Q : Exit → St → Prop) : Exit → St → Prop
  | .exit j, st => if j = id then Q .normal st else Q (.exit j) st
  | e, st => Q e st

theorem WP.block {id : Nat} {x : IC} (h : WP S r N b x (blockQ id Q) st) : WP S r N b (.block id x) Q st := by
  intro c hc m0 I0 X0 w0 m I X w a hb0 hf hs hfr
  cases c <;> simp only [trCode] at hc <;> (try (cases hc; done)) <;> (try ((repeat' split at hc) <;> cases hc; done)) <;> obtain ⟨y, h1, hy⟩ := Option.map_eq_some_iff.1 hc <;> (try (cases hy; done))
  cases hy
  refine wpIn_block (wpIn_mono (h _ h1 m0 I0 X0 w0 m I X w a hb0 hf hs hfr) ?_)
  rintro e a1 w1 ⟨st1, m1, I1, X1, hq, hc1, hf1, hs1, hfr1⟩
  cases e with
  | exit j =>
    simp only [Exit.inBlock]
    simp only [blockQ] at hq
    split
    · rename_i hj; rw [if_pos hj] at hq; exact ⟨st1, m1, I1, X1, hq, trivial, hf1, hs1, hfr1⟩
    · rename_i hj; rw [if_neg hj] at hq; exact ⟨st1, m1, I1, X1, hq, trivial, hf1, hs1, hfr1⟩
  | _ => exact ⟨st1, m1, I1, X1, hq, hc1, hf1, hs1, hfr1⟩

theorem exists_least {p : Nat → Prop} (h : ∃ n, p n) : ∃ n, p n ∧ ∀ k, k < n → ¬ p k := by
  obtain ⟨n, hn⟩ := h
  induction n using Nat.strongRecOn with
  | _ n ih =>
    by_cases hk : ∃ k, k < n ∧ p k
    · obtain ⟨k, hk, hp⟩ := hk; exact ih k hk hp
    · exact ⟨n, hn, fun k hk' hp => hk ⟨k, hk', hp⟩⟩

theorem WP.loop {x : IC} (Inv : Nat → St → Prop) {n : Nat} (h0 : Inv n st) (h : ∀ n st, Inv n st → WP S r N b x (thenQ (fun st' => ∃ k, k < n ∧ Inv k st') Q) st) : WP S r N b (.loop x) Q st := by
  intro c hc m0 I0 X0 w0 m I X w a hb0 hf hs hfr
  cases c <;> simp only [trCode] at hc <;> (try (cases hc; done)) <;> (try ((repeat' split at hc) <;> cases hc; done)) <;> obtain ⟨y, h1, hy⟩ := Option.map_eq_some_iff.1 hc <;> (try (cases hy; done))
  cases hy
  let At : Act → World → Nat → Prop := fun a w n => ∃ st m I X, Inv n st ∧ From m0 I0 X0 w0 m I X w ∧ Sim S m I X w st.H ∧ Fr S m I X w w0.heap.size N st.env a
  let μ : Act → World → Nat := fun a w => by
    classical exact if h : ∃ n, At a w n then Classical.choose (exists_least h) else 0
  have hμ : ∀ a w, (∃ n, At a w n) → At a w (μ a w) ∧ ∀ k, k < μ a w → ¬ At a w k := by
    intro a w hex
    have e : μ a w = Classical.choose (exists_least hex) := by simp only [μ]; rw [dif_pos hex]
    rw [e]; exact Classical.choose_spec (exists_least hex)
  refine wpIn_loop (fun a w => ∃ n, At a w n) μ ⟨n, st, m, I, X, h0, hf, hs, hfr⟩ ?_
  intro a1 w1 hex
  obtain ⟨⟨st1, m1, I1, X1, hi1, hf1, hs1, hfr1⟩, hleast⟩ := hμ a1 w1 hex
  refine wpIn_mono (h _ st1 hi1 _ h1 m0 I0 X0 w0 m1 I1 X1 w1 a1 hb0 hf1 hs1 hfr1) ?_
  rintro e a2 w2 ⟨st2, m2, I2, X2, hq, hc2, hf2, hs2, hfr2⟩
  cases e with
  | normal =>
    obtain ⟨k, hk, hi⟩ := hq
    have hat : At a2 w2 k := ⟨st2, m2, I2, X2, hi, hf2, hs2, hfr2⟩
    refine ⟨⟨k, hat⟩, ?_⟩
    obtain ⟨_, hl⟩ := hμ a2 w2 ⟨k, hat⟩
    have : ¬ k < μ a2 w2 := fun hlt => hl k hlt hat
    omega
  | _ => exact ⟨st2, m2, I2, X2, hq, hc2, hf2, hs2, hfr2⟩

/-! ### Regions -/
theorem mapM_get {α β : Type} {f : α → Option β} : ∀ {xs : List α} {ys : List β}, xs.mapM f = some ys → ys.length = xs.length ∧ ∀ (i : Nat) (x : α), xs[i]? = some x → ∃ y, f x = some y ∧ ys[i]? = some y
  | [], ys, h => by simp at h; subst h; simp
  | x :: xs, ys, h => by
    rw [List.mapM_cons] at h
    cases hx : f x with
    | none => rw [hx] at h; cases h
    | some y =>
      rw [hx] at h
      cases hxs : xs.mapM f with
      | none => rw [hxs] at h; cases h
      | some ys' =>
        rw [hxs] at h; cases h
        obtain ⟨h1, h2⟩ := mapM_get hxs
        refine ⟨by simp [h1], fun i z hz => ?_⟩
        cases i with
        | zero => cases hz; exact ⟨y, hx, rfl⟩
        | succ i => exact h2 i z (by simpa using hz)

theorem trOpers_get {cops : Array Oper} {l : List IOper} (h : trOpers S N cops = some l) : l.length = cops.size ∧ ∀ (i : Nat) (c : Oper), cops[i]? = some c → ∃ o, trOper S N cops c = some o ∧ l[i]? = some o := by
  obtain ⟨h1, h2⟩ := mapM_get h
  exact ⟨by simpa using h1, fun i c hc => h2 i c (by simpa using hc)⟩

theorem match_of {cops : Array Oper} {l : List IOper} (h : trOpers S N cops = some l) : ∀ (idx : List Nat), (∀ i ∈ idx, i < l.length) → Match S N cops idx (idx.filterMap (l[·]?))
  | [], _ => trivial
  | i :: is, hi => by
    obtain ⟨h1, h2⟩ := trOpers_get h
    have hlt := hi i (by simp)
    have hc : cops[i]? = some cops[i] := Array.getElem?_eq_getElem (by omega)
    obtain ⟨o, ho, hl⟩ := h2 i _ hc
    rw [List.filterMap_cons, hl]
    exact ⟨⟨_, hc, ho⟩, match_of h is fun j hj => hi j (by simp [hj])⟩

theorem filterMap_range {α : Type} (l : List α) : (List.range l.length).filterMap (l[·]?) = l := by
  induction l with
  | nil => rfl
  | cons x l ih =>
    rw [List.length_cons, List.range_succ_eq_map, List.filterMap_cons, List.getElem?_cons_zero]
    simp only [List.filterMap_map]
    exact congrArg (x :: ·) ((congrArg (fun f => (List.range l.length).filterMap f) (funext fun i => by simp)).trans ih)

theorem WP.region {l : List IOper} (h : SRun S r N l (Q .normal) st) : WP S r N b (.region l false) Q st := by
  intro c hc m0 I0 X0 w0 m I X w a hb0 hf hs hfr
  cases c <;> simp only [trCode] at hc <;> (try (cases hc; done)) <;> (try ((repeat' split at hc) <;> cases hc; done)) <;> obtain ⟨y, h1, hy⟩ := Option.map_eq_some_iff.1 hc <;> (try (cases hy; done))
  cases hy
  rename_i id ops
  have hm := match_of h1 (List.range l.length) (fun i hi => by simpa using hi)
  rw [filterMap_range] at hm
  refine wpIn_region ?_
  rw [← (trOpers_get h1).1]
  exact h ops _ hm m0 I0 X0 w0 _ (fun st1 m1 I1 X1 w1 a1 hq hf1 hs1 hfr1 => ⟨st1, m1, I1, X1, hq, trivial, hf1, hs1, hfr1⟩) m I X w a hf hs hfr

end Go.Proofs.YtihhinbjhiankaaGreatDoor.Al

/- A FUNCTION's CONTRACT FROM ITS BODY. -/
namespace Go.Proofs.YtihhinbjhiankaaGreatDoor.Al
open Go
variable {S : Seat} {m m0 : List ME} {I I0 X X0 : Nat → Prop} {w w0 : World} {H : List Entry}

inductive IRes where
  | t (s : Nat)
  | cell (s : Nat) (agg : Bool) (n : Nat)

structure IFn where
  N : Nat
  res : List IRes
  body : IC

def trRes (S : Seat) : ResultVar → Option IRes
  | .tmp t => some (.t t)
  | .cell a t => (tagg S t).map fun g => .cell a g.1 g.2

def trFn (S : Seat) (c : Nat) : Option IFn := match S.P.funcs[S.fn c]? with
  | some fn => (match fn.body with
    | some code => (match trCode S fn.ntmps code, fn.results.toList.mapM (trRes S) with
      | some ic, some rs => if (fn.name == "runtime.NumGoroutine") = true then none else some ⟨fn.ntmps, rs, ic⟩
      | _, _ => none)
    | none => none)
  | none => none

theorem Callable.of {c : Nat} {f : IFn} (h : trFn S c = some f) : Callable S c := by
  unfold trFn at h
  split at h
  · rename_i fn hfn
    split at h
    · rename_i code hb
      split at h
      · split at h
        · cases h
        · rename_i hn
          exact ⟨fn, hfn, by simpa using hn, by simp [hb]⟩
      · cases h
    · cases h
  · cases h

def evRes (env : Env) (H : List Entry) : IRes → Option AV
  | .t s => some (env s)
  | .cell s agg n => evLoad H agg n (env s)

def evRess (env : Env) (H : List Entry) : List IRes → Option AV
  | [x] => evRes env H x
  | xs => (xs.mapM (evRes env H)).map .tup

theorem run_mapM_list {α β : Type} {f : α → Sem β} {P : Program} {w : World} : ∀ {xs : List α} {ys : List β} (_ : ys.length = xs.length) (_ : ∀ (i : Nat) (x : α) (y : β), xs[i]? = some x → ys[i]? = some y → (f x).run P w = .ok y w), (xs.mapM f).run P w = .ok ys w
  | [], ys, h, _ => by
    have : ys = [] := List.eq_nil_of_length_eq_zero (by simpa using h)
    subst this; rfl
  | x :: xs, ys, h, hr => by
    cases ys with
    | nil => simp at h
    | cons y ys =>
      rw [List.mapM_cons]
      have h1 := hr 0 x y rfl rfl
      have h2 := run_mapM_list (f := f) (P := P) (w := w) (xs := xs) (ys := ys) (by simpa using h) (fun i a b ha hb => hr (i + 1) a b ha hb)
      simp only [Sem.run_bind, h1, Result.andThen_ok, h2, Sem.run_pure]

def resSem (tmps : Array Value) (x : ResultVar) : Sem Value := match x with
  | .tmp t => pure (tmps.getD t undef)
  | .cell a t => do loadVar t (← asAddr (tmps.getD a undef))

theorem results_eq (fn : Func) (tmps : Array Value) : results fn tmps = (do let vs ← fn.results.mapM (resSem tmps); pure (if h : vs.size = 1 then vs[0] else .tuple vs)) := rfl

theorem res_sound (hs : Sim S m I X w H) {env : Env} {tmps : Array Value} (he : EnvR S m I w env tmps) {x : ResultVar} {y : IRes} (ht : trRes S x = some y) {v : AV} (h : evRes env H y = some v) :
    ∃ vv, (resSem tmps x).run S.P w = .ok vv w ∧ Rel S m I w v vv := by
  cases x with
  | tmp t => cases ht; cases h; exact ⟨_, rfl, he t⟩
  | cell a t =>
    obtain ⟨g, hg, hy⟩ := Option.map_eq_some_iff.1 ht
    cases hy
    simp only [evRes] at h
    have hp := he a
    have hw : ∃ cs off, window H (env a) = some (cs, off) := by
      unfold evLoad at h
      split at h
      · rename_i cs off hw; exact ⟨cs, off, hw⟩
      · cases h
    obtain ⟨cs, off, hw⟩ := hw
    obtain ⟨vv, hrun, hrel⟩ := load_run hs hp (tagg_ok hg) h
    obtain ⟨b, o, hpv, _⟩ := window_sound hs hp hw
    refine ⟨vv, ?_, hrel⟩
    simp only [resSem]
    rw [hpv] at hrun ⊢
    simp only [asAddr, Sem.run_bind, Sem.run_pure, Result.andThen_ok]
    simpa [Instr.loadAt, Instr.sureAddr, Sem.run_bind] using hrun

theorem ress_sound (hs : Sim S m I X w H) {env : Env} {tmps : Array Value} (he : EnvR S m I w env tmps) {fn : Func} {rs : List IRes} (ht : fn.results.toList.mapM (trRes S) = some rs) {v : AV} (h : evRess env H rs = some v) :
    ∃ vv, (results fn tmps).run S.P w = .ok vv w ∧ Rel S m I w v vv := by
  have hl := (mapM_get ht).1
  have key : ∀ {vs : List AV}, rs.mapM (evRes env H) = some vs → ∃ us : List Value, us.length = rs.length ∧ (fn.results.mapM (resSem tmps)).run S.P w = .ok us.toArray w ∧
      ∀ (i : Nat) (x : AV), vs[i]? = some x → Rel S m I w x (us.getD i undef) := by
    intro vs hvs
    have hvl := (mapM_get hvs).1
    have hex : ∀ i : Nat, ∃ u : Value, ∀ (x : ResultVar) (y : IRes), fn.results.toList[i]? = some x → rs[i]? = some y → (resSem tmps x).run S.P w = .ok u w ∧ (∀ x : AV, vs[i]? = some x → Rel S m I w x u) := by
      intro i
      cases hx : fn.results.toList[i]? with
      | none => exact ⟨undef, fun x y h1 _ => by cases h1⟩
      | some x =>
        obtain ⟨y, hy, hy'⟩ := (mapM_get ht).2 i x hx
        obtain ⟨v, hv, hv'⟩ := (mapM_get hvs).2 i y hy'
        obtain ⟨u, h1, h2⟩ := res_sound hs he hy hv
        refine ⟨u, fun x' y' e1 e2 => ?_⟩
        cases e1
        exact ⟨h1, fun z hz => by rw [hv'] at hz; cases hz; exact h2⟩
    let us : List Value := (List.range rs.length).map fun i => Classical.choose (hex i)
    have hus : us.length = rs.length := by simp [us]
    have hget : ∀ i, i < rs.length → us[i]? = some (Classical.choose (hex i)) := by intro i hi; simp [us, hi]
    refine ⟨us, hus, ?_, fun i x hx => ?_⟩
    · rw [Array.mapM_eq_mapM_toList]
      simp only [Sem.run_map]
      rw [run_mapM_list (ys := us) (by rw [hus, hl])]
      · rfl
      · intro i x u hx hu
        have hi : i < rs.length := by rw [hl]; exact lt_of_get hx
        obtain ⟨y, hy, hy'⟩ := (mapM_get ht).2 i x hx
        rw [hget i hi] at hu
        cases hu
        exact (Classical.choose_spec (hex i) x y hx hy').1
    · have hi : i < rs.length := by rw [← hvl]; exact lt_of_get hx
      have hx' : fn.results.toList[i]? = some (fn.results.toList[i]'(by omega)) := List.getElem?_eq_getElem _
      obtain ⟨y, hy, hy'⟩ := (mapM_get ht).2 i _ hx'
      have := (Classical.choose_spec (hex i) _ y hx' hy').2 x hx
      rw [List.getD_eq_getElem?_getD, hget i hi]
      exact this
  have hall : ∃ vs, rs.mapM (evRes env H) = some vs ∧ ((∃ x, vs = [x] ∧ v = x) ∨ (vs.length ≠ 1 ∧ v = .tup vs)) := by
    unfold evRess at h
    split at h
    · rename_i x
      exact ⟨[v], by simp [List.mapM_cons, h], .inl ⟨v, rfl, rfl⟩⟩
    · rename_i xs hne
      obtain ⟨vs, hvs, hv⟩ := Option.map_eq_some_iff.1 h
      refine ⟨vs, hvs, .inr ⟨fun h1 => ?_, hv.symm⟩⟩
      rw [(mapM_get hvs).1] at h1
      obtain ⟨x, hx⟩ := List.length_eq_one_iff.1 h1
      exact hne x hx
  obtain ⟨vs, hvs, hcase⟩ := hall
  obtain ⟨us, h1, h2, h3⟩ := key hvs
  have hvl := (mapM_get hvs).1
  rcases hcase with ⟨x, rfl, rfl⟩ | ⟨hne, rfl⟩
  · have hu1 : us.length = 1 := by rw [h1, ← hvl]; rfl
    obtain ⟨u, rfl⟩ := List.length_eq_one_iff.1 hu1
    refine ⟨u, ?_, by simpa using h3 0 _ rfl⟩
    rw [results_eq, Sem.run_bind, h2]; simp
  · refine ⟨.tuple us.toArray, ?_, .tup _ _ (by simp [h1, hvl]) (fun i x hx => by have := h3 i x hx; simpa [List.getD_eq_getElem?_getD] using this)⟩
    rw [results_eq, Sem.run_bind, h2]
    simp only [Result.andThen_ok]
    rw [dif_neg (by simp; omega)]; rfl

/-! ### The contract -/
theorem Sim.shut (hs : Sim S m I X w H) {r : Nat} (hr : X r) (o : Obj) : Sim S m I X (w.putObj r o) H := by
  have hne : ∀ k : Nat, k ≠ r → (w.putObj r o).heap[k]? = w.heap[k]? := fun k hk => World.putObj_heap_other hk
  refine ⟨hs.len, fun id e he => (hs.hok id e he).keep (.refl m) (fun _ hb => hb) (fun b hb => hne b fun e1 => hs.disj b hb (e1 ▸ hr)) rfl (fun g hg hn hl => hne _ fun e1 => (hs.sep id e g he hl hg hn).2 (e1 ▸ hr)), hs.sep, hs.inj, fun b hb => ?_, hs.disj, hs.gl.mono (fun _ hb => hb) fun b hb => hne b fun e1 => hs.disj b hb (e1 ▸ hr)⟩
  rw [World.putObj_size]; exact hs.lt b hb

theorem Sim.less {X' : Nat → Prop} (hs : Sim S m I X w H) (h : ∀ b, X' b → X b) : Sim S m I X' w H :=
  ⟨hs.len, hs.hok, fun id e g h1 h2 h3 h4 => ⟨(hs.sep id e g h1 h2 h3 h4).1, fun hx => (hs.sep id e g h1 h2 h3 h4).2 (h _ hx)⟩, hs.inj, fun b hb => hs.lt b (hb.imp id (h b)), fun b hi hx => hs.disj b hi (h b hx), hs.gl⟩

theorem EnvR.of_args {args : List AV} {vs : Array Value} (h : Rels S m I w args vs) {N : Nat} : EnvR S m I w (fun j => args.getD j .undef) (vs ++ Array.replicate (N - vs.size) undef) := by
  intro j
  simp only [List.getD_eq_getElem?_getD]
  cases hj : args[j]? with
  | none => exact .undef _
  | some x =>
    have := h.2 j x hj
    have hlt : j < vs.size := by rw [h.1]; exact lt_of_get hj
    simp only [Option.getD_some]
    rw [show (vs ++ Array.replicate (N - vs.size) undef).getD j undef = vs.getD j undef by simp [Array.getElem?_append, hlt]]
    exact this

def leaves (rs : List IRes) (R : AV → List Entry → Prop) (e : Exit) (st : St) : Prop := (e = .normal ∨ e = .ret) ∧ ∃ v, evRess st.env st.H rs = some v ∧ R v st.H

theorem ACall.of_wp {c : Nat} {f : IFn} (ht : trFn S c = some f) {args : List AV} {R : AV → List Entry → Prop} (hn : args.length ≤ f.N)
    (h : WP S none f.N H.length f.body (leaves f.res R) ⟨fun j => args.getD j .undef, H⟩) : ACall S c args H R := by
  intro m I X w vs hs hv
  unfold trFn at ht
  split at ht
  · rename_i fn hfn
    split at ht
    · rename_i code hb
      split at ht
      · rename_i ic rs hic hrs
        split at ht
        · cases ht
        · cases ht
          rw [← callsIn_wide (n := 0)]
          refine callsIn_of_wp_marks hfn hb trivial ?_ rfl
          refine wpIn_mono (h code hic m I X w m I X w _ (by rw [hs.len]; exact Nat.le_refl _) (.refl m I X w) hs ⟨EnvR.of_args hv, ?_, [], rfl, .nil, by simp⟩) ?_
          · have := hv.1; simp at hn ⊢; omega
          rintro e a w1 ⟨st, m1, I1, X1, ⟨he, v, hv1, hR⟩, _, hf, hs1, hfr⟩
          obtain ⟨rs', hd, hnd, hmk⟩ := hfr.marks
          have key : ∀ (l : List Nat) (w2 : World), l.Nodup → (∀ r ∈ l, X1 r ∧ w.heap.size ≤ r ∧ w2.heap[r]? = some (.deferred (some []))) → Sim S m1 I1 X1 w2 st.H → EnvR S m1 I1 w2 st.env a.tmps → Ext I X w w2 →
              LeavesInM (FW none) 0 S.P fn a.tmps (fun e w' => ∃ r H' vv m' I', e = .returned vv ∧ R r H' ∧ Rel S m' I' w' r vv ∧ Sim S m' I' X w' H' ∧ MLe m m' ∧ (∀ b, I b → I' b) ∧ Ext I X w w') (l.map mark) .returning w2 := by
            intro l
            induction l with
            | nil =>
              intro w2 _ _ hs2 he2 hx2
              obtain ⟨vv, hrun, hrel⟩ := ress_sound hs2 he2 hrs hv1
              exact ⟨vv, hrun, v, st.H, vv, m1, I1, rfl, hR, hrel, hs2.less hf.x, hf.le, hf.i, hx2⟩
            | cons r l ih =>
              intro w2 hnd hmk hs2 he2 hx2
              obtain ⟨hXr, hge, hblk⟩ := hmk r (by simp)
              have hnd' := List.nodup_cons.1 hnd
              have hne : ∀ k : Nat, k ≠ r → (w2.putObj r (.deferred none)).heap[k]? = w2.heap[k]? := fun k hk => World.putObj_heap_other hk
              refine ⟨by simp, .inl ⟨r, _, rfl, run_takeDeferred hblk, ih _ hnd'.2 ?_ (hs2.shut hXr _) (he2.mono (.refl m1) (fun _ hb => hb) (fun b hb => hne b fun e1 => hs2.disj b hb (e1 ▸ hXr))) ?_⟩⟩
              · intro k hk
                obtain ⟨a1, a2, a3⟩ := hmk k (by simp [hk])
                exact ⟨a1, a2, by rw [hne k (fun e1 => hnd'.1 (e1 ▸ hk))]; exact a3⟩
              · refine ⟨hx2.os, hx2.tape, hx2.output, by rw [World.putObj_size]; exact hx2.size, fun b hb => ?_⟩
                rw [hne b (fun e1 => by have := hs.lt b hb; omega)]
                exact hx2.keep b hb
          have hfin := key rs' w1 hnd hmk hs1 hfr.env hf.ext
          rw [← hd] at hfin
          rcases he with rfl | rfl
          · exact hfin
          · exact hfin
      · cases ht
    · cases ht
  · cases ht

end Go.Proofs.YtihhinbjhiankaaGreatDoor.Al

/- LEAVING: what a call's own things become when it is over; and steps that change nothing but what is known. -/
namespace Go.Proofs.YtihhinbjhiankaaGreatDoor.Al
open Go
variable {S : Seat} {m m0 : List ME} {I I0 X X0 : Nat → Prop} {w w0 : World} {H : List Entry}

def Entry.frzE : Entry → Entry
  | .arr s v xs => .frz s v xs
  | e => e

def freezeP (p : Nat → Bool) (H : List Entry) : List Entry := H.mapIdx fun i e => if p i then e.frzE else e

theorem freezeP_get (p : Nat → Bool) (H : List Entry) (i : Nat) : (freezeP p H)[i]? = (H[i]?).map fun e => if p i then e.frzE else e := by
  simp [freezeP, List.getElem?_mapIdx]
theorem freeze1_get (H : List Entry) (id i : Nat) : (freeze1 H id)[i]? = (H[i]?).map fun e => if id = i then e.frzE else e := by
  unfold freeze1
  split
  · rename_i sz ver xs hH
    by_cases hi : id = i
    · subst hi
      rw [List.getElem?_set_self (lt_of_get hH), hH]; simp [Entry.frzE]
    · rw [List.getElem?_set_ne hi]
      cases H[i]? <;> simp [hi]
  · rename_i hne
    by_cases hi : id = i
    · subst hi
      cases hH : H[id]? with
      | none => rfl
      | some e =>
        cases e with
        | arr s v xs => exact absurd hH (hne s v xs)
        | _ => simp [Entry.frzE]
    · cases H[i]? <;> simp [hi]

theorem frzE_twice (e : Entry) : e.frzE.frzE = e.frzE := by cases e <;> rfl

theorem freezeAll_get : ∀ (ids : List Nat) (H : List Entry) (i : Nat), (ids.foldl freeze1 H)[i]? = (H[i]?).map fun e => if i ∈ ids then e.frzE else e
  | [], H, i => by cases h : H[i]? <;> simp [h]
  | id :: ids, H, i => by
    rw [List.foldl_cons, freezeAll_get ids, freeze1_get]
    cases H[i]? with
    | none => rfl
    | some e =>
      simp only [Option.map_some, List.mem_cons, Option.some.injEq]
      by_cases h1 : id = i
      · subst h1
        simp only [if_true, true_or]
        split <;> first | rfl | exact frzE_twice e
      · simp only [if_neg h1, show ¬ i = id from fun h => h1 h.symm, false_or]

theorem freezeP_eq (p : Nat → Bool) (H : List Entry) : freezeP p H = ((List.range H.length).filter p).foldl freeze1 H := by
  apply List.ext_getElem?
  intro i
  rw [freezeP_get, freezeAll_get]
  cases h : H[i]? with
  | none => rfl
  | some e =>
    simp only [Option.map_some, List.mem_filter, List.mem_range, lt_of_get h, true_and]

theorem Sim.freezeP (hs : Sim S m I X w H) (p : Nat → Bool) : ∃ I' : Nat → Prop, Sim S m I' X w (freezeP p H) ∧ ∀ b, I b → I' b := by
  rw [freezeP_eq]; exact freezeAll_sound _ hs

def derefN (H : List Entry) : Nat → AV → AV
  | 0, v => v
  | k + 1, v => match v with
    | .own id ver lo hi => (match H[id]? with
      | some (.frz _ u xs) => if u = ver ∧ hi ≤ xs.length then .list false (((xs.take hi).drop lo).map (derefN H k)) else .own id ver lo hi
      | _ => .own id ver lo hi)
    | .list _ xs => .list false (xs.map (derefN H k))
    | .agg cs => .agg (cs.map (derefN H k))
    | .tup vs => .tup (vs.map (derefN H k))
    | v => v

theorem derefN_cells (H : List Entry) : ∀ (k : Nat) (x : AV), (derefN H k x).cells.length = x.cells.length ∧
    ∀ (j : Nat) (y : AV), (derefN H k x).cells[j]? = some y → ∃ y0 k', x.cells[j]? = some y0 ∧ k' ≤ k ∧ y = derefN H k' y0
  | 0, x => ⟨rfl, fun j y h => ⟨y, 0, h, Nat.le_refl _, rfl⟩⟩
  | k + 1, x => by
    cases x with
    | agg cs =>
      refine ⟨by simp [derefN, AV.cells], fun j y h => ?_⟩
      simp only [derefN, AV.cells, List.getElem?_map] at h
      cases hc : cs[j]? with
      | none => rw [hc] at h; cases h
      | some y0 => rw [hc] at h; cases h; exact ⟨y0, k, hc, by omega, rfl⟩
    | own id ver lo hi =>
      have e : (derefN H (k + 1) (.own id ver lo hi)).cells = [derefN H (k + 1) (.own id ver lo hi)] := by
        simp only [derefN]
        (repeat' split) <;> rfl
      rw [e]
      refine ⟨rfl, fun j y h => ?_⟩
      cases j with
      | zero => cases h; exact ⟨_, k + 1, rfl, Nat.le_refl _, rfl⟩
      | succ j => simp at h
    | _ =>
      refine ⟨rfl, fun j y h => ?_⟩
      cases j with
      | zero => cases h; exact ⟨_, k + 1, rfl, Nat.le_refl _, rfl⟩
      | succ j => simp [derefN, AV.cells] at h

theorem derefN_sound (hs : Sim S m I X w H) : ∀ (k : Nat) {x : AV} {v : Value}, Rel S m I w x v → Rel S m I w (derefN H k x) v := by
  intro k
  induction k using Nat.strongRecOn with
  | _ k ih =>
    have elems : ∀ {k' : Nat} {xs : List AV} {b off n c sz : Nat} {t : Bool} {rd : Nat → Nat → Value}, k' < k → xs.length = n → n ≤ c → c ≤ 9223372036854775807 → (t = true → c = n) → I b →
        (∀ x ∈ xs, x.cells.length = sz) → (∀ (i : Nat) (x : AV), xs[i]? = some x → ∀ (j : Nat) (y : AV), x.cells[j]? = some y → w.cell? ⟨b, off + i * sz + j, none⟩ = some (rd i j)) →
        (∀ (i : Nat) (x : AV), xs[i]? = some x → ∀ (j : Nat) (y : AV), x.cells[j]? = some y → Rel S m I w y (rd i j)) → Rel S m I w (.list false (xs.map (derefN H k'))) (.slice (some ⟨b, off, none⟩) n c) := by
      intro k' xs b off n c sz t rd hk hn hnc hcm ht hI hsz hc hr
      refine .list false _ b off n c sz rd (by simpa using hn) hnc hcm (by simp) hI (fun x hx => ?_) (fun i x hx j y hy => ?_) (fun i x hx j y hy => ?_)
      · obtain ⟨x0, hx0, rfl⟩ := List.mem_map.1 hx
        rw [(derefN_cells H k' x0).1]; exact hsz x0 hx0
      · rw [List.getElem?_map] at hx
        cases hx0 : xs[i]? with
        | none => rw [hx0] at hx; cases hx
        | some x0 =>
          rw [hx0] at hx; cases hx
          obtain ⟨y0, k'', hy0, _, rfl⟩ := (derefN_cells H k' x0).2 j y hy
          exact hc i x0 hx0 j y0 hy0
      · rw [List.getElem?_map] at hx
        cases hx0 : xs[i]? with
        | none => rw [hx0] at hx; cases hx
        | some x0 =>
          rw [hx0] at hx; cases hx
          obtain ⟨y0, k'', hy0, hk'', rfl⟩ := (derefN_cells H k' x0).2 j y hy
          exact ih k'' (by omega) (hr i x0 hx0 j y0 hy0)
    intro x v h
    cases k with
    | zero => exact h
    | succ k =>
    cases x with
    | own id ver lo hi =>
      simp only [derefN]
      split
      · rename_i sz u xs hH
        split
        · rename_i hc
          have h1 : Rel S m I w (.list false ((xs.take hi).drop lo)) v := by
            have := deref1_sound hs h
            simp only [deref1, hH, if_pos hc] at this
            exact this
          generalize (xs.take hi).drop lo = ys at h1 ⊢
          cases h1 with
          | empty _ a c ht hc => exact .empty false a c (by simp) hc
          | list _ _ b off n c sz rd hn hnc hcm ht hI hsz hc hr => exact elems (t := false) (Nat.lt_succ_self k) hn hnc hcm (by simp) hI hsz hc hr
        · exact h
      · exact h
    | list t xs =>
      simp only [derefN]
      cases h with
      | empty _ a c ht hc => exact .empty false a c (by simp) hc
      | list _ _ b off n c sz rd hn hnc hcm ht hI hsz hc hr => exact elems (t := t) (Nat.lt_succ_self k) hn hnc hcm ht hI hsz hc hr
    | agg cs =>
      simp only [derefN]
      cases h with
      | agg _ vs hsz h =>
        refine .agg _ _ (by simpa using hsz) (fun i x hx => ?_)
        rw [List.getElem?_map] at hx
        cases hc : cs[i]? with
        | none => rw [hc] at hx; cases hx
        | some y => rw [hc] at hx; cases hx; exact ih k (Nat.lt_succ_self k) (h i y hc)
    | tup cs =>
      simp only [derefN]
      cases h with
      | tup _ vs hsz h =>
        refine .tup _ _ (by simpa using hsz) (fun i x hx => ?_)
        rw [List.getElem?_map] at hx
        cases hc : cs[i]? with
        | none => rw [hc] at hx; cases hx
        | some y => rw [hc] at hx; cases hx; exact ih k (Nat.lt_succ_self k) (h i y hc)
    | _ => exact h

theorem Pure.idb {x : AV} (h : Pure x) (n : Nat) : Idb n x := by
  induction h with
  | bool b => exact .bool b
  | anybool => exact .anybool
  | undef => exact .undef
  | int k i => exact .int k i
  | str s => exact .str s
  | list t xs h ih => exact .list t xs ih
  | agg cs h ih => exact .agg cs ih
  | tup cs h ih => exact .tup cs ih
  | nilptr => exact .nilptr
  | func c a b h1 h2 i1 i2 => exact .func c a b i1 i2
  | nilfunc => exact .nilfunc
  | iface t v h ih => exact .iface t v ih
  | nilIface => exact .nilIface

def fresh (n : Nat) : Nat → Bool := fun i => decide (n ≤ i)

theorem freezeP_fresh_take {n : Nat} (H : List Entry) : (freezeP (fresh n) H).take n = H.take n := by
  apply List.ext_getElem?
  intro i
  rw [List.getElem?_take, List.getElem?_take]
  split
  · rename_i hi
    rw [freezeP_get]
    have : fresh n i = false := by simp [fresh]; omega
    cases H[i]? <;> simp [this]
  · rfl

theorem ACall.out {c : Nat} {args : List AV} {R R' : AV → List Entry → Prop} (k : Nat) (h : ACall S c args H R)
    (hR : ∀ r H', R r H' → H'.take H.length = H ∧ Idb H.length (derefN (freezeP (fresh H.length) H') k r) ∧ R' (derefN (freezeP (fresh H.length) H') k r) H) : ACall S c args H R' := by
  intro m I X w vs hs hv
  refine (h m I X w vs hs hv).mono ?_
  rintro e w' ⟨r, H', vv, m', I', h1, h2, h3, h4, h5, h6, h7⟩
  obtain ⟨p1, p2, p3⟩ := hR r H' h2
  obtain ⟨I2, hs2, hI2⟩ := h4.freezeP (fresh H.length)
  have hrel := derefN_sound hs2 k (h3.mono (.refl m') hI2 (fun _ _ => rfl))
  have ht := hs2.take (n := H.length) (fun id e hid he => by
    have e1 : H[id]? = some e := by
      rw [← p1, ← freezeP_fresh_take, get_take hid]; exact he
    have := (hs.hok id e e1).entB
    rwa [hs.len] at this)
  rw [freezeP_fresh_take, p1] at ht
  exact ⟨_, H, vv, m'.take H.length, I2, h1, p3, hrel.take p2, ht, h5.take (by rw [hs.len]; exact Nat.le_refl _), fun b hb => hI2 b (h6 b hb), h7⟩

theorem ACall.outOwn {c : Nat} {args : List AV} {R R' : AV → List Entry → Prop} (k : Nat) (h : ACall S c args H R)
    (hR : ∀ r H', R r H' → H'.take H.length = H ∧ ∃ id ver sz xs, r = .own id ver 0 xs.length ∧ H.length ≤ id ∧ H'[id]? = some (.arr sz ver xs) ∧
      (∀ x ∈ xs, ∀ y ∈ (derefN (freezeP (fun i => decide (H.length ≤ i) && i != id) H') k x).cells, Idb H.length y) ∧
      R' (.own H.length 0 0 xs.length) (H ++ [.arr sz 0 (xs.map (derefN (freezeP (fun i => decide (H.length ≤ i) && i != id) H') k))])) : ACall S c args H R' := by
  intro m I X w vs hs hv
  refine (h m I X w vs hs hv).mono ?_
  rintro e w' ⟨r, H', vv, m', I', h1, h2, h3, h4, h5, h6, h7⟩
  obtain ⟨p1, id, ver, sz, xs, rfl, p3, p4, p5, p6⟩ := hR r H' h2
  obtain ⟨I2, hs2, hI2⟩ := h4.freezeP (fun i => decide (H.length ≤ i) && i != id)
  have hH2 : (freezeP (fun i => decide (H.length ≤ i) && i != id) H')[id]? = some (.arr sz ver xs) := by rw [freezeP_get, p4]; simp
  have htk : (freezeP (fun i => decide (H.length ≤ i) && i != id) H').take H.length = H := by
    refine Eq.trans ?_ p1
    apply List.ext_getElem?
    intro i
    rw [List.getElem?_take, List.getElem?_take]
    split
    · rename_i hi
      rw [freezeP_get]
      have : decide (H.length ≤ i) = false := by simp; omega
      cases H'[i]? <;> simp [this]
    · rfl
  generalize hHf : freezeP (fun i => decide (H.length ≤ i) && i != id) H' = Hf at *
  obtain ⟨g, hg, hrow⟩ := hs2.hok id _ hH2
  have hbig : m'.take H.length = m'.take H.length := rfl
  have ht := hs2.take (n := H.length) (fun j e hj he => by
    have e1 : H[j]? = some e := by rw [← htk, get_take hj]; exact he
    have := (hs.hok j e e1).entB
    rwa [hs.len] at this)
  rw [htk] at ht
  have hlen : (m'.take H.length).length = H.length := ht.len
  let g' : ME := { g with ver := 0 }
  have hrel := h3.mono (.refl m') hI2 (fun _ _ => rfl)
  obtain ⟨r1, r0, r2, r3, r4, r5⟩ := hrow
  have hmg : (m'.take H.length ++ [g'])[H.length]? = some g' := by
    rw [List.getElem?_append_right (by omega), hlen, Nat.sub_self]; rfl
  have hle : MLe (m'.take H.length) (m'.take H.length ++ [g']) := MLe.push _ _
  have hcont : ∀ (i : Nat) (x : AV), (xs.map (derefN Hf k))[i]? = some x → ∀ (j : Nat) (y : AV), x.cells[j]? = some y → ∃ x0 y0 k', xs[i]? = some x0 ∧ x0.cells[j]? = some y0 ∧ y = derefN Hf k' y0 ∧ Idb H.length y := by
    intro i x hx j y hy
    rw [List.getElem?_map] at hx
    cases hx0 : xs[i]? with
    | none => rw [hx0] at hx; cases hx
    | some x0 =>
      rw [hx0] at hx; cases hx
      obtain ⟨y0, k'', hy0, _, hyy⟩ := (derefN_cells Hf k x0).2 j y hy
      exact ⟨x0, y0, k'', rfl, hy0, hyy, p5 x0 (List.mem_of_getElem? hx0) y (List.mem_of_getElem? hy)⟩
  have hrow' : RowOk S (m'.take H.length ++ [g']) I2 w' g' sz 0 (xs.map (derefN Hf k)) := by
    refine ⟨rfl, r0, by simpa using r2, r3, fun x hx => ?_, ?_⟩
    · obtain ⟨x0, hx0, rfl⟩ := List.mem_map.1 hx
      rw [(derefN_cells Hf k x0).1]; exact r4 x0 hx0
    · rcases r5 with r5 | ⟨r5, arr, T, ha, hsz, hc⟩
      · exact .inl r5
      · refine .inr ⟨r5, arr, T, ha, hsz, fun i x hx j y hy => ?_⟩
        obtain ⟨x0, y0, k', hx0, hy0, rfl, hidb⟩ := hcont i x hx j y hy
        exact ((derefN_sound hs2 k' (hc i x0 hx0 j y0 hy0)).take hidb).mono hle (fun _ hb => hb) (fun _ _ => rfl)
  have hsim : Sim S (m'.take H.length ++ [g']) I2 X w' (H ++ [.arr sz 0 (xs.map (derefN Hf k))]) := by
    have keyH : ∀ {j : Nat} {e : Entry}, H[j]? = some e → Hf[j]? = some e ∧ j < H.length := by
      intro j e hj
      have hlt := lt_of_get hj
      rw [← htk, get_take hlt] at hj; exact ⟨hj, hlt⟩
    have keym : ∀ {j : Nat} {g1 : ME}, j < H.length → (m'.take H.length ++ [g'])[j]? = some g1 → m'[j]? = some g1 := by
      intro j g1 hj hg1
      rw [List.getElem?_append_left (by omega), get_take hj] at hg1; exact hg1
    refine ⟨by simp [hlen], fun j e he => ?_, fun j e g1 he hl hg1 hn => ?_, fun j j' e e' g1 g2 he hl he' hl' hg1 hg2 hn1 hn2 hb => ?_, ht.lt, ht.disj, ht.gl⟩
    · rcases getElem?_push_cases he with ⟨he, hlt⟩ | ⟨rfl, rfl⟩
      · exact (ht.hok j e he).keep hle (fun _ hb => hb) (fun _ _ => rfl) (List.getElem?_append_left (by omega)) (fun _ _ _ _ => rfl)
      · exact ⟨g', hmg, hrow'⟩
    · rcases getElem?_push_cases he with ⟨he, hlt⟩ | ⟨rfl, rfl⟩
      · exact hs2.sep j e g1 (keyH he).1 hl (keym hlt hg1) hn
      · rw [hmg] at hg1; cases hg1
        exact hs2.sep id _ g hH2 rfl hg hn
    · rcases getElem?_push_cases he with ⟨k1, l1⟩ | ⟨i1, x1⟩
      · rcases getElem?_push_cases he' with ⟨k2, l2⟩ | ⟨i2, x2⟩
        · exact hs2.inj j j' e e' g1 g2 (keyH k1).1 hl (keyH k2).1 hl' (keym l1 hg1) (keym l2 hg2) hn1 hn2 hb
        · subst i2
          rw [hmg] at hg2; cases hg2
          have := hs2.inj j id e _ g1 g (keyH k1).1 hl hH2 rfl (keym l1 hg1) hg hn1 hn2 hb
          omega
      · subst i1
        rw [hmg] at hg1; cases hg1
        rcases getElem?_push_cases he' with ⟨k2, l2⟩ | ⟨i2, x2⟩
        · have := hs2.inj id j' _ e' g g2 hH2 rfl (keyH k2).1 hl' hg (keym l2 hg2) hn1 hn2 hb
          omega
        · exact i2.symm
  refine ⟨_, _, vv, _, I2, h1, p6, ?_, hsim, (h5.take (by rw [hs.len]; exact Nat.le_refl _)).trans hle, fun b hb => hI2 b (h6 b hb), h7⟩
  cases hrel with
  | own _ _ _ _ e2 _ he2 hver hrel =>
    rw [hg] at he2; cases he2
    exact .own _ _ _ _ g' _ hmg (Nat.le_refl _) (fun _ => hrel r1.symm)

/-! ### Steps that change nothing but what is known -/
theorem WP.ghost {r : Option Nat} {N b : Nat} {ic : IC} {Q : Exit → St → Prop} {st st' : St}
    (hg : ∀ (m : List ME) (I X : Nat → Prop) (w : World) (n0 : Nat) (a : Act), Sim S m I X w st.H → Fr S m I X w n0 N st.env a → ∃ m' I', MLe m m' ∧ (∀ b, I b → I' b) ∧ Sim S m' I' X w st'.H ∧ Fr S m' I' X w n0 N st'.env a)
    (h : WP S r N b ic Q st') : WP S r N b ic Q st := by
  intro c hc m0 I0 X0 w0 m I X w a hb0 hf hs hfr
  obtain ⟨m', I', hm, hI, hs', hfr'⟩ := hg m I X w _ a hs hfr
  exact h c hc m0 I0 X0 w0 m' I' X w a hb0 (hf.step hm hI (fun _ hb => hb) (.refl I X w)) hs' hfr'

theorem Fr.upd_rel {n0 N : Nat} {env : Env} {a : Act} (h : Fr S m I X w n0 N env a) {d : Nat} {x : AV} (hx : Rel S m I w x (a.tmps.getD d undef)) : Fr S m I X w n0 N (upd env d x) a := by
  refine ⟨fun j => ?_, h.size, h.marks⟩
  simp only [upd]
  split
  · rename_i hj; subst hj; exact hx
  · exact h.env j

theorem WP.adopt {r : Option Nat} {N b : Nat} {ic : IC} {Q : Exit → St → Prop} {env : Env} (d sz : Nat) (hd : env d = .list true [])
    (h : WP S r N b ic Q ⟨upd env d (.own H.length 0 0 0), H ++ [.arr sz 0 []]⟩) : WP S r N b ic Q ⟨env, H⟩ := by
  refine WP.ghost ?_ h
  intro m I X w n0 a hs hfr
  have hle := MLe.push m ⟨0, 0, sz, 0, true⟩
  have hget : (m ++ [(⟨0, 0, sz, 0, true⟩ : ME)])[H.length]? = some ⟨0, 0, sz, 0, true⟩ := by
    rw [← hs.len, List.getElem?_append_right (Nat.le_refl _), Nat.sub_self]; rfl
  refine ⟨m ++ [⟨0, 0, sz, 0, true⟩], I, hle, fun _ hb => hb, ?_, ?_⟩
  · exact hs.push (fun _ _ => rfl) (Nat.le_refl _) (by simp) ⟨_, hget, rfl, rfl, by simp, by simp, by simp, .inl ⟨rfl, rfl⟩⟩
  · refine (hfr.mono hle (fun _ hb => hb) (.refl I X w)).upd_rel ?_
    have this : Rel S m I w (env d) (a.tmps.getD d undef) := hfr.env d
    rw [hd] at this
    generalize a.tmps.getD d undef = v at this
    cases this with
    | empty _ a c ht hc =>
      have := ht rfl
      subst this
      exact .own _ _ _ _ _ _ hget (Nat.le_refl _) (fun _ => ⟨Nat.le_refl _, by simp, .inl ⟨rfl, rfl, a, rfl⟩⟩)
    | list _ _ b off n c sz rd hn hnc hcm ht hI hsz hc hr =>
      simp at hn; subst hn
      have := ht rfl
      subst this
      exact .own _ _ _ _ _ _ hget (Nat.le_refl _) (fun _ => ⟨Nat.le_refl _, by simp, .inl ⟨rfl, rfl, _, rfl⟩⟩)

theorem WP.freeze {r : Option Nat} {N b : Nat} {ic : IC} {Q : Exit → St → Prop} {env : Env} (p : Nat → Bool)
    (h : WP S r N b ic Q ⟨env, freezeP p H⟩) : WP S r N b ic Q ⟨env, H⟩ := by
  refine WP.ghost ?_ h
  intro m I X w n0 a hs hfr
  obtain ⟨I', hs', hI⟩ := hs.freezeP p
  exact ⟨m, I', .refl m, hI, hs', hfr.mono (.refl m) hI (.refl I X w)⟩

theorem WP.deref {r : Option Nat} {N b : Nat} {ic : IC} {Q : Exit → St → Prop} {env : Env} (d k : Nat)
    (h : WP S r N b ic Q ⟨upd env d (derefN H k (env d)), H⟩) : WP S r N b ic Q ⟨env, H⟩ := by
  refine WP.ghost ?_ h
  intro m I X w n0 a hs hfr
  exact ⟨m, I, .refl m, fun _ hb => hb, hs, hfr.upd_rel (derefN_sound hs k (hfr.env d))⟩

end Go.Proofs.YtihhinbjhiankaaGreatDoor.Al

/- LENDING: a call to which rows are shown that are written later on. -/
namespace Go.Proofs.YtihhinbjhiankaaGreatDoor.Al
open Go
variable {S : Seat} {m m0 : List ME} {I I0 X X0 : Nat → Prop} {w w0 : World} {H : List Entry}

def Lives (m : List ME) (H : List Entry) (b : Nat) : Prop := ∃ (id : Nat) (e : Entry) (g : ME), H[id]? = some e ∧ e.live = true ∧ m[id]? = some g ∧ g.nilrow = false ∧ g.blk = b

theorem Sim.same {w' : World} (hs : Sim S m I X w H) (hw : ∀ b, I b ∨ X b ∨ Lives m H b → w'.heap[b]? = w.heap[b]?) (hsz : w.heap.size ≤ w'.heap.size) : Sim S m I X w' H :=
  ⟨hs.len, fun id e he => (hs.hok id e he).keep (.refl m) (fun _ hb => hb) (fun b hb => hw b (.inl hb)) rfl (fun g hg hn hl => hw _ (.inr (.inr ⟨id, e, g, he, hl, hg, hn, rfl⟩))),
   hs.sep, hs.inj, fun b hb => Nat.lt_of_lt_of_le (hs.lt b hb) hsz, hs.disj, hs.gl.mono (fun _ hb => hb) fun b hb => hw b (.inl hb)⟩

theorem Sim.add (hs : Sim S m I X w H) {g : ME} {e : Entry} (hok : HOk S (m ++ [g]) I w H.length e) (h1 : g.nilrow = false → ¬ I g.blk ∧ ¬ X g.blk ∧ ¬ Lives m H g.blk) : Sim S (m ++ [g]) I X w (H ++ [e]) := by
  have hle := MLe.push m g
  have hmg : (m ++ [g])[H.length]? = some g := by rw [← hs.len, List.getElem?_append_right (Nat.le_refl _), Nat.sub_self]; rfl
  have keym : ∀ {j : Nat} {g1 : ME}, j < H.length → (m ++ [g])[j]? = some g1 → m[j]? = some g1 := by
    intro j g1 hj hg1
    rwa [List.getElem?_append_left (by rw [hs.len]; exact hj)] at hg1
  refine ⟨by simp [hs.len], fun j e he => ?_, fun j e g1 he hl hg1 hn => ?_, fun j j' e e' g1 g2 he hl he' hl' hg1 hg2 hn1 hn2 hb => ?_, hs.lt, hs.disj, hs.gl⟩
  · rcases getElem?_push_cases he with ⟨he, hlt⟩ | ⟨rfl, rfl⟩
    · exact (hs.hok j e he).keep hle (fun _ hb => hb) (fun _ _ => rfl) (List.getElem?_append_left (by rw [hs.len]; exact hlt)) (fun _ _ _ _ => rfl)
    · exact hok
  · rcases getElem?_push_cases he with ⟨he, hlt⟩ | ⟨rfl, rfl⟩
    · exact hs.sep j e g1 he hl (keym hlt hg1) hn
    · rw [hmg] at hg1; cases hg1
      exact ⟨(h1 hn).1, (h1 hn).2.1⟩
  · rcases getElem?_push_cases he with ⟨k1, l1⟩ | ⟨i1, x1⟩
    · rcases getElem?_push_cases he' with ⟨k2, l2⟩ | ⟨i2, x2⟩
      · exact hs.inj j j' e e' g1 g2 k1 hl k2 hl' (keym l1 hg1) (keym l2 hg2) hn1 hn2 hb
      · subst i2
        rw [hmg] at hg2; cases hg2
        exact absurd ⟨j, e, g1, k1, hl, keym l1 hg1, hn1, hb⟩ (h1 hn2).2.2
    · subst i1
      rw [hmg] at hg1; cases hg1
      rcases getElem?_push_cases he' with ⟨k2, l2⟩ | ⟨i2, x2⟩
      · exact absurd ⟨j', e', g2, k2, hl', keym l2 hg2, hn2, hb.symm⟩ (h1 hn1).2.2
      · exact i2.symm

def all : Nat → Bool := fun _ => true

theorem lend_sound (hs : Sim S m I X w H) : ∃ I1 X1 : Nat → Prop, Sim S m I1 X w (freezeP all H) ∧ Sim S m I1 X1 w (List.replicate H.length .dead) ∧ (∀ b, I b → I1 b) ∧ (∀ b, X b → X1 b) ∧ (∀ b, Lives m H b → I1 b ∨ X1 b) := by
  obtain ⟨I1, hs1, hI⟩ := hs.freezeP all
  refine ⟨I1, fun b => X b ∨ Lives m (freezeP all H) b, hs1, ?_, hI, fun _ hb => .inl hb, ?_⟩
  · have dead : ∀ {id : Nat} {e : Entry}, (List.replicate H.length Entry.dead)[id]? = some e → e = .dead := by
      intro id e he
      rw [List.getElem?_replicate] at he
      split at he
      · cases he; rfl
      · cases he
    refine ⟨by rw [List.length_replicate]; exact hs.len, fun id e he => ?_, fun id e g he hl => ?_, fun id id' e e' g g' he hl => ?_, fun b hb => ?_, fun b hi hx => ?_, hs1.gl⟩
    · rw [dead he]; trivial
    · rw [dead he] at hl; cases hl
    · rw [dead he] at hl; cases hl
    · rcases hb with hb | hb | ⟨id, e, g, he, hl, hg, hn, rfl⟩
      · exact hs1.lt b (.inl hb)
      · exact hs1.lt b (.inr hb)
      · exact hs1.blk_lt he hl hg hn
    · rcases hx with hx | ⟨id, e, g, he, hl, hg, hn, rfl⟩
      · exact hs1.disj b hi hx
      · exact (hs1.sep id e g he hl hg hn).1 hi
  · rintro b ⟨id, e, g, he, hl, hg, hn, rfl⟩
    have he1 : (freezeP all H)[id]? = some e.frzE := by rw [freezeP_get, he]; rfl
    cases e with
    | dead => cases hl
    | frz s v xs => cases hl
    | loop L => exact .inr (.inr ⟨id, _, g, he1, rfl, hg, hn, rfl⟩)
    | box cs => exact .inr (.inr ⟨id, _, g, he1, rfl, hg, hn, rfl⟩)
    | arr s v xs =>
      obtain ⟨g', hg', _, hi⟩ := hs1.hok id _ he1
      rw [hg] at hg'; cases hg'
      exact .inl (hi hn)

def canon (H : List Entry) (k : Nat) (x : AV) : AV := derefN (freezeP all H) k x

theorem canon_rels (hs1 : Sim S m I X w (freezeP all H)) {I0 : Nat → Prop} (hI : ∀ b, I0 b → I b) {args : List AV} {vs : Array Value} (hv : Rels S m I0 w args vs) (k : Nat) : Rels S m I w (args.map (canon H k)) vs := by
  refine ⟨by simpa using hv.1, fun i x hx => ?_⟩
  rw [List.getElem?_map] at hx
  cases hc : args[i]? with
  | none => rw [hc] at hx; cases hx
  | some y => rw [hc] at hx; cases hx; exact derefN_sound hs1 k ((hv.2 i y hc).mono (.refl m) hI (fun _ _ => rfl))

theorem ACall.lend {c : Nat} {args : List AV} {r : AV} (k : Nat) (h : Fun S c (args.map (canon H k)) r) (hp : Plain r) : ACall S c args H fun r' H' => r' = r ∧ H' = H := by
  intro m I X w vs hs hv
  obtain ⟨I1, X1, hs1, hs2, hI, hX, hL⟩ := lend_sound hs
  refine (h _ m I1 X1 w vs hs2 (canon_rels hs1 hI hv k)).mono ?_
  rintro e w' ⟨r', H', vv, m', I', h1, ⟨rfl, _⟩, h3, h4, h5, h6, h7⟩
  have hkeep : ∀ b, I b ∨ X b ∨ Lives m H b → w'.heap[b]? = w.heap[b]? := fun b hb => h7.keep b (by
    rcases hb with hb | hb | hb
    · exact .inl (hI b hb)
    · exact .inr (hX b hb)
    · exact hL b hb)
  exact ⟨r', H, vv, m, I, h1, ⟨rfl, rfl⟩, h3.plain hp, hs.same hkeep h7.size, .refl m, fun _ hb => hb, ⟨h7.os, h7.tape, h7.output, h7.size, fun b hb => hkeep b (hb.imp id .inl)⟩⟩

theorem ACall.lendOwn {c : Nat} {args : List AV} {sz : Nat} {xs : List AV} (k : Nat) (h : FunOwn S c (args.map (canon H k)) sz xs) (hp : ∀ x ∈ xs, ∀ y ∈ x.cells, Plain y) :
    ACall S c args H fun r' H' => r' = .own H.length 0 0 xs.length ∧ H' = H ++ [.arr sz 0 xs] := by
  intro m I X w vs hs hv
  obtain ⟨I1, X1, hs1, hs2, hI, hX, hL⟩ := lend_sound hs
  refine (h _ m I1 X1 w vs hs2 (canon_rels hs1 hI hv k)).mono ?_
  rintro e w' ⟨r', H', vv, m', I', h1, ⟨rfl, rfl⟩, h3, h4, h5, h6, h7⟩
  have hkeep : ∀ b, I b ∨ X b ∨ Lives m H b → w'.heap[b]? = w.heap[b]? := fun b hb => h7.keep b (by
    rcases hb with hb | hb | hb
    · exact .inl (hI b hb)
    · exact .inr (hX b hb)
    · exact hL b hb)
  rw [List.length_replicate] at h3
  have hent : (List.replicate H.length Entry.dead ++ [.arr sz 0 xs])[H.length]? = some (.arr sz 0 xs) := by
    rw [List.getElem?_append_right (by simp)]; simp
  obtain ⟨g, hg, hrow⟩ := h4.hok _ _ hent
  obtain ⟨r1, r0, r2, r3, r4, r5⟩ := hrow
  have hmg : (m ++ [g])[H.length]? = some g := by rw [← hs.len, List.getElem?_append_right (Nat.le_refl _), Nat.sub_self]; rfl
  refine ⟨_, _, vv, m ++ [g], I, h1, ⟨rfl, rfl⟩, ?_, (hs.same hkeep h7.size).add ?_ ?_, MLe.push m g, fun _ hb => hb, ⟨h7.os, h7.tape, h7.output, h7.size, fun b hb => hkeep b (hb.imp id .inl)⟩⟩
  · cases h3 with
    | own _ _ _ _ e2 _ he2 hver hrel =>
      rw [hg] at he2; cases he2
      exact .own _ _ _ _ g _ hmg hver hrel
  · refine ⟨g, hmg, r1, r0, r2, r3, r4, ?_⟩
    rcases r5 with r5 | ⟨r5, arr, T, ha, hsz, hc⟩
    · exact .inl r5
    · exact .inr ⟨r5, arr, T, ha, hsz, fun i x hx j y hy => (hc i x hx j y hy).plain (hp x (List.mem_of_getElem? hx) y (List.mem_of_getElem? hy))⟩
  · intro hn
    obtain ⟨n1, n2⟩ := h4.sep _ _ g hent rfl hg hn
    refine ⟨fun hi => n1 (h6 _ (hI _ hi)), fun hx => n2 (hX _ hx), fun hl => ?_⟩
    rcases hL _ hl with hl | hl
    · exact n1 (h6 _ hl)
    · exact n2 hl

theorem ACall.frzN {c : Nat} {args : List AV} {R : AV → List Entry → Prop} (p : Nat → Bool) (k : Nat) (h : ACall S c (args.map (derefN (freezeP p H) k)) (freezeP p H) R) : ACall S c args H R := by
  intro m I X w vs hs hv
  obtain ⟨I', hs', hI⟩ := hs.freezeP p
  have hv' : Rels S m I' w (args.map (derefN (freezeP p H) k)) vs := by
    refine ⟨by simpa using hv.1, fun i x hx => ?_⟩
    rw [List.getElem?_map] at hx
    cases hc : args[i]? with
    | none => rw [hc] at hx; cases hx
    | some y => rw [hc] at hx; cases hx; exact derefN_sound hs' k ((hv.2 i y hc).mono (.refl m) hI (fun _ _ => rfl))
  refine (h m I' X w vs hs' hv').mono ?_
  rintro e w' ⟨r, H', vv, m', I2, h1, h2, h3, h4, h5, h6, h7⟩
  exact ⟨r, H', vv, m', I2, h1, h2, h3, h4, h5, fun b hb => h6 b (hI b hb), ⟨h7.os, h7.tape, h7.output, h7.size, fun b hb => h7.keep b (hb.imp (hI b) id)⟩⟩

end Go.Proofs.YtihhinbjhiankaaGreatDoor.Al
