/-
  JOINED: A1, A2, A3, A4, A5, A6, A7, A8, A9
-/
import Derived.Test.YtihhinbjhiankaaGreatDoorProg
import Derived.WalkKit
import Derived.RangeFuncRecord
import Derived.RangeFuncCalls
import Derived.Laws.AppendOwn
import Derived.Laws.MakeOwn
import Derived.KernelRfl
import Derived.Laws.BytesString
set_option linter.unusedSimpArgs false
set_option linter.unusedVariables false
/- THE ABSTRACT VALUES, and how values of the machine are told by them: lists for slices that nobody writes any more, owned arrays, boxes. -/
namespace Go.Proofs.YtihhinbjhiankaaGreatDoor.Al
open Go

inductive AFn where
  | f (c : Nat)
  | y (id : Nat)

inductive AV where
  | undef
  | bool (b : Bool)
  | anybool
  | int (k : IntKind) (n : Int)
  | str (s : List UInt8)
  | list (tight : Bool) (xs : List AV)
  | own (id ver lo hi : Nat)
  | agg (cs : List AV)
  | tup (vs : List AV)
  | ptr (id off : Nat)
  | eptr (id ver i off : Nat)
  | iptr (cs : List AV) (off : Nat)
  | nilptr
  | func (fn : AFn) (first captured : List AV)
  | nilfunc
  | iface (t : Nat) (v : AV)
  | nilIface
  | map (id : Nat)

def AV.cells : AV → List AV
  | .agg cs => cs
  | v => [v]

structure ME where
  ver : Nat
  blk : Nat
  sz : Nat
  cap : Nat
  nilrow : Bool

def MLe (m m' : List ME) : Prop := ∀ (id : Nat) (e : ME), m[id]? = some e → ∃ e', m'[id]? = some e' ∧ (e' = e ∨ e.ver < e'.ver)

theorem MLe.refl (m : List ME) : MLe m m := fun _ e h => ⟨e, h, .inl rfl⟩
theorem MLe.trans {a b c : List ME} (h : MLe a b) (k : MLe b c) : MLe a c := fun id e he => by
  obtain ⟨e1, h1, h2⟩ := h id e he
  obtain ⟨e2, h3, h4⟩ := k id e1 h1
  refine ⟨e2, h3, ?_⟩
  rcases h2 with rfl | h2 <;> rcases h4 with rfl | h4
  · exact .inl rfl
  · exact .inr h4
  · exact .inr h2
  · exact .inr (Nat.lt_trans h2 h4)

structure Seat where
  P : Program
  fn : Nat → Nat
  ty : Nat → Nat
  cf : Nat → Nat
  ct : Nat → Nat
  gl : List (Nat × List Nat)

def fnOf (S : Seat) (m : List ME) : AFn → Fn → Prop
  | .f c, g => g = .func (S.fn c)
  | .y id, g => ∃ e, m[id]? = some e ∧ (e.ver = 0 → g = .yield e.blk)

inductive Rel (S : Seat) (m : List ME) (I : Nat → Prop) (w : World) : AV → Value → Prop
  | undef (v : Value) : Rel S m I w .undef v
  | bool (b : Bool) : Rel S m I w (.bool b) (.bool b)
  | anybool (b : Bool) : Rel S m I w .anybool (.bool b)
  | int (k : IntKind) (n : Int) : Rel S m I w (.int k n) (.int k n)
  | str (s : List UInt8) : Rel S m I w (.str s) (.string ⟨s.toArray⟩)
  | empty (t : Bool) (a : Option Addr) (c : Nat) (ht : t = true → c = 0) (hc : c ≤ 9223372036854775807) : Rel S m I w (.list t []) (.slice a 0 c)
  | list (t : Bool) (xs : List AV) (b off n c sz : Nat) (rd : Nat → Nat → Value) (hn : xs.length = n) (hnc : n ≤ c) (hcm : c ≤ 9223372036854775807) (ht : t = true → c = n) (hI : I b)
      (hsz : ∀ x ∈ xs, x.cells.length = sz)
      (hc : ∀ i x, xs[i]? = some x → ∀ j y, x.cells[j]? = some y → w.cell? ⟨b, off + i * sz + j, none⟩ = some (rd i j))
      (hr : ∀ i x, xs[i]? = some x → ∀ j y, x.cells[j]? = some y → Rel S m I w y (rd i j)) : Rel S m I w (.list t xs) (.slice (some ⟨b, off, none⟩) n c)
  | own (id ver lo hi : Nat) (e : ME) (v : Value) (he : m[id]? = some e) (hv : ver ≤ e.ver)
      (h : ver = e.ver → lo ≤ hi ∧ hi ≤ e.cap ∧ ((e.nilrow = true ∧ e.cap = 0 ∧ ∃ a, v = .slice a 0 0) ∨
        (e.nilrow = false ∧ ∃ off, v = .slice (some ⟨e.blk, off, none⟩) (hi - lo) (e.cap - lo) ∧ (lo < e.cap → off = lo * e.sz)))) : Rel S m I w (.own id ver lo hi) v
  | agg (cs : List AV) (vs : Array Value) (hs : vs.size = cs.length) (h : ∀ i x, cs[i]? = some x → Rel S m I w x (vs.getD i undef)) : Rel S m I w (.agg cs) (.agg vs)
  | tup (cs : List AV) (vs : Array Value) (hs : vs.size = cs.length) (h : ∀ i x, cs[i]? = some x → Rel S m I w x (vs.getD i undef)) : Rel S m I w (.tup cs) (.tuple vs)
  | ptr (id off : Nat) (e : ME) (v : Value) (he : m[id]? = some e) (h : e.ver = 0 → v = .pointer (some ⟨e.blk, off, none⟩)) : Rel S m I w (.ptr id off) v
  | eptr (id ver i off : Nat) (e : ME) (v : Value) (he : m[id]? = some e) (hv : ver ≤ e.ver) (h : ver = e.ver → e.nilrow = false ∧ v = .pointer (some ⟨e.blk, i * e.sz + off, none⟩)) : Rel S m I w (.eptr id ver i off) v
  | iptr (cs : List AV) (off b o : Nat) (rd : Nat → Value) (hI : I b) (hc : ∀ j y, cs[j]? = some y → w.cell? ⟨b, o + j, none⟩ = some (rd j)) (hr : ∀ j y, cs[j]? = some y → Rel S m I w y (rd j)) :
      Rel S m I w (.iptr cs off) (.pointer (some ⟨b, o + off, none⟩))
  | nilptr : Rel S m I w .nilptr (.pointer none)
  | func (fn : AFn) (first captured : List AV) (g : Fn) (fs cs : Array Value) (hg : fnOf S m fn g) (hf : fs.size = first.length) (hc : cs.size = captured.length)
      (h1 : ∀ i x, first[i]? = some x → Rel S m I w x (fs.getD i undef)) (h2 : ∀ i x, captured[i]? = some x → Rel S m I w x (cs.getD i undef)) : Rel S m I w (.func fn first captured) (.func g fs cs)
  | nilfunc : Rel S m I w .nilfunc .nilFunc
  | iface (t : Nat) (x : AV) (v : Value) (h : Rel S m I w x v) : Rel S m I w (.iface t x) (.iface (S.ty t) v)
  | nilIface : Rel S m I w .nilIface .nilIface
  | map (id : Nat) (e : ME) (v : Value) (he : m[id]? = some e) (h : e.ver = 0 → v = .map (some e.blk)) : Rel S m I w (.map id) v

theorem fnOf_mono {S : Seat} {m m' : List ME} (hm : MLe m m') {f : AFn} {g : Fn} (h : fnOf S m f g) : fnOf S m' f g := by
  cases f with
  | f c => exact h
  | y id =>
    obtain ⟨e, he, h⟩ := h
    obtain ⟨e', he', hle⟩ := hm id e he
    refine ⟨e', he', fun h0 => ?_⟩
    rcases hle with rfl | hlt
    · exact h h0
    · omega

theorem cell_of_heap {w w' : World} {a : Addr} (h : w'.heap[a.block]? = w.heap[a.block]?) : w'.cell? a = w.cell? a := by simp [World.cell?, h]

theorem Rel.mono {S : Seat} {m m' : List ME} {I I' : Nat → Prop} {w w' : World} {x : AV} {v : Value} (h : Rel S m I w x v)
    (hm : MLe m m') (hI : ∀ b, I b → I' b) (hw : ∀ b, I b → w'.heap[b]? = w.heap[b]?) : Rel S m' I' w' x v := by
  induction h with
  | undef v => exact .undef v
  | bool b => exact .bool b
  | anybool b => exact .anybool b
  | int k n => exact .int k n
  | str s => exact .str s
  | empty t a c ht hc => exact .empty t a c ht hc
  | list t xs b off n c sz rd hn hnc hcm ht hb hsz hc hr ih =>
    refine .list t xs b off n c sz rd hn hnc hcm ht (hI _ hb) hsz (fun i x hx j y hy => ?_) (fun i x hx j y hy => ih i x hx j y hy)
    rw [cell_of_heap (hw b hb)]; exact hc i x hx j y hy
  | own id ver lo hi e v he hv h =>
    obtain ⟨e', he', hle⟩ := hm id e he
    rcases hle with rfl | hlt
    · exact .own id ver lo hi _ v he' hv h
    · exact .own id ver lo hi e' v he' (by omega) (fun heq => by omega)
  | agg cs vs hs h ih => exact .agg cs vs hs ih
  | tup cs vs hs h ih => exact .tup cs vs hs ih
  | ptr id off e v he h =>
    obtain ⟨e', he', hle⟩ := hm id e he
    rcases hle with rfl | hlt
    · exact .ptr id off _ v he' h
    · exact .ptr id off e' v he' (fun h0 => by omega)
  | eptr id ver i off e v he hv h =>
    obtain ⟨e', he', hle⟩ := hm id e he
    rcases hle with rfl | hlt
    · exact .eptr id ver i off _ v he' hv h
    · exact .eptr id ver i off e' v he' (by omega) (fun heq => by omega)
  | iptr cs off b o rd hb hc hr ih =>
    refine .iptr cs off b o rd (hI _ hb) (fun j y hy => ?_) ih
    rw [cell_of_heap (hw b hb)]; exact hc j y hy
  | nilptr => exact .nilptr
  | func fn first captured g fs cs hg hf hc h1 h2 ih1 ih2 => exact .func fn first captured g fs cs (fnOf_mono hm hg) hf hc ih1 ih2
  | nilfunc => exact .nilfunc
  | iface t x v h ih => exact .iface t x v ih
  | nilIface => exact .nilIface
  | map id e v he h =>
    obtain ⟨e', he', hle⟩ := hm id e he
    rcases hle with rfl | hlt
    · exact .map id _ v he' h
    · exact .map id e' v he' (fun h0 => by omega)

def Rels (S : Seat) (m : List ME) (I : Nat → Prop) (w : World) (xs : List AV) (vs : Array Value) : Prop :=
  vs.size = xs.length ∧ ∀ i x, xs[i]? = some x → Rel S m I w x (vs.getD i undef)

theorem Rels.mono {S : Seat} {m m' : List ME} {I I' : Nat → Prop} {w w' : World} {xs : List AV} {vs : Array Value} (h : Rels S m I w xs vs)
    (hm : MLe m m') (hI : ∀ b, I b → I' b) (hw : ∀ b, I b → w'.heap[b]? = w.heap[b]?) : Rels S m' I' w' xs vs :=
  ⟨h.1, fun i x hx => (h.2 i x hx).mono hm hI hw⟩

inductive Pure : AV → Prop
  | bool (b : Bool) : Pure (.bool b)
  | anybool : Pure .anybool
  | undef : Pure .undef
  | int (k : IntKind) (n : Int) : Pure (.int k n)
  | str (s : List UInt8) : Pure (.str s)
  | list (t : Bool) (xs : List AV) (h : ∀ x ∈ xs, ∀ y ∈ x.cells, Pure y) : Pure (.list t xs)
  | agg (cs : List AV) (h : ∀ x ∈ cs, Pure x) : Pure (.agg cs)
  | tup (cs : List AV) (h : ∀ x ∈ cs, Pure x) : Pure (.tup cs)
  | nilptr : Pure .nilptr
  | func (c : Nat) (first captured : List AV) (h1 : ∀ x ∈ first, Pure x) (h2 : ∀ x ∈ captured, Pure x) : Pure (.func (.f c) first captured)
  | nilfunc : Pure .nilfunc
  | iface (t : Nat) (v : AV) (h : Pure v) : Pure (.iface t v)
  | nilIface : Pure .nilIface

inductive Plain : AV → Prop
  | bool (b : Bool) : Plain (.bool b)
  | anybool : Plain .anybool
  | undef : Plain .undef
  | int (k : IntKind) (n : Int) : Plain (.int k n)
  | str (s : List UInt8) : Plain (.str s)
  | empty : Plain (.list false [])
  | agg (cs : List AV) (h : ∀ x ∈ cs, Plain x) : Plain (.agg cs)
  | tup (cs : List AV) (h : ∀ x ∈ cs, Plain x) : Plain (.tup cs)

theorem Rel.plain {S : Seat} {m m' : List ME} {I I' : Nat → Prop} {w w' : World} {x : AV} {v : Value} (h : Rel S m I w x v) (hp : Plain x) : Rel S m' I' w' x v := by
  induction hp generalizing v with
  | bool b => cases h; exact .bool b
  | anybool => cases h; exact .anybool _
  | undef => exact .undef v
  | int k n => cases h; exact .int k n
  | str s => cases h; exact .str s
  | empty =>
    cases h with
    | empty _ a c ht hc => exact .empty _ a c ht hc
    | list _ _ b off n c sz rd hn hnc hcm ht hb hsz hc hr => simp at hn; subst hn; exact .empty _ _ c (by simp) hcm
  | agg cs hp ih => cases h with | agg _ vs hs h => exact .agg cs vs hs (fun i x hx => ih x (List.mem_of_getElem? hx) (h i x hx))
  | tup cs hp ih => cases h with | tup _ vs hs h => exact .tup cs vs hs (fun i x hx => ih x (List.mem_of_getElem? hx) (h i x hx))

end Go.Proofs.YtihhinbjhiankaaGreatDoor.Al

/- THE ABSTRACT CODE: operations with their sizes resolved, what each answers of abstract values and things, and how the program's own code is told by it. -/
namespace Go.Proofs.YtihhinbjhiankaaGreatDoor.Al
open Go

inductive Opd where
  | t (n : Nat)
  | c (v : AV)
  | f (c : Nat)

inductive TK where
  | slice | pointer | func

inductive IOp where
  | mv (x : Opd)
  | pick (c a b : Opd)
  | alloc (z : List AV)
  | box (x : Opd)
  | build (z : List AV) (parts : List (Nat × Nat × Opd))
  | bslice (esz len : Nat) (z : AV) (parts : List (Nat × Opd))
  | load (agg : Bool) (n : Nat) (x : Opd)
  | store (n : Nat) (x v : Opd)
  | nilck (x : Opd)
  | bin (isB : Bool) (op : BinOp) (x y : Opd)
  | isnil (k : TK) (neg : Bool) (x : Opd)
  | un (op : UnOp) (x : Opd)
  | convI (k : IntKind) (x : Opd)
  | convS (x : Opd)
  | mkiface (t : Nat) (x : Opd)
  | mkfunc (fn : Nat) (first captured : List Opd)
  | mkslice (esz bytes : Nat) (z : AV) (len cap : Opd)
  | slice (esz : Nat) (x : Opd) (lo hi mx : Option Opd)
  | faddr (off : Nat) (x : Opd)
  | field (agg : Bool) (off n : Nat) (x : Opd)
  | iaddr (esz : Nat) (x i : Opd)
  | iaddrA (len esz : Nat) (x i : Opd)
  | idxA (agg : Bool) (len esz : Nat) (x i : Opd)
  | extract (x : Opd) (i : Nat)
  | len (x : Opd)
  | lenS (x : Opd)
  | lenA (n : Nat)
  | min (xs : List Opd)
  | max (xs : List Opd)
  | append (esz bytes : Nat) (x y : Opd)
  | appendZ (esz bytes : Nat) (z : AV) (x n : Opd)
  | copy (esz : Nat) (x y : Opd)
  | clear (esz : Nat) (z : AV) (x : Opd)
  | tassert (t : Nat) (x : Opd)
  | call (f : Opd) (args : List Opd)
  | invoke (recv : Opd) (name : String) (args : List Opd)

structure IOper where
  dst : Option Nat
  op : IOp
  guard : Option (Nat × Bool)
  after : List Nat

inductive IC where
  | skip
  | region (ops : List IOper) (draw : Bool)
  | seq (a b : IC)
  | cond (c : Opd) (a b : IC)
  | block (id : Nat) (b : IC)
  | loop (b : IC)
  | rangeFunc (g : Opd) (ps : List Nat) (assign body : IC)
  | exit (id : Nat)
  | scope (b : IC)
  | label (l : Nat)
  | goto (l : Nat)
  | ret

/-! ### Things -/
inductive Jump where
  | ret
  | exit (id : Nat)
  | goto (l : Nat)

def Jump.code : Jump → Code
  | .ret => .ret
  | .exit id => .exit id
  | .goto l => .goto l

inductive LSt where
  | ready
  | busy
  | done (j : Jump)

structure LoopE where
  N : Nat
  env : Nat → AV
  ps : List Nat
  ca : Code
  cb : Code
  dfr : Nat
  st : LSt

inductive Entry where
  | dead
  | box (cs : List AV)
  | arr (sz ver : Nat) (xs : List AV)
  | frz (sz ver : Nat) (xs : List AV)
  | loop (L : LoopE)

def AV.oneIn (H : List Entry) : AV → Bool
  | .agg _ | .tup _ | .undef | .eptr _ _ _ _ | .map _ => false
  | .own id ver _ _ => (match H[id]? with
    | some (.arr _ v _) => v == ver
    | some (.frz _ v _) => v == ver
    | _ => false)
  | .ptr id _ => (match H[id]? with
    | some (.box _) => true
    | _ => false)
  | _ => true

abbrev Env := Nat → AV

def upd (env : Env) (d : Nat) (v : AV) : Env := fun j => if j = d then v else env j
def updo (env : Env) (d : Option Nat) (v : AV) : Env := match d with | some d => upd env d v | none => env

theorem upd_same (env : Env) (d : Nat) (v : AV) : upd env d v d = v := if_pos rfl
theorem upd_ne (env : Env) {d j : Nat} (v : AV) (h : j ≠ d) : upd env d v j = env j := if_neg h

def Opd.ev (env : Env) : Opd → AV
  | .t n => env n
  | .c v => v
  | .f k => .func (.f k) [] []

/-! ### What an operation answers -/
def maxRow : Nat := 4294967296

def seen (H : List Entry) : AV → Option (List AV)
  | .list _ xs => some xs
  | .own id ver lo hi => match H[id]? with
    | some (.arr _ v xs) => if v = ver ∧ hi ≤ xs.length then some ((xs.take hi).drop lo) else none
    | some (.frz _ v xs) => if v = ver ∧ hi ≤ xs.length then some ((xs.take hi).drop lo) else none
    | _ => none
  | _ => none

def rowLen (H : List Entry) : AV → Option Nat
  | .list _ xs => some xs.length
  | .own id ver lo hi => if AV.oneIn H (.own id ver lo hi) = true then some (hi - lo) else none
  | _ => none

def splice {α : Type} (cs : List α) (off : Nat) (vs : List α) : List α := cs.take off ++ vs ++ cs.drop (off + vs.length)

def setPart (x : AV) (off : Nat) (v : AV) : AV := match x with
  | .agg cs => .agg (splice cs off v.cells)
  | _ => v

def window (H : List Entry) : AV → Option (List AV × Nat)
  | .ptr id off => match H[id]? with
    | some (.box cs) => some (cs, off)
    | _ => none
  | .eptr id ver i off => match H[id]? with
    | some (.arr _ v xs) => if v = ver then (match xs[i]? with | some x => some (x.cells, off) | none => none) else none
    | _ => none
  | .iptr cs off => some (cs, off)
  | _ => none

def evLoad (H : List Entry) (agg : Bool) (n : Nat) (p : AV) : Option AV :=
  match window H p with
  | some (cs, off) => if agg then (if off + n ≤ cs.length then some (.agg ((cs.drop off).take n)) else none) else cs[off]?
  | none => none

def evStore (H : List Entry) (n : Nat) (p v : AV) : Option (List Entry) :=
  if v.cells.length = n ∧ 0 < n ∧ v.cells.all (AV.oneIn H) = true then match p with
    | .ptr id off => match H[id]? with
      | some (.box cs) => if off + n ≤ cs.length then some (H.set id (.box (splice cs off v.cells))) else none
      | _ => none
    | .eptr id ver i off => match H[id]? with
      | some (.arr sz u xs) => if u = ver then (match xs[i]? with
          | some x => if off + n ≤ x.cells.length then some (H.set id (.arr sz u (xs.set i (setPart x off v)))) else none
          | none => none) else none
      | _ => none
    | _ => none
  else none

def evAddr (H : List Entry) (off : Nat) : AV → Option AV
  | .ptr id o => (match H[id]? with
    | some (.box _) => some (.ptr id (o + off))
    | _ => none)
  | .eptr id ver i o => (match H[id]? with
    | some (.arr _ u _) => if u = ver then some (.eptr id ver i (o + off)) else none
    | _ => none)
  | .iptr cs o => some (.iptr cs (o + off))
  | _ => none

def evIndex (H : List Entry) (esz : Nat) (x i : AV) : Option AV := match i with
  | .int _ n => if 0 ≤ n then (match x with
    | .list _ xs => (match xs[n.toNat]? with
      | some y => if y.cells.length = esz then some (.iptr y.cells 0) else none
      | none => none)
    | .own id ver lo hi => (match H[id]? with
      | some (.arr sz v xs) => if v = ver ∧ lo + n.toNat < hi ∧ sz = esz then (match xs[lo + n.toNat]? with
          | some _ => some (.eptr id ver (lo + n.toNat) 0)
          | none => none) else none
      | some (.frz sz v xs) => if v = ver ∧ lo + n.toNat < hi ∧ sz = esz then (match xs[lo + n.toNat]? with
          | some y => some (.iptr y.cells 0)
          | none => none) else none
      | _ => none)
    | _ => none) else none
  | _ => none

def evInt (op : BinOp) (k : IntKind) (a b : Int) : Option AV := match op with
  | .add => some (.int k (k.wrap (a + b)))
  | .sub => some (.int k (k.wrap (a - b)))
  | .mul => some (.int k (k.wrap (a * b)))
  | .quo => if b = 0 then none else some (.int k (k.wrap (a.tdiv b)))
  | .rem => if b = 0 then none else some (.int k (a.tmod b))
  | .and | .or | .xor | .andNot => some (.int k (Go.bits op k a b))
  | .eql => some (.bool (a == b))
  | .neq => some (.bool (a != b))
  | .lss => some (.bool (decide (a < b)))
  | .leq => some (.bool (decide (a ≤ b)))
  | .gtr => some (.bool (decide (a > b)))
  | .geq => some (.bool (decide (a ≥ b)))
  | .shl | .shr => none

def evShift (op : BinOp) (k : IntKind) (a b : Int) : Option AV := if b < 0 then none else match op with
  | .shl => some (.int k (k.wrap (a * 2 ^ (min b.toNat k.bits))))
  | .shr => some (.int k (a.fdiv (2 ^ (min b.toNat k.bits))))
  | _ => none

def evStr (op : BinOp) (a b : List UInt8) : Option AV := match op with
  | .eql => some (.bool (a == b))
  | .neq => some (.bool (!(a == b)))
  | .add => if a.length + b.length ≤ maxRow then some (.str (a ++ b)) else none
  | _ => none

def evNil (H : List Entry) : TK → AV → Option AV
  | .slice, .list _ [] => some .anybool
  | .slice, .list _ (_ :: _) => some (.bool false)
  | .slice, .own id ver lo hi => if AV.oneIn H (.own id ver lo hi) = true then some .anybool else none
  | .pointer, .nilptr => some (.bool true)
  | .func, .nilfunc => some (.bool true)
  | .func, .func _ _ _ => some (.bool false)
  | _, _ => none

def notA : AV → Option AV
  | .bool b => some (.bool !b)
  | .anybool => some .anybool
  | _ => none

def evBin (isB : Bool) (op : BinOp) (x y : AV) : Option AV := match x, y with
  | .int k a, .int k' b => (match op with
    | .shl => evShift .shl k a b
    | .shr => evShift .shr k a b
    | op => if k = k' then evInt op k a b else none)
  | .str a, .str b => evStr op a b
  | .bool a, .bool b => if isB then (match op with
    | .eql => some (.bool (a == b))
    | .neq => some (.bool (!(a == b)))
    | _ => none) else none
  | _, _ => none

def evUn (op : UnOp) (x : AV) : Option AV := match op, x with
  | .neg, .int k n => some (.int k (k.wrap (0 - n)))
  | .xor, .int k n => if k.signed then some (.int k (Go.bits .xor k (-1) n)) else some (.int k (Go.bits .xor k k.max n))
  | .not, .bool b => some (.bool !b)
  | .not, .anybool => some .anybool
  | _, _ => none

def byteOf : AV → Option UInt8
  | .int .u8 n => some (UInt8.ofNat n.toNat)
  | _ => none

def evMin (a b : AV) : Option AV := match a, b with
  | .int k x, .int _ y => some (.int k (if y < x then y else x))
  | _, _ => none
def evMax (a b : AV) : Option AV := match a, b with
  | .int k x, .int _ y => some (.int k (if y > x then y else x))
  | _, _ => none

def foldA (f : AV → AV → Option AV) : List AV → Option AV
  | [] => none
  | x :: xs => xs.foldlM f x

def evBound (d : Nat) : Option AV → Option Nat
  | none => some d
  | some (.int _ n) => if 0 ≤ n then some n.toNat else none
  | some _ => none

def lenOk (esz : Nat) (xs : List AV) : Bool := xs.all fun x => x.cells.length == esz

def evSlice (H : List Entry) (esz : Nat) (x : AV) (lo hi mx : Option AV) : Option AV := match x with
  | .list t xs => (match evBound 0 lo, evBound xs.length hi with
    | some l, some h => if l ≤ h ∧ h ≤ xs.length ∧ lenOk esz xs = true then (match mx with
        | none => some (.list (t && h == xs.length) ((xs.take h).drop l))
        | some m => (match evBound 0 (some m), hi with
          | some m, some _ => if m = h then some (.list true ((xs.take h).drop l)) else none
          | _, _ => none)) else none
    | _, _ => none)
  | .own id ver a b => (match H[id]? with
    | some (.arr sz v xs) => if v = ver ∧ b ≤ xs.length then (match evBound 0 lo, evBound (b - a) hi, mx with
        | some l, some h, none => if l ≤ h ∧ a + h ≤ b ∧ sz = esz then some (.own id ver (a + l) (a + h)) else none
        | some l, some h, some m => (match evBound 0 (some m), hi with
          | some m, some _ => if m = h ∧ l = h ∧ a + h ≤ b then some (.list true []) else none
          | _, _ => none)
        | _, _, _ => none) else none
    | some (.frz sz v xs) => if v = ver ∧ b ≤ xs.length then (match evBound 0 lo, evBound (b - a) hi with
        | some l, some h => if l ≤ h ∧ a + h ≤ b ∧ sz = esz then (match mx with
            | none => some (.list false ((xs.take (a + h)).drop (a + l)))
            | some m => (match evBound 0 (some m), hi with
              | some m, some _ => if m = h then some (.list true ((xs.take (a + h)).drop (a + l))) else none
              | _, _ => none)) else none
        | _, _ => none) else none
    | _ => none)
  | _ => none

def szOk (H : List Entry) (esz : Nat) (xs : List AV) : Bool := xs.all fun x => x.cells.length == esz && x.cells.all (AV.oneIn H)

def evAppend (H : List Entry) (esz bytes : Nat) (x : AV) (ys : List AV) : Option (AV × List Entry) :=
  if ys = [] then (match x with
    | .list _ _ => some (x, H)
    | .own _ _ _ _ => if x.oneIn H = true then some (x, H) else none
    | _ => none)
  else if bytes ≤ 4096 ∧ 0 < esz ∧ szOk H esz ys = true then (match x with
    | .list true xs => if xs.length + ys.length ≤ maxRow ∧ szOk H esz xs = true then some (.own H.length 0 0 (xs.length + ys.length), H ++ [.arr esz 0 (xs ++ ys)]) else none
    | .own id ver 0 hi => (match H[id]? with
      | some (.arr sz v xs) => if v = ver ∧ hi ≤ xs.length ∧ hi + ys.length ≤ maxRow ∧ sz = esz
          then some (.own id (ver + 1) 0 (hi + ys.length), H.set id (.arr esz (ver + 1) (xs.take hi ++ ys))) else none
      | _ => none)
    | _ => none)
  else none

def evCopy (H : List Entry) (esz : Nat) (x : AV) (ys : List AV) : Option (AV × List Entry) := match x with
  | .own id ver lo hi => (match H[id]? with
    | some (.arr sz v xs) => if v = ver ∧ lo ≤ hi ∧ hi ≤ xs.length ∧ szOk H esz ys = true ∧ sz = esz then
        let n := min ys.length (hi - lo)
        some (.int .i64 n, H.set id (.arr esz ver (xs.take lo ++ ys.take n ++ xs.drop (lo + n)))) else none
    | _ => none)
  | .list _ [] => some (.int .i64 0, H)
  | _ => none

def evClear (H : List Entry) (esz : Nat) (z : AV) (x : AV) : Option (List Entry) := match x with
  | .own id ver lo hi => (match H[id]? with
    | some (.arr sz v xs) => if v = ver ∧ lo ≤ hi ∧ hi ≤ xs.length ∧ szOk H esz [z] = true ∧ sz = esz then
        some (H.set id (.arr esz ver (xs.take lo ++ List.replicate (hi - lo) z ++ xs.drop hi))) else none
    | _ => none)
  | .list _ [] => some H
  | _ => none

def fillA (H : List Entry) (z : List AV) : List (Nat × Nat × AV) → Option (List AV)
  | [] => some z
  | (off, n, v) :: r => if v.cells.length = n ∧ off + n ≤ z.length ∧ v.cells.all (AV.oneIn H) = true then fillA H (splice z off v.cells) r else none

def evMkslice (H : List Entry) (esz bytes : Nat) (z : AV) (len cap : AV) : Option (AV × List Entry) := match len, cap with
  | .int _ n, .int _ c => if 0 ≤ n ∧ n = c ∧ n ≤ maxRow ∧ bytes ≤ 4096 ∧ 0 < esz ∧ szOk H esz [z] = true then some (.own H.length 0 0 n.toNat, H ++ [.arr esz 0 (List.replicate n.toNat z)]) else none
  | _, _ => none

def evBslice (H : List Entry) (esz len : Nat) (z : AV) (ps : List (Nat × AV)) : Option (AV × List Entry) :=
  if 0 < esz ∧ len * esz ≤ 4096 ∧ szOk H esz [z] = true ∧ (ps.all fun p => decide (p.1 < len) && szOk H esz [p.2]) = true then
    some (.own H.length 0 0 len, H ++ [.arr esz 0 (ps.foldl (fun xs p => xs.set p.1 p.2) (List.replicate len z))]) else none

def evalOp (op : IOp) (env : Env) (H : List Entry) : Option (AV × List Entry) := match op with
  | .mv x => some (x.ev env, H)
  | .pick c a b => (match c.ev env with
    | .bool true => some (a.ev env, H)
    | .bool false => some (b.ev env, H)
    | _ => none)
  | .alloc z => some (.ptr H.length 0, H ++ [.box z])
  | .box x => if (x.ev env).cells.all (AV.oneIn H) = true then some (.ptr H.length 0, H ++ [.box (x.ev env).cells]) else none
  | .build z parts => (fillA H z (parts.map fun p => (p.1, p.2.1, p.2.2.ev env))).map fun cs => (.agg cs, H)
  | .bslice esz len z parts => evBslice H esz len z (parts.map fun p => (p.1, p.2.ev env))
  | .load agg n x => (evLoad H agg n (x.ev env)).map fun v => (v, H)
  | .store n x v => (evStore H n (x.ev env) (v.ev env)).map fun H' => (.undef, H')
  | .nilck x => (match x.ev env with
    | .ptr id off => (match H[id]? with
      | some (.box _) => some (.ptr id off, H)
      | _ => none)
    | .eptr id ver i off => (match H[id]? with
      | some (.arr _ u _) => if u = ver then some (.eptr id ver i off, H) else none
      | _ => none)
    | .iptr cs off => some (.iptr cs off, H)
    | .func (.f c) a b => some (.func (.f c) a b, H)
    | _ => none)
  | .bin k op x y => (evBin k op (x.ev env) (y.ev env)).map fun v => (v, H)
  | .isnil k neg x => ((evNil H k (x.ev env)).bind fun v => if neg then notA v else some v).map fun v => (v, H)
  | .un op x => (evUn op (x.ev env)).map fun v => (v, H)
  | .convI k x => (match x.ev env with
    | .int _ n => some (.int k (k.wrap n), H)
    | _ => none)
  | .convS x => ((seen H (x.ev env)).bind fun xs => xs.mapM byteOf).map fun s => (.str s, H)
  | .mkiface t x => some (.iface t (x.ev env), H)
  | .mkfunc fn first captured => some (.func (.f fn) (first.map (Opd.ev env)) (captured.map (Opd.ev env)), H)
  | .mkslice esz bytes z len cap => evMkslice H esz bytes z (len.ev env) (cap.ev env)
  | .slice esz x lo hi mx => (evSlice H esz (x.ev env) (lo.map (Opd.ev env)) (hi.map (Opd.ev env)) (mx.map (Opd.ev env))).map fun v => (v, H)
  | .faddr off x => (evAddr H off (x.ev env)).map fun v => (v, H)
  | .field agg off n x => (match x.ev env with
    | .agg cs => if agg then (if off + n ≤ cs.length then some (.agg ((cs.drop off).take n), H) else none) else (cs[off]?).map fun v => (v, H)
    | _ => none)
  | .iaddr esz x i => (evIndex H esz (x.ev env) (i.ev env)).map fun v => (v, H)
  | .iaddrA len esz x i => (match i.ev env with
    | .int _ n => if 0 ≤ n ∧ n < len then (evAddr H (n.toNat * esz) (x.ev env)).map fun v => (v, H) else none
    | _ => none)
  | .idxA agg len esz x i => (match x.ev env, i.ev env with
    | .agg cs, .int _ n => if 0 ≤ n ∧ n < len then (if agg then (if n.toNat * esz + esz ≤ cs.length then some (.agg ((cs.drop (n.toNat * esz)).take esz), H) else none) else (cs[n.toNat * esz]?).map fun v => (v, H)) else none
    | _, _ => none)
  | .extract x i => (match x.ev env with
    | .tup vs => (vs[i]?).map fun v => (v, H)
    | _ => none)
  | .len x => (rowLen H (x.ev env)).map fun n => (.int .i64 n, H)
  | .lenS x => (match x.ev env with
    | .str s => some (.int .i64 s.length, H)
    | _ => none)
  | .lenA n => some (.int .i64 n, H)
  | .min xs => (foldA evMin (xs.map (Opd.ev env))).map fun v => (v, H)
  | .max xs => (foldA evMax (xs.map (Opd.ev env))).map fun v => (v, H)
  | .append esz bytes x y => (seen H (y.ev env)).bind fun ys => evAppend H esz bytes (x.ev env) ys
  | .appendZ esz bytes z x n => (match n.ev env with
    | .int _ k => if 0 ≤ k ∧ k ≤ maxRow then evAppend H esz bytes (x.ev env) (List.replicate k.toNat z) else none
    | _ => none)
  | .copy esz x y => (seen H (y.ev env)).bind fun ys => evCopy H esz (x.ev env) ys
  | .clear esz z x => (evClear H esz z (x.ev env)).map fun H' => (.tup [], H')
  | .tassert t x => (match x.ev env with
    | .iface t' v => if t' = t then some (v, H) else none
    | _ => none)
  | .call _ _ => none
  | .invoke _ _ _ => none

end Go.Proofs.YtihhinbjhiankaaGreatDoor.Al

/- THINGS THAT A CALL MADE, and how they lie in memory: 'Sim'; what becomes of it when something is made or written. -/
namespace Go.Proofs.YtihhinbjhiankaaGreatDoor.Al
open Go

def Entry.live : Entry → Bool
  | .box _ | .arr _ _ _ | .loop _ => true
  | _ => false

def Contents (S : Seat) (m : List ME) (I : Nat → Prop) (w : World) (sz : Nat) (xs : List AV) (arr : Array Value) : Prop :=
  ∀ i x, xs[i]? = some x → ∀ j y, x.cells[j]? = some y → Rel S m I w y (arr.getD (i * sz + j) undef)

def RowAt (S : Seat) (m : List ME) (I : Nat → Prop) (w : World) (e : ME) (xs : List AV) : Prop :=
  (e.nilrow = true ∧ e.cap = 0) ∨ (e.nilrow = false ∧ ∃ arr T, w.heap[e.blk]? = some (.cells arr T (0, 0)) ∧ arr.size = e.cap * e.sz ∧ Contents S m I w e.sz xs arr)

def RowOk (S : Seat) (m : List ME) (I : Nat → Prop) (w : World) (e : ME) (sz ver : Nat) (xs : List AV) : Prop :=
  e.ver = ver ∧ e.sz = sz ∧ xs.length ≤ e.cap ∧ e.cap ≤ 9223372036854775807 ∧ (∀ x ∈ xs, x.cells.length = e.sz) ∧ RowAt S m I w e xs

def LSt.state : LSt → LoopState
  | .ready => .ready
  | .busy => .busy
  | .done _ => .done
def LSt.pend : LSt → Option Code
  | .done j => some j.code
  | _ => none

def HOk (S : Seat) (m : List ME) (I : Nat → Prop) (w : World) (id : Nat) : Entry → Prop
  | .dead => True
  | .box cs => ∃ e arr T, m[id]? = some e ∧ e.ver = 0 ∧ e.nilrow = false ∧ w.heap[e.blk]? = some (.cells arr T (0, 0)) ∧ Rels S m I w cs arr
  | .arr sz ver xs => ∃ e, m[id]? = some e ∧ RowOk S m I w e sz ver xs
  | .frz sz ver xs => ∃ e, m[id]? = some e ∧ RowOk S m I w e sz ver xs ∧ (e.nilrow = false → I e.blk)
  | .loop L => ∃ e tmps fn, m[id]? = some e ∧ e.ver = 0 ∧ e.nilrow = false ∧ tmps.size = L.N ∧ (∀ j, Rel S m I w (L.env j) (tmps.getD j undef)) ∧
      w.heap[e.blk]? = some (.loop { state := L.st.state, pending := L.st.pend, fn := fn, tmps := tmps, params := L.ps.toArray, assign := L.ca, body := L.cb, defers := L.dfr })

def GlOk (S : Seat) (I : Nat → Prop) (w : World) : Prop := ∀ p ∈ S.gl, I p.1 ∧ ∀ j, j < p.2.length → w.cell? ⟨p.1, j, none⟩ = some (.int .u8 (p.2.getD j 0))

theorem GlOk.mono {S : Seat} {I I' : Nat → Prop} {w w' : World} (h : GlOk S I w) (hI : ∀ b, I b → I' b) (hw : ∀ b, I b → w'.heap[b]? = w.heap[b]?) : GlOk S I' w' :=
  fun p hp => ⟨hI _ (h p hp).1, fun j hj => by rw [cell_of_heap (hw _ (h p hp).1)]; exact (h p hp).2 j hj⟩

structure Sim (S : Seat) (m : List ME) (I X : Nat → Prop) (w : World) (H : List Entry) : Prop where
  len : m.length = H.length
  hok : ∀ (id : Nat) (e : Entry), H[id]? = some e → HOk S m I w id e
  sep : ∀ (id : Nat) (e : Entry) (g : ME), H[id]? = some e → e.live = true → m[id]? = some g → g.nilrow = false → ¬ I g.blk ∧ ¬ X g.blk
  inj : ∀ (id id' : Nat) (e e' : Entry) (g g' : ME), H[id]? = some e → e.live = true → H[id']? = some e' → e'.live = true → m[id]? = some g → m[id']? = some g' →
    g.nilrow = false → g'.nilrow = false → g.blk = g'.blk → id = id'
  lt : ∀ b, I b ∨ X b → b < w.heap.size
  disj : ∀ b, I b → ¬ X b
  gl : GlOk S I w

structure Ext (I X : Nat → Prop) (w w' : World) : Prop where
  os : w'.os = w.os
  tape : w'.tape = w.tape
  output : w'.output = w.output
  size : w.heap.size ≤ w'.heap.size
  keep : ∀ b, I b ∨ X b → w'.heap[b]? = w.heap[b]?

theorem Ext.refl (I X : Nat → Prop) (w : World) : Ext I X w w := ⟨rfl, rfl, rfl, Nat.le_refl _, fun _ _ => rfl⟩
theorem heap_lt {w : World} {b : Nat} {o : Obj} (h : w.heap[b]? = some o) : b < w.heap.size := (Array.getElem?_eq_some_iff.1 h).1

theorem RowOk.keep {S : Seat} {m m' : List ME} {I I' : Nat → Prop} {w w' : World} {e : ME} {sz ver : Nat} {xs : List AV} (h : RowOk S m I w e sz ver xs)
    (hm : MLe m m') (hI : ∀ b, I b → I' b) (hw : ∀ b, I b → w'.heap[b]? = w.heap[b]?) (hb : e.nilrow = false → w'.heap[e.blk]? = w.heap[e.blk]?) : RowOk S m' I' w' e sz ver xs := by
  obtain ⟨h1, h0, h2, h3, h4, h5⟩ := h
  refine ⟨h1, h0, h2, h3, h4, ?_⟩
  rcases h5 with h5 | ⟨h5, arr, T, ha, hs, hc⟩
  · exact .inl h5
  · exact .inr ⟨h5, arr, T, by rw [hb h5]; exact ha, hs, fun i x hx j y hy => (hc i x hx j y hy).mono hm hI hw⟩

theorem HOk.keep {S : Seat} {m m' : List ME} {I I' : Nat → Prop} {w w' : World} {id : Nat} {e : Entry} (h : HOk S m I w id e)
    (hm : MLe m m') (hI : ∀ b, I b → I' b) (hw : ∀ b, I b → w'.heap[b]? = w.heap[b]?) (hid : m'[id]? = m[id]?)
    (hb : ∀ g : ME, m[id]? = some g → g.nilrow = false → e.live = true → w'.heap[g.blk]? = w.heap[g.blk]?) : HOk S m' I' w' id e := by
  cases e with
  | dead => trivial
  | box cs =>
    obtain ⟨e, arr, T, h1, h2, h3, h4, h5⟩ := h
    exact ⟨e, arr, T, by rw [hid]; exact h1, h2, h3, by rw [hb e h1 h3 rfl]; exact h4, h5.mono hm hI hw⟩
  | arr sz ver xs =>
    obtain ⟨e, h1, h2⟩ := h
    exact ⟨e, by rw [hid]; exact h1, h2.keep hm hI hw (fun hn => hb e h1 hn rfl)⟩
  | frz sz ver xs =>
    obtain ⟨e, h1, h2, h3⟩ := h
    exact ⟨e, by rw [hid]; exact h1, h2.keep hm hI hw (fun hn => hw _ (h3 hn)), fun hn => hI _ (h3 hn)⟩
  | loop L =>
    obtain ⟨e, tmps, fn, h1, h2, h3, h4, h5, h6⟩ := h
    exact ⟨e, tmps, fn, by rw [hid]; exact h1, h2, h3, h4, fun j => (h5 j).mono hm hI hw, by rw [hb e h1 h3 rfl]; exact h6⟩

theorem Sim.blk_lt {S : Seat} {m : List ME} {I X : Nat → Prop} {w : World} {H : List Entry} (h : Sim S m I X w H) {id : Nat} {e : Entry} {g : ME}
    (he : H[id]? = some e) (hl : e.live = true) (hg : m[id]? = some g) (hn : g.nilrow = false) : g.blk < w.heap.size := by
  have h0 := h.hok id e he
  cases e with
  | dead => cases hl
  | box cs =>
    obtain ⟨e, arr, T, h1, h2, h3, h4, h5⟩ := h0
    rw [hg] at h1; cases h1; exact heap_lt h4
  | arr sz ver xs =>
    obtain ⟨e, h1, _, _, _, _, _, h5⟩ := h0
    rw [hg] at h1; cases h1
    rcases h5 with ⟨h5, _⟩ | ⟨_, arr, T, ha, _⟩
    · rw [hn] at h5; cases h5
    · exact heap_lt ha
  | frz sz ver xs => cases hl
  | loop L =>
    obtain ⟨e, tmps, fn, h1, _, _, _, _, h6⟩ := h0
    rw [hg] at h1; cases h1; exact heap_lt h6

theorem MLe.push (m : List ME) (g : ME) : MLe m (m ++ [g]) := fun id e he => ⟨e, by
  rw [List.getElem?_append_left (List.getElem?_eq_some_iff.1 he).1]; exact he, .inl rfl⟩

theorem MLe.set {m : List ME} {id : Nat} {g g' : ME} (hg : m[id]? = some g) (h : g' = g ∨ g.ver < g'.ver) : MLe m (m.set id g') := fun k e he => by
  by_cases hk : k = id
  · subst hk
    rw [hg] at he; cases he
    exact ⟨g', by rw [List.getElem?_set_self (List.getElem?_eq_some_iff.1 hg).1], h⟩
  · exact ⟨e, by rw [List.getElem?_set_ne (Ne.symm hk)]; exact he, .inl rfl⟩

theorem getElem?_push_cases {α : Type} {l : List α} {x y : α} {i : Nat} (h : (l ++ [x])[i]? = some y) : l[i]? = some y ∧ i < l.length ∨ i = l.length ∧ y = x := by
  rcases Nat.lt_or_ge i l.length with hi | hi
  · rw [List.getElem?_append_left hi] at h; exact .inl ⟨h, hi⟩
  · rw [List.getElem?_append_right hi] at h
    obtain ⟨h1, h2⟩ := List.getElem?_eq_some_iff.1 h
    simp at h1
    have : i = l.length := by omega
    subst this
    simp at h2
    exact .inr ⟨rfl, h2.symm⟩

theorem Sim.push {S : Seat} {m : List ME} {I X : Nat → Prop} {w : World} {H : List Entry} (h : Sim S m I X w H) {e : Entry} {g : ME} {w' : World}
    (hw : ∀ k : Nat, k < w.heap.size → w'.heap[k]? = w.heap[k]?) (hsz : w.heap.size ≤ w'.heap.size) (hg : g.nilrow = false → w.heap.size ≤ g.blk)
    (hok : HOk S (m ++ [g]) I w' H.length e) : Sim S (m ++ [g]) I X w' (H ++ [e]) := by
  have hle := MLe.push m g
  refine ⟨by simp [h.len], ?_, ?_, ?_, ?_, h.disj, h.gl.mono (fun _ hb => hb) fun b hb => hw b (h.lt b (.inl hb))⟩
  · intro id e1 he1
    rcases getElem?_push_cases he1 with ⟨he1, hlt⟩ | ⟨rfl, rfl⟩
    · refine (h.hok id e1 he1).keep hle (fun _ hb => hb) (fun b hb => hw b (h.lt b (.inl hb))) (List.getElem?_append_left (by rw [h.len]; exact hlt)) (fun g1 hg1 hn hl => hw _ (h.blk_lt he1 hl hg1 hn))
    · exact hok
  · intro id e1 g1 he1 hl hg1 hn
    rcases getElem?_push_cases he1 with ⟨he1, hlt⟩ | ⟨rfl, rfl⟩
    · rw [List.getElem?_append_left (by rw [h.len]; exact hlt)] at hg1
      exact h.sep id e1 g1 he1 hl hg1 hn
    · rw [← h.len, List.getElem?_append_right (Nat.le_refl _)] at hg1
      simp at hg1; subst hg1
      have := hg hn
      exact ⟨fun hi => by have := h.lt _ (.inl hi); omega, fun hi => by have := h.lt _ (.inr hi); omega⟩
  · intro id id' e1 e2 g1 g2 he1 hl1 he2 hl2 hg1 hg2 hn1 hn2 hb
    rcases getElem?_push_cases he1 with ⟨k1, hlt1⟩ | ⟨i1, x1⟩
    · rw [List.getElem?_append_left (by rw [h.len]; exact hlt1)] at hg1
      rcases getElem?_push_cases he2 with ⟨k2, hlt2⟩ | ⟨i2, x2⟩
      · rw [List.getElem?_append_left (by rw [h.len]; exact hlt2)] at hg2
        exact h.inj id id' e1 e2 g1 g2 k1 hl1 k2 hl2 hg1 hg2 hn1 hn2 hb
      · rw [i2, ← h.len, List.getElem?_append_right (Nat.le_refl _)] at hg2
        simp at hg2; subst hg2
        have := hg hn2; have := h.blk_lt k1 hl1 hg1 hn1; omega
    · rw [i1, ← h.len, List.getElem?_append_right (Nat.le_refl _)] at hg1
      simp at hg1; subst hg1
      rcases getElem?_push_cases he2 with ⟨k2, hlt2⟩ | ⟨i2, x2⟩
      · rw [List.getElem?_append_left (by rw [h.len]; exact hlt2)] at hg2
        have := hg hn1; have := h.blk_lt k2 hl2 hg2 hn2; omega
      · rw [i1, i2]
  · exact fun b hb => Nat.lt_of_lt_of_le (h.lt b hb) hsz

theorem Sim.write {S : Seat} {m : List ME} {I X : Nat → Prop} {w : World} {H : List Entry} (h : Sim S m I X w H) {id : Nat} {e0 e : Entry} {g g' : ME} {w' : World}
    (he : H[id]? = some e0) (hl : e0.live = true) (hg : m[id]? = some g) (hgg : g' = g ∨ g.ver < g'.ver)
    (hw : ∀ k : Nat, k < w.heap.size → (g.nilrow = false → k ≠ g.blk) → w'.heap[k]? = w.heap[k]?) (hsz : w.heap.size ≤ w'.heap.size)
    (hb : g'.nilrow = false → (g.nilrow = false ∧ g'.blk = g.blk) ∨ w.heap.size ≤ g'.blk)
    (hok : HOk S (m.set id g') I w' id e) : Sim S (m.set id g') I X w' (H.set id e) := by
  have hle := MLe.set hg hgg
  have hidm := (List.getElem?_eq_some_iff.1 hg).1
  have hidH := (List.getElem?_eq_some_iff.1 he).1
  have hI : ∀ b, I b ∨ X b → w'.heap[b]? = w.heap[b]? := fun b hb => hw b (h.lt b hb) (fun hn e1 => by
    have := h.sep id e0 g he hl hg hn
    subst e1
    exact hb.elim this.1 this.2)
  have hother : ∀ (k : Nat) (e1 : Entry) (g1 : ME), k ≠ id → H[k]? = some e1 → e1.live = true → m[k]? = some g1 → g1.nilrow = false → w'.heap[g1.blk]? = w.heap[g1.blk]? := fun k e1 g1 hk he1 hl1 hg1 hn1 =>
    hw _ (h.blk_lt he1 hl1 hg1 hn1) (fun hn e2 => hk (h.inj k id e1 e0 g1 g he1 hl1 he hl hg1 hg hn1 hn e2))
  refine ⟨by simp [h.len], ?_, ?_, ?_, ?_, h.disj, h.gl.mono (fun _ hb => hb) fun b hb => hI b (.inl hb)⟩
  · intro k e1 he1
    by_cases hk : k = id
    · subst hk
      rw [List.getElem?_set_self hidH] at he1
      cases he1; exact hok
    · rw [List.getElem?_set_ne (Ne.symm hk)] at he1
      exact (h.hok k e1 he1).keep hle (fun _ hb => hb) (fun b hb => hI b (.inl hb)) (List.getElem?_set_ne (Ne.symm hk)) (fun g1 hg1 hn1 hl1 => hother k e1 g1 hk he1 hl1 hg1 hn1)
  · intro k e1 g1 he1 hl1 hg1 hn1
    by_cases hk : k = id
    · subst hk
      rw [List.getElem?_set_self hidm] at hg1
      cases hg1
      rcases hb hn1 with ⟨hn, hbb⟩ | hbb
      · rw [hbb]; exact h.sep k e0 g he hl hg hn
      · exact ⟨fun hi => by have := h.lt _ (.inl hi); omega, fun hi => by have := h.lt _ (.inr hi); omega⟩
    · rw [List.getElem?_set_ne (Ne.symm hk)] at he1 hg1
      exact h.sep k e1 g1 he1 hl1 hg1 hn1
  · have key : ∀ (k : Nat) (e1 : Entry) (g1 : ME), k ≠ id → H[k]? = some e1 → e1.live = true → m[k]? = some g1 → g1.nilrow = false → g'.nilrow = false → g1.blk ≠ g'.blk := fun k e1 g1 hk he1 hl1 hg1 hn1 hn' e2 => by
      rcases hb hn' with ⟨hn, hbb⟩ | hbb
      · exact hk (h.inj k id e1 e0 g1 g he1 hl1 he hl hg1 hg hn1 hn (by rw [e2, hbb]))
      · have := h.blk_lt he1 hl1 hg1 hn1; omega
    intro k k' e1 e2 g1 g2 he1 hl1 he2 hl2 hg1 hg2 hn1 hn2 hbb
    by_cases hk : k = id
    · by_cases hk' : k' = id
      · rw [hk, hk']
      · subst hk
        rw [List.getElem?_set_self hidm] at hg1; cases hg1
        rw [List.getElem?_set_ne (Ne.symm hk')] at he2 hg2
        exact absurd hbb.symm (key k' e2 g2 hk' he2 hl2 hg2 hn2 hn1)
    · rw [List.getElem?_set_ne (Ne.symm hk)] at he1 hg1
      by_cases hk' : k' = id
      · subst hk'
        rw [List.getElem?_set_self hidm] at hg2; cases hg2
        exact absurd hbb (key k e1 g1 hk he1 hl1 hg1 hn1 hn2)
      · rw [List.getElem?_set_ne (Ne.symm hk')] at he2 hg2
        exact h.inj k k' e1 e2 g1 g2 he1 hl1 he2 hl2 hg1 hg2 hn1 hn2 hbb
  · exact fun b hb => Nat.lt_of_lt_of_le (h.lt b hb) hsz

theorem Sim.heap {S : Seat} {m : List ME} {I X : Nat → Prop} {w w' : World} {H : List Entry} (h : Sim S m I X w H) (hw : w'.heap = w.heap) : Sim S m I X w' H := by
  refine ⟨h.len, fun id e he => (h.hok id e he).keep (MLe.refl m) (fun _ hb => hb) (fun b _ => by rw [hw]) rfl (fun _ _ _ _ => by rw [hw]), h.sep, h.inj, fun b hb => by rw [hw]; exact h.lt b hb, h.disj, h.gl.mono (fun _ hb => hb) fun _ _ => by rw [hw]⟩

structure Went (S : Seat) (m : List ME) (I X : Nat → Prop) (w : World) (m' : List ME) (w' : World) (H' : List Entry) : Prop where
  sim : Sim S m' I X w' H'
  le : MLe m m'
  ext : Ext I X w w'

theorem Sim.stay {S : Seat} {m : List ME} {I X : Nat → Prop} {w : World} {H : List Entry} (h : Sim S m I X w H) : Went S m I X w m w H := ⟨h, .refl m, .refl I X w⟩

theorem Sim.ext_write {S : Seat} {m : List ME} {I X : Nat → Prop} {w : World} {H : List Entry} (h : Sim S m I X w H) {id : Nat} {e0 : Entry} {g : ME} {w' : World}
    (he : H[id]? = some e0) (hl : e0.live = true) (hg : m[id]? = some g)
    (hw : ∀ k : Nat, k < w.heap.size → (g.nilrow = false → k ≠ g.blk) → w'.heap[k]? = w.heap[k]?) (hsz : w.heap.size ≤ w'.heap.size)
    (h1 : w'.os = w.os) (h2 : w'.tape = w.tape) (h3 : w'.output = w.output) : Ext I X w w' :=
  ⟨h1, h2, h3, hsz, fun b hb => hw b (h.lt b hb) (fun hn e1 => by
    have := h.sep id e0 g he hl hg hn
    subst e1
    exact hb.elim this.1 this.2)⟩

end Go.Proofs.YtihhinbjhiankaaGreatDoor.Al

/- WHAT A POINTER OR A SLICE SHOWS, IN MEMORY. -/
namespace Go.Proofs.YtihhinbjhiankaaGreatDoor.Al
open Go
variable {S : Seat} {m : List ME} {I X : Nat → Prop} {w : World} {H : List Entry}

theorem addr_add (b o j : Nat) : (⟨b, o, none⟩ : Addr).add j = ⟨b, o + j, none⟩ := Addr.add_lit b o j

theorem one_sound (hs : Sim S m I X w H) {x : AV} {v : Value} (h : Rel S m I w x v) (hx : x.oneIn H = true) : v.oneCell' = true := by
  have key : ∀ {id ver lo hi u : Nat} {sz : Nat} {e : ME} {ys : List AV}, Rel S m I w (.own id ver lo hi) v → m[id]? = some e → RowOk S m I w e sz u ys → u = ver → v.oneCell' = true := by
    intro id ver lo hi u sz e ys hv he hr hu
    cases hv with
    | own _ _ _ _ e' _ he' hver hrel =>
      rw [he] at he'; cases he'
      obtain ⟨_, _, hcase⟩ := hrel (by have := hr.1; omega)
      rcases hcase with ⟨_, _, _, rfl⟩ | ⟨_, _, rfl, _⟩ <;> rfl
  cases x with
  | own id ver lo hi =>
    simp only [AV.oneIn] at hx
    split at hx
    · rename_i sz u ys he
      obtain ⟨e, h1, hr⟩ := hs.hok id _ he
      exact key h h1 hr (by simpa using hx)
    · rename_i sz u ys he
      obtain ⟨e, h1, hr, _⟩ := hs.hok id _ he
      exact key h h1 hr (by simpa using hx)
    · cases hx
  | ptr id off =>
    simp only [AV.oneIn] at hx
    split at hx
    · rename_i cs he
      obtain ⟨e, arr, T, h1, h2, _⟩ := hs.hok id _ he
      cases h with
      | ptr _ _ e' _ he' hv => rw [h1] at he'; cases he'; rw [hv h2]; rfl
    · cases hx
  | undef => cases hx
  | agg cs => cases hx
  | tup cs => cases hx
  | eptr a b c d => cases hx
  | map id => cases hx
  | _ => cases h <;> rfl

theorem window_sound (hs : Sim S m I X w H) {p : AV} {pv : Value} (hp : Rel S m I w p pv) {cs : List AV} {off : Nat} (h : window H p = some (cs, off)) :
    ∃ b o, pv = .pointer (some ⟨b, o + off, none⟩) ∧ ∀ j y, cs[j]? = some y → ∃ v, w.cell? ⟨b, o + j, none⟩ = some v ∧ Rel S m I w y v := by
  cases p with
  | ptr id off' =>
    simp only [window] at h
    split at h
    · rename_i cs' he
      cases h
      obtain ⟨e, arr, T, h1, h2, h3, h4, h5⟩ := hs.hok id _ he
      cases hp with
      | ptr _ _ e' _ he' hv =>
        rw [h1] at he'; cases he'
        refine ⟨e.blk, 0, by simpa using hv h2, fun j y hy => ⟨arr.getD j undef, ?_, h5.2 j y hy⟩⟩
        have hj : j < arr.size := by rw [h5.1]; exact (List.getElem?_eq_some_iff.1 hy).1
        rw [cell_of_row w e.blk (0 + j) arr T (0, 0) h4]
        simp [hj]
    · cases h
  | eptr id ver i off' =>
    simp only [window] at h
    split at h
    · rename_i sz u xs he
      split at h
      · rename_i huv
        split at h
        · rename_i x hx
          cases h
          obtain ⟨e, h1, hr⟩ := hs.hok id _ he
          obtain ⟨r1, r0, r2, r3, r4, r5⟩ := hr
          cases hp with
          | eptr _ _ _ _ e' _ he' hle hv =>
            rw [h1] at he'; cases he'
            obtain ⟨hn, rfl⟩ := hv (by omega)
            rcases r5 with ⟨r5, _⟩ | ⟨_, arr, T, ha, hsz, hc⟩
            · rw [hn] at r5; cases r5
            · refine ⟨e.blk, i * e.sz, rfl, fun j y hy => ⟨arr.getD (i * e.sz + j) undef, ?_, hc i x hx j y hy⟩⟩
              have hj : j < e.sz := by rw [← r4 x (List.mem_of_getElem? hx)]; exact (List.getElem?_eq_some_iff.1 hy).1
              have hi : i < e.cap := Nat.lt_of_lt_of_le (List.getElem?_eq_some_iff.1 hx).1 r2
              have hlt : i * e.sz + j < arr.size := by
                rw [hsz]
                have : (i + 1) * e.sz ≤ e.cap * e.sz := Nat.mul_le_mul_right _ hi
                rw [Nat.add_mul] at this; omega
              rw [cell_of_row w e.blk _ arr T (0, 0) ha]
              simp [hlt]
        · cases h
      · cases h
    · cases h
  | iptr cs' off' =>
    simp only [window] at h
    cases h
    cases hp with
    | iptr _ _ b o rd hI hc hr => exact ⟨b, o, rfl, fun j y hy => ⟨rd j, hc j y hy, hr j y hy⟩⟩
  | _ => simp [window] at h

theorem seen_sound (hs : Sim S m I X w H) {x : AV} {v : Value} (hx : Rel S m I w x v) {xs : List AV} (h : seen H x = some xs) :
    ∃ a c, v = .slice a xs.length c ∧ xs.length ≤ c ∧ (xs = [] ∨ ∃ b off sz, a = some ⟨b, off, none⟩ ∧ (∀ y ∈ xs, y.cells.length = sz) ∧
      ∀ i x, xs[i]? = some x → ∀ j y, x.cells[j]? = some y → ∃ u, w.cell? ⟨b, off + i * sz + j, none⟩ = some u ∧ Rel S m I w y u) := by
  have key : ∀ {id ver lo hi : Nat} {e : ME} {sz u : Nat} {ys : List AV}, Rel S m I w (.own id ver lo hi) v → m[id]? = some e → RowOk S m I w e sz u ys → u = ver → hi ≤ ys.length → (ys.take hi).drop lo = xs →
      ∃ a c, v = .slice a xs.length c ∧ xs.length ≤ c ∧ (xs = [] ∨ ∃ b off sz, a = some ⟨b, off, none⟩ ∧ (∀ y ∈ xs, y.cells.length = sz) ∧
      ∀ i x, xs[i]? = some x → ∀ j y, x.cells[j]? = some y → ∃ u, w.cell? ⟨b, off + i * sz + j, none⟩ = some u ∧ Rel S m I w y u) := by
    intro id ver lo hi e sz u ys hv he hr hu hle hxs
    obtain ⟨r1, r0, r2, r3, r4, r5⟩ := hr
    cases hv with
    | own _ _ _ _ e' _ he' hver hrel =>
      rw [he] at he'; cases he'
      obtain ⟨hlo, hhi, hcase⟩ := hrel (by omega)
      have hlen : xs.length = hi - lo := by rw [← hxs]; simp; omega
      rcases hcase with ⟨hn, hcap, a0, rfl⟩ | ⟨hn, off, rfl, hoff⟩
      · have : hi - lo = 0 := by omega
        refine ⟨a0, 0, by rw [hlen, this], by omega, .inl (List.eq_nil_of_length_eq_zero (by omega))⟩
      · rw [hlen]
        refine ⟨_, _, rfl, by omega, ?_⟩
        by_cases h0 : hi - lo = 0
        · exact .inl (List.eq_nil_of_length_eq_zero (by omega))
        · right
          have hoff := hoff (by omega)
          subst hoff
          rcases r5 with ⟨r5, _⟩ | ⟨_, arr, T, ha, hsz, hc⟩
          · rw [hn] at r5; cases r5
          · refine ⟨e.blk, lo * e.sz, e.sz, rfl, fun y hy => r4 y ?_, fun i x hx j y hy => ?_⟩
            · rw [← hxs] at hy; exact List.mem_of_mem_take (List.mem_of_mem_drop hy)
            · have hx' : ys[lo + i]? = some x := by
                rw [← hxs, List.getElem?_drop, List.getElem?_take] at hx
                split at hx
                · exact hx
                · cases hx
              refine ⟨arr.getD ((lo + i) * e.sz + j) undef, ?_, hc (lo + i) x hx' j y hy⟩
              have hj : j < e.sz := by rw [← r4 x (List.mem_of_getElem? hx')]; exact (List.getElem?_eq_some_iff.1 hy).1
              have hi' : lo + i < e.cap := Nat.lt_of_lt_of_le (List.getElem?_eq_some_iff.1 hx').1 r2
              have hlt : (lo + i) * e.sz + j < arr.size := by
                rw [hsz]
                have : (lo + i + 1) * e.sz ≤ e.cap * e.sz := Nat.mul_le_mul_right _ hi'
                rw [Nat.add_mul (lo + i) 1] at this; omega
              rw [show lo * e.sz + i * e.sz + j = (lo + i) * e.sz + j by rw [Nat.add_mul], cell_of_row w e.blk _ arr T (0, 0) ha]
              simp [hlt]
  cases x with
  | list t ys =>
    simp only [seen] at h
    cases h
    cases hx with
    | empty _ a c ht hc => exact ⟨a, c, rfl, Nat.zero_le _, .inl rfl⟩
    | list _ _ b off n c sz rd hn hnc hcm ht hI hsz hc hr =>
      subst hn
      exact ⟨_, c, rfl, hnc, .inr ⟨b, off, sz, rfl, hsz, fun i x hx j y hy => ⟨rd i j, hc i x hx j y hy, hr i x hx j y hy⟩⟩⟩
  | own id ver lo hi =>
    simp only [seen] at h
    split at h
    · rename_i sz u ys he
      split at h
      · rename_i hu
        cases h
        obtain ⟨e, h1, hr⟩ := hs.hok id _ he
        exact key hx h1 hr hu.1 hu.2 rfl
      · cases h
    · rename_i sz u ys he
      split at h
      · rename_i hu
        cases h
        obtain ⟨e, h1, hr, _⟩ := hs.hok id _ he
        exact key hx h1 hr hu.1 hu.2 rfl
      · cases h
    · cases h
  | _ => simp [seen] at h

def rowVals (w : World) (b off k : Nat) : List Value := (List.range k).map fun j => (w.cell? ⟨b, off + j, none⟩).getD undef

theorem rowVals_length (w : World) (b off k : Nat) : (rowVals w b off k).length = k := by simp [rowVals]

theorem rowVals_get {w : World} {b off k j : Nat} {v : Value} (hj : j < k) (h : w.cell? ⟨b, off + j, none⟩ = some v) : (rowVals w b off k)[j]? = some v := by
  simp [rowVals, hj, h]

theorem mul_add_lt {i j n sz : Nat} (hi : i < n) (hj : j < sz) : i * sz + j < n * sz := by
  have : (i + 1) * sz ≤ n * sz := Nat.mul_le_mul_right _ hi
  rw [Nat.add_mul] at this; omega

theorem divmod_cell {k n sz : Nat} (h : k < n * sz) : k / sz < n ∧ k % sz < sz ∧ k = k / sz * sz + k % sz := by
  have hsz : 0 < sz := Nat.pos_of_ne_zero fun h0 => by subst h0; simp at h
  exact ⟨Nat.div_lt_of_lt_mul (by rw [Nat.mul_comm]; exact h), Nat.mod_lt _ hsz, by rw [Nat.mul_comm]; exact (Nat.div_add_mod k sz).symm⟩

theorem row_vals {xs : List AV} {b off sz : Nat} (hsz : ∀ y ∈ xs, y.cells.length = sz)
    (hc : ∀ i x, xs[i]? = some x → ∀ j y, x.cells[j]? = some y → ∃ u, w.cell? ⟨b, off + i * sz + j, none⟩ = some u ∧ Rel S m I w y u) :
    (∀ k v, (rowVals w b off (xs.length * sz))[k]? = some v → w.cell? ⟨b, off + k, none⟩ = some v) ∧
    (∀ i x, xs[i]? = some x → ∀ j y, x.cells[j]? = some y → ∃ u, (rowVals w b off (xs.length * sz))[i * sz + j]? = some u ∧ Rel S m I w y u) := by
  constructor
  · intro k v hk
    have hlt : k < xs.length * sz := by
      have := (List.getElem?_eq_some_iff.1 hk).1
      rwa [rowVals_length] at this
    obtain ⟨h1, h2, h3⟩ := divmod_cell hlt
    have hx : xs[k / sz]? = some xs[k / sz] := List.getElem?_eq_getElem h1
    have hl := hsz _ (List.mem_of_getElem? hx)
    have hy : xs[k / sz].cells[k % sz]? = some xs[k / sz].cells[k % sz] := List.getElem?_eq_getElem (by rw [hl]; exact h2)
    obtain ⟨u, hu, _⟩ := hc _ _ hx _ _ hy
    rw [show off + k / sz * sz + k % sz = off + k by omega] at hu
    have := rowVals_get hlt hu
    rw [this] at hk; cases hk; exact hu
  · intro i x hx j y hy
    obtain ⟨u, hu, hr⟩ := hc i x hx j y hy
    have hj : j < sz := by rw [← hsz x (List.mem_of_getElem? hx)]; exact (List.getElem?_eq_some_iff.1 hy).1
    have hi := (List.getElem?_eq_some_iff.1 hx).1
    exact ⟨u, rowVals_get (mul_add_lt hi hj) (by rw [show off + (i * sz + j) = off + i * sz + j by omega]; exact hu), hr⟩

end Go.Proofs.YtihhinbjhiankaaGreatDoor.Al

/- LOADS AND STORES. -/
namespace Go.Proofs.YtihhinbjhiankaaGreatDoor.Al
open Go
variable {S : Seat} {m : List ME} {I X : Nat → Prop} {w : World} {H : List Entry}

theorem splice_length {α : Type} {L vs : List α} {o : Nat} (h : o + vs.length ≤ L.length) : (splice L o vs).length = L.length := by
  simp [splice]; omega

theorem splice_get {α : Type} {L vs : List α} {o k : Nat} (h : o + vs.length ≤ L.length) :
    (splice L o vs)[k]? = if k < o then L[k]? else if k < o + vs.length then vs[k - o]? else L[k]? := by
  unfold splice
  by_cases h1 : k < o
  · rw [if_pos h1, List.append_assoc, List.getElem?_append_left (by simp; omega), List.getElem?_take, if_pos h1]
  · rw [if_neg h1]
    by_cases h2 : k < o + vs.length
    · rw [if_pos h2, List.getElem?_append_left (by simp; omega), List.getElem?_append_right (by simp; omega)]
      simp only [List.length_take]
      congr 1; omega
    · rw [if_neg h2, List.getElem?_append_right (by simp; omega), List.getElem?_drop]
      simp only [List.length_append, List.length_take]
      congr 1; omega

theorem getD_toArray {L : List Value} {k : Nat} : L.toArray.getD k undef = L[k]?.getD undef := by simp
theorem getD_list {a : Array Value} {k : Nat} : a.getD k undef = a.toList[k]?.getD undef := by simp

theorem cells_sound (hs : Sim S m I X w H) {x : AV} {v : Value} (h : Rel S m I w x v) (ho : x.cells.all (AV.oneIn H) = true) :
    Rels S m I w x.cells v.cells ∧ ∀ u ∈ v.cells, u.oneCell' = true := by
  have key : ∀ (cs : List AV) (vs : Array Value), Rels S m I w cs vs → cs.all (AV.oneIn H) = true → ∀ u ∈ vs, u.oneCell' = true := by
    intro cs vs hr hall u hu
    obtain ⟨i, hi, rfl⟩ := Array.mem_iff_getElem.1 hu
    have hc : i < cs.length := by rw [← hr.1]; exact hi
    have := hr.2 i cs[i] (List.getElem?_eq_getElem hc)
    rw [show vs.getD i undef = vs[i] by simp [hi]] at this
    exact one_sound hs this (List.all_eq_true.1 hall _ (List.getElem_mem hc))
  by_cases hx : ∃ cs, x = .agg cs
  · obtain ⟨cs, rfl⟩ := hx
    cases h with
    | agg _ vs hsz hr => exact ⟨⟨hsz, hr⟩, key cs vs ⟨hsz, hr⟩ ho⟩
  · have hxc : x.cells = [x] := by cases x <;> first | rfl | exact absurd ⟨_, rfl⟩ hx
    have hone : x.oneIn H = true := by rw [hxc] at ho; simpa using ho
    have hv := one_sound hs h hone
    have hvc : v.cells = #[v] := by cases v <;> first | rfl | (simp [Value.oneCell'] at hv; done)
    rw [hxc, hvc]
    refine ⟨⟨rfl, fun i y hy => ?_⟩, fun u hu => ?_⟩
    · cases i with
      | zero => simp at hy; subst hy; simpa using h
      | succ i => simp at hy
    · simp at hu; subst hu; exact hv

structure TyOk (P : Program) (t : Nat) (agg : Bool) (n : Nat) : Prop where
  und : ∃ d, P.underlying t = some d ∧ (match d with | .struct _ | .array _ _ => true | _ => false) = agg
  inf : ∃ i, P.info? t = some i ∧ i.size = n

theorem run_isAgg {P : Program} {t : Nat} {agg : Bool} {n : Nat} (h : TyOk P t agg n) (w : World) : (isAgg t).run P w = .ok agg w := by
  obtain ⟨d, h1, h2⟩ := h.und
  unfold isAgg
  rw [Sem.run_bind, run_underlying h1 w]
  cases d <;> simp_all
theorem run_sizeOf' {P : Program} {t : Nat} {agg : Bool} {n : Nat} (h : TyOk P t agg n) (w : World) : (sizeOf t).run P w = .ok n w := by
  obtain ⟨i, h1, h2⟩ := h.inf
  simp [sizeOf, typeInfo, h1, h2]

theorem load_run (hs : Sim S m I X w H) {p : AV} {pv : Value} (hp : Rel S m I w p pv) {t : Nat} {agg : Bool} {n : Nat} (ht : TyOk S.P t agg n) {x : AV} (h : evLoad H agg n p = some x) :
    ∃ v, (Instr.loadAt t pv).run S.P w = .ok v w ∧ Rel S m I w x v := by
  unfold evLoad at h
  split at h
  · rename_i cs off hw
    obtain ⟨b, o, rfl, hc⟩ := window_sound hs hp hw
    cases agg with
    | false =>
      simp only [Bool.false_eq_true, if_false] at h
      obtain ⟨v, hv, hr⟩ := hc off x h
      refine ⟨v, ?_, hr⟩
      simp [Instr.loadAt, Instr.sureAddr, loadVar, run_isAgg ht, hv]
    | true =>
      simp only [if_true] at h
      split at h
      · rename_i hle
        cases h
        have hall : ∀ j v, (rowVals w b (o + off) n)[j]? = some v → w.cell? ((⟨b, o + off, none⟩ : Addr).add j) = some v := by
          intro j v hj
          have hlt : j < n := by have := (List.getElem?_eq_some_iff.1 hj).1; rwa [rowVals_length] at this
          obtain ⟨u, hu, _⟩ := hc (off + j) cs[off + j] (List.getElem?_eq_getElem (by omega))
          rw [show o + (off + j) = o + off + j by omega] at hu
          rw [rowVals_get hlt hu] at hj
          cases hj
          rw [addr_add]; exact hu
        refine ⟨.agg (rowVals w b (o + off) n).toArray, ?_, ?_⟩
        · have hl := run_loadCells_list (P := S.P) w ⟨b, o + off, none⟩ _ hall
          rw [rowVals_length] at hl
          simp [Instr.loadAt, Instr.sureAddr, loadVar, run_isAgg ht, run_sizeOf' ht, hl]
        · refine .agg _ _ (by simp [rowVals_length]; omega) (fun i y hy => ?_)
          rw [List.getElem?_take] at hy
          split at hy
          · rename_i hlt
            rw [List.getElem?_drop] at hy
            obtain ⟨u, hu, hr⟩ := hc _ _ hy
            rw [show o + (off + i) = o + off + i by omega] at hu
            rw [getD_toArray, rowVals_get hlt hu]
            exact hr
          · cases hy
      · cases h
  · cases h

theorem Rels.splice {cs vs : List AV} {a b : List Value} {o : Nat} (h : Rels S m I w cs a.toArray) (k : Rels S m I w vs b.toArray) (hle : o + vs.length ≤ cs.length) :
    Rels S m I w (splice cs o vs) (Al.splice a o b).toArray := by
  obtain ⟨h1, h2⟩ := h
  obtain ⟨k1, k2⟩ := k
  simp only [List.size_toArray] at h1 k1
  have hb : o + b.length ≤ a.length := by omega
  refine ⟨by simp only [List.size_toArray]; rw [splice_length hb, splice_length hle, h1], fun i x hx => ?_⟩
  rw [splice_get hle] at hx
  rw [getD_toArray, splice_get hb, k1]
  by_cases h3 : i < o
  · rw [if_pos h3] at hx ⊢
    have := h2 i x hx; rwa [getD_toArray] at this
  · rw [if_neg h3] at hx ⊢
    by_cases h4 : i < o + vs.length
    · rw [if_pos h4] at hx ⊢
      have := k2 _ x hx; rwa [getD_toArray] at this
    · rw [if_neg h4] at hx ⊢
      have := h2 i x hx; rwa [getD_toArray] at this

theorem splice_one {x : AV} {c : List AV} {off : Nat} (hn : 0 < c.length) (h : off + c.length ≤ 1) : splice [x] off c = c := by
  have h0 : off = 0 := by omega
  have h1 : c.length = 1 := by omega
  subst h0
  simp [splice, h1]

theorem setPart_cells {x v : AV} {off : Nat} (hn : 0 < v.cells.length) (h : off + v.cells.length ≤ x.cells.length) : (setPart x off v).cells = splice x.cells off v.cells := by
  cases x with
  | agg cs => rfl
  | _ => exact (splice_one hn h).symm

theorem RowOk.store {e : ME} {sz ver : Nat} {xs : List AV} {w' : World} {arr : Array Value} {T : Nat} {i off : Nat} {x v : AV} {vs : List Value}
    (h : RowOk S m I w e sz ver xs) (hn : e.nilrow = false) (ha : w.heap[e.blk]? = some (.cells arr T (0, 0)))
    (hI : ∀ b, I b → w'.heap[b]? = w.heap[b]?)
    (ha' : w'.heap[e.blk]? = some (.cells (splice arr.toList (i * e.sz + off) vs).toArray T (0, 0)))
    (hx : xs[i]? = some x) (h0 : 0 < v.cells.length) (hoff : off + v.cells.length ≤ x.cells.length) (hv : Rels S m I w v.cells vs.toArray) :
    RowOk S m I w' e sz ver (xs.set i (setPart x off v)) := by
  obtain ⟨h1, h00, h2, h3, h4, h5⟩ := h
  have hlt := (List.getElem?_eq_some_iff.1 hx).1
  have hxs : x.cells.length = e.sz := h4 x (List.mem_of_getElem? hx)
  have hvl : vs.length = v.cells.length := by have := hv.1; simpa using this
  refine ⟨h1, h00, by simpa using h2, h3, ?_, ?_⟩
  · intro y hy
    rcases List.mem_or_eq_of_mem_set hy with hy | rfl
    · exact h4 y hy
    · rw [setPart_cells h0 hoff, splice_length hoff, hxs]
  · rcases h5 with ⟨h5, _⟩ | ⟨_, arr', T', ha2, hsz, hc⟩
    · rw [hn] at h5; cases h5
    · rw [ha] at ha2; cases ha2
      have hfit : i * e.sz + off + vs.length ≤ arr.toList.length := by
        have : (i + 1) * e.sz ≤ e.cap * e.sz := Nat.mul_le_mul_right _ (by omega)
        rw [Nat.add_mul] at this
        simp only [Array.length_toList, hsz]; omega
      refine .inr ⟨hn, _, T, ha', by simp only [List.size_toArray]; rw [splice_length hfit]; simpa using hsz, ?_⟩
      intro i' x' hx' j y hy
      rw [getD_toArray, splice_get hfit]
      by_cases hi : i' = i
      · subst hi
        rw [List.getElem?_set_self hlt] at hx'
        cases hx'
        rw [setPart_cells h0 hoff, splice_get hoff] at hy
        by_cases hj : j < off
        · rw [if_pos hj] at hy
          rw [if_pos (by omega)]
          have := hc i' x hx j y hy
          rw [getD_list] at this
          exact this.mono (MLe.refl m) (fun _ hb => hb) hI
        · rw [if_neg hj] at hy
          rw [if_neg (by omega)]
          by_cases hj2 : j < off + v.cells.length
          · rw [if_pos hj2] at hy
            rw [if_pos (by omega)]
            have := hv.2 _ y hy
            rw [getD_toArray] at this
            rw [show i' * e.sz + j - (i' * e.sz + off) = j - off by omega]
            exact this.mono (MLe.refl m) (fun _ hb => hb) hI
          · rw [if_neg hj2] at hy
            rw [if_neg (by omega)]
            have := hc i' x hx j y hy
            rw [getD_list] at this
            exact this.mono (MLe.refl m) (fun _ hb => hb) hI
      · rw [List.getElem?_set_ne (Ne.symm hi)] at hx'
        have hj : j < e.sz := by rw [← h4 x' (List.mem_of_getElem? hx')]; exact (List.getElem?_eq_some_iff.1 hy).1
        have := hc i' x' hx' j y hy
        rw [getD_list] at this
        rcases Nat.lt_or_gt_of_ne hi with hlt' | hgt
        · have h6 : (i' + 1) * e.sz ≤ i * e.sz := Nat.mul_le_mul_right _ hlt'
          rw [Nat.add_mul] at h6
          rw [if_pos (by omega)]
          exact this.mono (MLe.refl m) (fun _ hb => hb) hI
        · have h6 : (i + 1) * e.sz ≤ i' * e.sz := Nat.mul_le_mul_right _ hgt
          rw [Nat.add_mul] at h6
          rw [if_neg (by omega), if_neg (by omega)]
          exact this.mono (MLe.refl m) (fun _ hb => hb) hI

theorem store_run (hs : Sim S m I X w H) {p v : AV} {pv vv : Value} (hp : Rel S m I w p pv) (hv : Rel S m I w v vv) {t : Nat} {agg : Bool} {n : Nat} (ht : TyOk S.P t agg n) {H' : List Entry}
    (h : evStore H n p v = some H') : ∃ w', (Instr.storeAt t pv vv).run S.P w = .ok () w' ∧ Went S m I X w m w' H' := by
  unfold evStore at h
  split at h
  · rename_i hcond
    obtain ⟨hlen, hn0, hone⟩ := hcond
    obtain ⟨hrels, hall⟩ := cells_sound hs hv hone
    have hvsz : vv.cells.size = n := by rw [hrels.1, hlen]
    have hrels' : Rels S m I w v.cells vv.cells.toList.toArray := by simpa using hrels
    have hall' : ∀ u ∈ vv.cells.toList, u.oneCell' = true := fun u hu => hall u (by simpa using hu)
    cases p with
    | ptr id off =>
      simp only at h
      split at h
      · rename_i cs he
        split at h
        · rename_i hle
          cases h
          obtain ⟨e, arr, T, h1, h2, h3, h4, h5⟩ := hs.hok id _ he
          cases hp with
          | ptr _ _ e' _ he' hpv =>
            rw [h1] at he'; cases he'
            rw [hpv h2]
            have hfit : off + 0 + vv.cells.toList.length ≤ arr.size := by
              rw [h5.1]; simp only [Array.length_toList, hvsz]; omega
            have hst : (storeCells ⟨e.blk, off, none⟩ vv.cells.toList 0).run S.P w = .ok () (w.setRow e.blk (splice arr.toList off vv.cells.toList).toArray) := run_storeCells_at S.P e.blk off T vv.cells.toList 0 arr w h4 hfit hall'
            have hw : ∀ k : Nat, k < w.heap.size → (e.nilrow = false → k ≠ e.blk) → (w.setRow e.blk (splice arr.toList off vv.cells.toList).toArray).heap[k]? = w.heap[k]? :=
              fun k _ hk => setRow_other w e.blk k _ (hk h3)
            have hI : ∀ b, I b → (w.setRow e.blk (splice arr.toList off vv.cells.toList).toArray).heap[b]? = w.heap[b]? := fun b hb =>
              hw b (hs.lt b (.inl hb)) (fun _ e1 => (hs.sep id _ e he rfl h1 h3).1 (e1 ▸ hb))
            refine ⟨_, by simp [Instr.storeAt, Instr.sureAddr, storeVar, run_sizeOf' ht, hvsz, hst], ?_, .refl m, hs.ext_write he rfl h1 hw (by simp) rfl rfl rfl⟩
            have hset : m.set id e = m := List.ext_getElem? fun k => by
              by_cases hk : k = id
              · subst hk; rw [List.getElem?_set_self (List.getElem?_eq_some_iff.1 h1).1, h1]
              · rw [List.getElem?_set_ne (Ne.symm hk)]
            have := hs.write (e := .box (splice cs off v.cells)) he rfl h1 (.inl rfl) hw (by simp) (fun _ => .inl ⟨h3, rfl⟩) (by
              rw [hset]
              refine ⟨e, _, T, h1, h2, h3, setRow_heap w e.blk arr _ T _ h4, ?_⟩
              have h6 : Rels S m I w cs arr.toList.toArray := by simpa using h5
              exact (h6.splice hrels' (by rw [hlen]; exact hle)).mono (MLe.refl m) (fun _ hb => hb) hI)
            rwa [hset] at this
        · cases h
      · cases h
    | eptr id ver i off =>
      simp only at h
      split at h
      · rename_i sz u xs he
        split at h
        · rename_i huv
          split at h
          · rename_i x hx
            split at h
            · rename_i hle
              cases h
              obtain ⟨e, h1, hr⟩ := hs.hok id _ he
              cases hp with
              | eptr _ _ _ _ e' _ he' hver hpv =>
                rw [h1] at he'; cases he'
                have hev := hr.1
                obtain ⟨h3, rfl⟩ := hpv (by omega)
                have hr2 := hr
                obtain ⟨r1, r0, r2, r3, r4, r5⟩ := hr2
                rcases r5 with ⟨r5, _⟩ | ⟨_, arr, T, h4, hsz, hc⟩
                · rw [h3] at r5; cases r5
                have hxs : x.cells.length = e.sz := r4 x (List.mem_of_getElem? hx)
                have hlt := (List.getElem?_eq_some_iff.1 hx).1
                have hfit : i * e.sz + off + 0 + vv.cells.toList.length ≤ arr.size := by
                  have : (i + 1) * e.sz ≤ e.cap * e.sz := Nat.mul_le_mul_right _ (by omega)
                  rw [Nat.add_mul] at this
                  simp only [Array.length_toList, hvsz, hsz]; omega
                have hst : (storeCells ⟨e.blk, i * e.sz + off, none⟩ vv.cells.toList 0).run S.P w = .ok () (w.setRow e.blk (splice arr.toList (i * e.sz + off) vv.cells.toList).toArray) := run_storeCells_at S.P e.blk (i * e.sz + off) T vv.cells.toList 0 arr w h4 hfit hall'
                have hw : ∀ k : Nat, k < w.heap.size → (e.nilrow = false → k ≠ e.blk) → (w.setRow e.blk (splice arr.toList (i * e.sz + off) vv.cells.toList).toArray).heap[k]? = w.heap[k]? :=
                  fun k _ hk => setRow_other w e.blk k _ (hk h3)
                have hI : ∀ b, I b → (w.setRow e.blk (splice arr.toList (i * e.sz + off) vv.cells.toList).toArray).heap[b]? = w.heap[b]? := fun b hb =>
                  hw b (hs.lt b (.inl hb)) (fun _ e1 => (hs.sep id _ e he rfl h1 h3).1 (e1 ▸ hb))
                refine ⟨_, by simp [Instr.storeAt, Instr.sureAddr, storeVar, run_sizeOf' ht, hvsz, hst], ?_, .refl m, hs.ext_write he rfl h1 hw (by simp) rfl rfl rfl⟩
                have hset : m.set id e = m := List.ext_getElem? fun k => by
                  by_cases hk : k = id
                  · subst hk; rw [List.getElem?_set_self (List.getElem?_eq_some_iff.1 h1).1, h1]
                  · rw [List.getElem?_set_ne (Ne.symm hk)]
                have := hs.write (e := .arr sz u (xs.set i (setPart x off v))) he rfl h1 (.inl rfl) hw (by simp) (fun _ => .inl ⟨h3, rfl⟩) (by
                  rw [hset]
                  exact ⟨e, h1, hr.store h3 h4 hI (setRow_heap w e.blk arr _ T _ h4) hx (by omega) (by omega) hrels'⟩)
                rwa [hset] at this
            · cases h
          · cases h
        · cases h
      · cases h
    | _ => simp at h
  · cases h

end Go.Proofs.YtihhinbjhiankaaGreatDoor.Al

/- INDEX AND SLICE EXPRESSIONS. -/
namespace Go.Proofs.YtihhinbjhiankaaGreatDoor.Al
open Go
variable {S : Seat} {m : List ME} {I X : Nat → Prop} {w : World} {H : List Entry}

theorem index_run (hs : Sim S m I X w H) {x i : AV} {xv iv : Value} (hx : Rel S m I w x xv) (hi : Rel S m I w i iv) {t e : Nat} {esz : Nat}
    (ht : S.P.underlying t = some (.slice e)) (he : ∃ j, S.P.info? e = some j ∧ j.size = esz) {p : AV} (h : evIndex H esz x i = some p) :
    ∃ pv, (Instr.indexAt t xv iv).run S.P w = .ok pv w ∧ Rel S m I w p pv := by
  obtain ⟨inf, hinf, rfl⟩ := he
  cases i with
  | int k n =>
    cases hi
    simp only [evIndex] at h
    split at h
    · rename_i hn
      have run : ∀ {a : Addr} {len cap : Nat}, n < len → (Instr.indexAt t (.slice (some a) len cap) (.int k n)).run S.P w = .ok (.pointer (some (a.add (n.toNat * inf.size)))) w := by
        intro a len cap hlt
        simp [Instr.indexAt, run_underlying ht, asIntOf, hn, hlt, sizeOf, typeInfo, hinf]
      cases x with
      | list tt xs =>
        simp only at h
        split at h
        · rename_i y hy
          split at h
          · rename_i hsz
            cases h
            have hlt := (List.getElem?_eq_some_iff.1 hy).1
            cases hx with
            | empty => simp at hy
            | list _ _ b off n' c sz rd hn' hnc hcm ht' hI hsz' hc hr =>
              have : sz = inf.size := by rw [← hsz' y (List.mem_of_getElem? hy)]; exact hsz
              subst this
              refine ⟨_, run (by omega), ?_⟩
              rw [addr_add]
              have := Rel.iptr (S := S) (m := m) (I := I) (w := w) y.cells 0 b (off + n.toNat * inf.size) (rd n.toNat) hI (hc _ y hy) (hr _ y hy)
              simpa using this
          · cases h
        · cases h
      | own id ver lo hi' =>
        simp only at h
        split at h
        · rename_i sz u xs hH
          split at h
          · rename_i hcond
            split at h
            · rename_i y hy
              · cases h
                obtain ⟨e1, h1, r1, r0, r2, r3, r4, r5⟩ := hs.hok id _ hH
                cases hx with
                | own _ _ _ _ e2 _ he2 hver hrel =>
                  rw [h1] at he2; cases he2
                  obtain ⟨hlo, hhi, hcase⟩ := hrel (by omega)
                  have : e1.sz = inf.size := by rw [r0]; exact hcond.2.2
                  rcases hcase with ⟨_, hcap, _⟩ | ⟨hnn, off, rfl, hoff⟩
                  · omega
                  · have := hoff (by omega)
                    subst this
                    refine ⟨_, run (by omega), ?_⟩
                    rw [addr_add]
                    refine .eptr id ver _ 0 e1 _ h1 hver (fun _ => ⟨hnn, ?_⟩)
                    rw [← ‹e1.sz = inf.size›, Nat.add_mul]; rfl
            · cases h
          · cases h
        · rename_i sz u xs hH
          split at h
          · rename_i hcond
            split at h
            · rename_i y hy
              · cases h
                obtain ⟨e1, h1, ⟨r1, r0, r2, r3, r4, r5⟩, rI⟩ := hs.hok id _ hH
                cases hx with
                | own _ _ _ _ e2 _ he2 hver hrel =>
                  rw [h1] at he2; cases he2
                  obtain ⟨hlo, hhi, hcase⟩ := hrel (by omega)
                  have hesz : e1.sz = inf.size := by rw [r0]; exact hcond.2.2
                  rcases hcase with ⟨_, hcap, _⟩ | ⟨hnn, off, rfl, hoff⟩
                  · omega
                  · have := hoff (by omega)
                    subst this
                    refine ⟨_, run (by omega), ?_⟩
                    rw [addr_add]
                    rcases r5 with ⟨r5, _⟩ | ⟨_, arr, T, ha, hasz, hc⟩
                    · rw [hnn] at r5; cases r5
                    have hll : lo + n.toNat < e1.cap := by omega
                    have := Rel.iptr (S := S) (m := m) (I := I) (w := w) y.cells 0 e1.blk ((lo + n.toNat) * e1.sz) (fun j => arr.getD ((lo + n.toNat) * e1.sz + j) undef) (rI hnn)
                      (fun j z hz => by
                        have hj : j < e1.sz := by rw [← r4 y (List.mem_of_getElem? hy)]; exact (List.getElem?_eq_some_iff.1 hz).1
                        have hlt : (lo + n.toNat) * e1.sz + j < arr.size := by rw [hasz]; exact mul_add_lt hll hj
                        rw [cell_of_row w e1.blk _ arr T (0, 0) ha]; simp [hlt])
                      (fun j z hz => hc _ y hy j z hz)
                    rw [Nat.add_mul] at this
                    rw [← hesz]
                    simpa using this
            · cases h
          · cases h
        · cases h
      | _ => simp at h
    · cases h
  | _ => simp [evIndex] at h

def RelO (S : Seat) (m : List ME) (I : Nat → Prop) (w : World) : Option AV → Option Value → Prop
  | none, none => True
  | some x, some v => Rel S m I w x v
  | _, _ => False

theorem bound_cases {lo : Option AV} {lo' : Option Value} (h : RelO S m I w lo lo') {d l : Nat} (e : evBound d lo = some l) :
    (lo = none ∧ lo' = none ∧ l = d) ∨ ∃ k n, lo = some (.int k n) ∧ lo' = some (.int k n) ∧ 0 ≤ n ∧ l = n.toNat := by
  cases lo with
  | none => cases lo' with
    | none => simp [evBound] at e; exact .inl ⟨rfl, rfl, e.symm⟩
    | some v => cases h
  | some x => cases lo' with
    | none => cases h
    | some v =>
      cases x with
      | int k n =>
        cases h
        simp only [evBound] at e
        split at e
        · cases e; exact .inr ⟨k, n, rfl, rfl, ‹_›, rfl⟩
        · cases e
      | _ => simp [evBound] at e

theorem bounds_run {P : Program} {lo hi : Option AV} {lo' hi' : Option Value} (hl : RelO S m I w lo lo') (hh : RelO S m I w hi hi') {len cap l h : Nat} (hcap : len ≤ cap)
    (e1 : evBound 0 lo = some l) (e2 : evBound len hi = some h) (h1 : l ≤ h) (h2 : h ≤ len) : (Instr.sliceBounds true len cap lo' hi' none).run P w = .ok (l, h, cap) w := by
  rcases bound_cases hl e1 with ⟨_, rfl, rfl⟩ | ⟨k, n, _, rfl, hn, rfl⟩ <;> rcases bound_cases hh e2 with ⟨_, rfl, rfl⟩ | ⟨k', n', _, rfl, hn', rfl⟩
  · simp [Instr.sliceBounds]
  · have : n' ≤ (cap : Int) := by omega
    simp [Instr.sliceBounds, run_sliceBound w _ _ _ _ hn' this]
  · have : n ≤ (h : Int) := by omega
    simp [Instr.sliceBounds, run_sliceBound w _ _ _ _ hn this]
  · have h3 : n' ≤ (cap : Int) := by omega
    have h4 : n ≤ ((n'.toNat : Nat) : Int) := by omega
    simp [Instr.sliceBounds, run_sliceBound w _ _ _ _ hn' h3, run_sliceBound w _ _ _ _ hn h4]

theorem bounds_run3 {P : Program} {lo hi mx : Option AV} {lo' hi' mx' : Option Value} (hl : RelO S m I w lo lo') (hh : RelO S m I w hi hi') (hm : RelO S m I w mx mx') {len cap l h d : Nat} (hcap : len ≤ cap)
    (e1 : evBound 0 lo = some l) (e2 : evBound d hi = some h) (hhi : hi ≠ none) (e3 : evBound 0 mx = some h) (hmx : mx ≠ none) (h1 : l ≤ h) (h2 : h ≤ len) : (Instr.sliceBounds true len cap lo' hi' mx').run P w = .ok (l, h, h) w := by
  rcases bound_cases hh e2 with ⟨h0, _, _⟩ | ⟨k', n', _, rfl, hn', rfl⟩
  · exact absurd h0 hhi
  rcases bound_cases hm e3 with ⟨h0, _, _⟩ | ⟨k3, n3, _, rfl, hn3, h33⟩
  · exact absurd h0 hmx
  have h3 : n3 ≤ (cap : Int) := by omega
  have h4 : n' ≤ ((n3.toNat : Nat) : Int) := by omega
  rcases bound_cases hl e1 with ⟨_, rfl, rfl⟩ | ⟨k, n, _, rfl, hn, rfl⟩
  · simp [Instr.sliceBounds, run_sliceBound w _ _ _ _ hn3 h3, run_sliceBound w _ _ _ _ hn' h4, h33]
  · have h5 : n ≤ ((n3.toNat : Nat) : Int) := by omega
    simp [Instr.sliceBounds, run_sliceBound w _ _ _ _ hn3 h3, run_sliceBound w _ _ _ _ hn' h4, run_sliceBound w _ _ _ _ hn h5, h33]

theorem slice_any {P : Program} {t e : Nat} {inf : TypeInfo} (ht : P.underlying t = some (.slice e)) (hinf : P.info? e = some inf) {a : Option Addr} {len cap l h mm : Nat} {lo hi mx : Option Value}
    (hb : (Instr.sliceBounds true len cap lo hi mx).run P w = .ok (l, h, mm) w) :
    (Instr.sliceAt t (.slice a len cap) lo hi mx).run P w = .ok (.slice (if mm = l then a else a.map (·.add (l * inf.size))) (h - l) (mm - l)) w := by
  simp [Instr.sliceAt, Instr.slice, run_underlying ht, hb, sizeOf, typeInfo, hinf]

theorem Rel.sub {t' : Bool} {xs : List AV} {b off n esz l h c' : Nat} {rd : Nat → Nat → Value} (hn : xs.length = n) (hI : I b)
    (hsz : ∀ x ∈ xs, x.cells.length = esz)
    (hc : ∀ i x, xs[i]? = some x → ∀ j y, x.cells[j]? = some y → w.cell? ⟨b, off + i * esz + j, none⟩ = some (rd i j))
    (hr : ∀ i x, xs[i]? = some x → ∀ j y, x.cells[j]? = some y → Rel S m I w y (rd i j)) (h1 : l ≤ h) (h2 : h ≤ n) (hc' : h - l ≤ c') (hcm : c' ≤ 9223372036854775807) (ht' : t' = true → c' = h - l) {a : Option Addr}
    (ha : l < h → a = some ⟨b, off + l * esz, none⟩) : Rel S m I w (.list t' ((xs.take h).drop l)) (.slice a (h - l) c') := by
  rcases Nat.eq_or_lt_of_le h1 with heq | hlt
  · subst heq
    have : (xs.take l).drop l = [] := by simp
    rw [this, Nat.sub_self]
    exact .empty t' a c' (fun h => by have := ht' h; omega) hcm
  · rw [ha hlt]
    refine .list t' _ b (off + l * esz) (h - l) c' esz (fun i j => rd (l + i) j) (by simp; omega) hc' hcm ht' hI (fun x hx => hsz x (List.mem_of_mem_take (List.mem_of_mem_drop hx))) (fun i x hx j y hy => ?_) (fun i x hx j y hy => ?_)
    all_goals
      have hx' : xs[l + i]? = some x := by
        rw [List.getElem?_drop, List.getElem?_take] at hx
        split at hx
        · exact hx
        · cases hx
    · have := hc _ x hx' j y hy
      rw [Nat.add_mul] at this
      rw [show off + l * esz + i * esz + j = off + (l * esz + i * esz) + j by omega]
      exact this
    · exact hr _ x hx' j y hy

theorem slice_run (hs : Sim S m I X w H) {x : AV} {xv : Value} (hx : Rel S m I w x xv) {lo hi mx : Option AV} {lo' hi' mx' : Option Value}
    (hl : RelO S m I w lo lo') (hh : RelO S m I w hi hi') (hm : RelO S m I w mx mx') {t e : Nat} {esz : Nat}
    (ht : S.P.underlying t = some (.slice e)) (he : ∃ j, S.P.info? e = some j ∧ j.size = esz) {p : AV} (h : evSlice H esz x lo hi mx = some p) :
    ∃ pv, (Instr.sliceAt t xv lo' hi' mx').run S.P w = .ok pv w ∧ Rel S m I w p pv := by
  obtain ⟨inf, hinf, rfl⟩ := he
  cases x with
  | list tt xs =>
    simp only [evSlice] at h
    split at h
    · rename_i l hh' e1 e2
      split at h
      · rename_i hcond
        obtain ⟨c1, c2, c3⟩ := hcond
        -- what the slice is
        have hval : ∃ a c, xv = .slice a xs.length c ∧ xs.length ≤ c ∧ c ≤ 9223372036854775807 ∧ (tt = true → c = xs.length) ∧
            (∀ (t' : Bool) (l h c' : Nat) (a' : Option Addr), l ≤ h → h ≤ xs.length → h - l ≤ c' → c' ≤ 9223372036854775807 → (t' = true → c' = h - l) → (l < h → a' = a.map (·.add (l * inf.size))) → Rel S m I w (.list t' ((xs.take h).drop l)) (.slice a' (h - l) c')) := by
          cases hx with
          | empty _ a c hte hce =>
            refine ⟨a, c, rfl, Nat.zero_le _, hce, fun h => hte h, fun t' l h c' a' h1 h2 h3 h4 h5 h6 => ?_⟩
            simp only [List.length_nil, Nat.le_zero] at h2
            subst h2
            simp only [Nat.le_zero] at h1
            subst h1
            exact .empty t' a' c' (fun h => by have := h5 h; omega) h4
          | list _ _ b off n c sz rd hn hnc hcm htt hI hsz hc hr =>
            subst hn
            refine ⟨_, c, rfl, hnc, hcm, htt, fun t' l h c' a' h1 h2 h3 h4 h5 h6 => ?_⟩
            rcases Nat.eq_or_lt_of_le h1 with heq | hlt
            · subst heq
              have : (xs.take l).drop l = [] := by simp
              rw [this, Nat.sub_self]
              exact .empty t' a' c' (fun h => by have := h5 h; omega) h4
            · have hsz' : sz = inf.size := by
                rw [← hsz xs[l] (List.getElem_mem (by omega))]
                have := List.all_eq_true.1 c3 xs[l] (List.getElem_mem (by omega))
                simpa using this
              subst hsz'
              exact Rel.sub rfl hI hsz hc hr h1 h2 h3 h4 h5 (fun hlt => by rw [h6 hlt]; simp [addr_add])
        obtain ⟨a, c, rfl, hnc, hcm, htt, hsub⟩ := hval
        cases mx with
        | none =>
          have hmx' : mx' = none := by cases mx' with | none => rfl | some v => cases hm
          subst hmx'
          cases h
          refine ⟨_, slice_any ht hinf (bounds_run hl hh hnc e1 e2 c1 c2), hsub _ _ _ _ _ c1 c2 (by omega) (by omega) (fun htt' => ?_) (fun hlt => if_neg (by omega))⟩
          simp only [Bool.and_eq_true, beq_iff_eq] at htt'
          have := htt htt'.1
          omega
        | some mv =>
          simp only at h
          split at h
          · rename_i mm hhv e3 e4
            split at h
            · rename_i heq
              subst heq
              cases h
              refine ⟨_, slice_any ht hinf (bounds_run3 hl hh hm hnc e1 e2 (by simp) e4 (by simp) c1 c2), hsub _ _ _ _ _ c1 c2 (by omega) (by omega) (fun _ => rfl) (fun hlt => if_neg (by omega))⟩
            · cases h
          · cases h
      · cases h
    · cases h
  | own id ver a b =>
    simp only [evSlice] at h
    split at h
    · rename_i sz u xs hH
      split at h
      · rename_i hcond
        obtain ⟨e1, h1, r1, r0, r2, r3, r4, r5⟩ := hs.hok id _ hH
        cases hx with
        | own _ _ _ _ e2 _ he2 hver hrel =>
          rw [h1] at he2; cases he2
          obtain ⟨hlo, hhi, hcase⟩ := hrel (by omega)
          -- the value's parts
          have hval : ∃ ao, xv = .slice ao (b - a) (e1.cap - a) ∧ ((e1.nilrow = true ∧ e1.cap = 0) ∨ (e1.nilrow = false ∧ ∃ off, ao = some ⟨e1.blk, off, none⟩ ∧ (a < e1.cap → off = a * e1.sz))) := by
            rcases hcase with ⟨q1, q2, a0, rfl⟩ | ⟨q1, off, rfl, q2⟩
            · exact ⟨a0, by rw [show b - a = 0 by omega, show e1.cap - a = 0 by omega], .inl ⟨q1, q2⟩⟩
            · exact ⟨_, rfl, .inr ⟨q1, off, rfl, q2⟩⟩
          obtain ⟨ao, rfl, hao⟩ := hval
          clear hcase hrel
          split at h
          · rename_i l hh' f1 f2
            split at h
            · rename_i hc2
              cases h
              obtain ⟨k1, k2, k3⟩ := hc2
              have hmx' : mx' = none := by cases mx' with | none => rfl | some v => cases hm
              subst hmx'
              refine ⟨_, slice_any ht hinf (bounds_run hl hh (by omega) f1 f2 k1 (by omega)), .own id ver _ _ e1 _ h1 hver (fun _ => ⟨by omega, by omega, ?_⟩)⟩
              rcases hao with ⟨q1, q2⟩ | ⟨q1, off, rfl, q2⟩
              · refine .inl ⟨q1, q2, ?_⟩
                have : l = 0 := by omega
                have : hh' = 0 := by omega
                subst l; subst hh'
                exact ⟨_, by rw [show e1.cap - a - 0 = 0 by omega]⟩
              · refine .inr ⟨q1, if e1.cap - a = l then off else off + l * inf.size, ?_, fun hlt => ?_⟩
                · by_cases hz : e1.cap - a = l
                  · rw [if_pos hz, if_pos hz, show a + hh' - (a + l) = hh' - l by omega, show e1.cap - (a + l) = e1.cap - a - l by omega]
                  · rw [if_neg hz, if_neg hz, show a + hh' - (a + l) = hh' - l by omega, show e1.cap - (a + l) = e1.cap - a - l by omega]
                    simp [addr_add]
                · rw [if_neg (by omega), q2 (by omega), Nat.add_mul]
                  by_cases hz : l = 0
                  · subst hz; simp
                  · rw [r0, k3]
            · cases h
          · rename_i l hh' mv f1 f2
            split at h
            · rename_i mm hhv e3 e4
              split at h
              · rename_i hc2
                cases h
                obtain ⟨k0, k1, k2⟩ := hc2
                subst k0; subst k1
                refine ⟨_, slice_any ht hinf (bounds_run3 hl hh hm (by omega) f1 f2 (by simp) e4 (by simp) (Nat.le_refl _) (by omega)), ?_⟩
                rw [Nat.sub_self]
                exact .empty true _ 0 (fun _ => rfl) (by omega)
              · cases h
            · cases h
          · cases h
      · cases h
    · rename_i sz u xs hH
      split at h
      · rename_i hcond
        obtain ⟨e1, h1, ⟨r1, r0, r2, r3, r4, r5⟩, rI⟩ := hs.hok id _ hH
        cases hx with
        | own _ _ _ _ e2 _ he2 hver hrel =>
          rw [h1] at he2; cases he2
          obtain ⟨hlo, hhi, hcase⟩ := hrel (by omega)
          have hval : ∃ ao, xv = .slice ao (b - a) (e1.cap - a) ∧ ((e1.nilrow = true ∧ e1.cap = 0) ∨ (e1.nilrow = false ∧ ∃ off, ao = some ⟨e1.blk, off, none⟩ ∧ (a < e1.cap → off = a * e1.sz))) := by
            rcases hcase with ⟨q1, q2, a0, rfl⟩ | ⟨q1, off, rfl, q2⟩
            · exact ⟨a0, by rw [show b - a = 0 by omega, show e1.cap - a = 0 by omega], .inl ⟨q1, q2⟩⟩
            · exact ⟨_, rfl, .inr ⟨q1, off, rfl, q2⟩⟩
          obtain ⟨ao, rfl, hao⟩ := hval
          clear hcase hrel
          have hsub : ∀ (t' : Bool) (l h c' : Nat) (a' : Option Addr), l ≤ h → a + h ≤ b → h - l ≤ c' → c' ≤ 9223372036854775807 → (t' = true → c' = h - l) → sz = inf.size → (l < h → a' = ao.map (·.add (l * inf.size))) → Rel S m I w (.list t' ((xs.take (a + h)).drop (a + l))) (.slice a' (h - l) c') := by
            intro t' l h c' a' p1 p2 p3 p4 p5 p6 p7
            rcases Nat.eq_or_lt_of_le p1 with heq | hlt
            · subst heq
              have : (xs.take (a + l)).drop (a + l) = [] := by simp
              rw [this, Nat.sub_self]
              exact .empty t' a' c' (fun h => by have := p5 h; omega) p4
            · rcases r5 with ⟨_, r5⟩ | ⟨hnn, arr, T, ha, hasz, hcn⟩
              · omega
              have hesz : e1.sz = inf.size := by rw [r0]; exact p6
              rcases hao with ⟨q1, _⟩ | ⟨q1, off, rfl, q2⟩
              · rw [hnn] at q1; cases q1
              have := q2 (by omega)
              subst this
              have hh : h - l = (a + h) - (a + l) := by omega
              rw [hh]
              refine Rel.sub (rd := fun i j => arr.getD (i * e1.sz + j) undef) (off := 0) (esz := e1.sz) rfl (rI hnn) r4 (fun i x hx j y hy => ?_) (fun i x hx j y hy => hcn i x hx j y hy) (by omega) (by omega) (by omega) p4 (fun h => by rw [p5 h]; omega) (fun _ => ?_)
              · have hj : j < e1.sz := by rw [← r4 x (List.mem_of_getElem? hx)]; exact (List.getElem?_eq_some_iff.1 hy).1
                have hi : i < e1.cap := Nat.lt_of_lt_of_le (List.getElem?_eq_some_iff.1 hx).1 r2
                have hlt : i * e1.sz + j < arr.size := by rw [hasz]; exact mul_add_lt hi hj
                rw [cell_of_row w e1.blk _ arr T (0, 0) ha]; simp [hlt]
              · rw [p7 hlt]
                simp [addr_add, Nat.add_mul, hesz]
          split at h
          · rename_i l hh' f1 f2
            split at h
            · rename_i hc2
              obtain ⟨k1, k2, k3⟩ := hc2
              cases mx with
              | none =>
                have hmx' : mx' = none := by cases mx' with | none => rfl | some v => cases hm
                subst hmx'
                cases h
                exact ⟨_, slice_any ht hinf (bounds_run hl hh (by omega) f1 f2 k1 (by omega)), hsub _ _ _ _ _ k1 k2 (by omega) (by omega) (by simp) k3 (fun hlt => if_neg (by omega))⟩
              | some mv =>
                simp only at h
                split at h
                · rename_i mm hhv e3 e4
                  split at h
                  · rename_i heq
                    subst heq
                    cases h
                    exact ⟨_, slice_any ht hinf (bounds_run3 hl hh hm (by omega) f1 f2 (by simp) e4 (by simp) k1 (by omega)), hsub _ _ _ _ _ k1 k2 (by omega) (by omega) (fun _ => rfl) k3 (fun hlt => if_neg (by omega))⟩
                  · cases h
                · cases h
            · cases h
          · cases h
      · cases h
    · cases h
  | _ => simp [evSlice] at h

end Go.Proofs.YtihhinbjhiankaaGreatDoor.Al

/- WHAT MAKES MEMORY: append, make, slice literals, boxes; copy and clear. -/
namespace Go.Proofs.YtihhinbjhiankaaGreatDoor.Al
open Go
variable {S : Seat} {m : List ME} {I X : Nat → Prop} {w : World} {H : List Entry}

def Cells (S : Seat) (m : List ME) (I : Nat → Prop) (w : World) (sz : Nat) (xs : List AV) (vs : List Value) : Prop :=
  vs.length = xs.length * sz ∧ (∀ x ∈ xs, x.cells.length = sz) ∧ ∀ i x, xs[i]? = some x → ∀ j y, x.cells[j]? = some y → Rel S m I w y (vs[i * sz + j]?.getD undef)

theorem Cells.mono {sz : Nat} {xs : List AV} {vs : List Value} {m' : List ME} {I' : Nat → Prop} {w' : World} (h : Cells S m I w sz xs vs) (hm : MLe m m') (hI : ∀ b, I b → I' b) (hw : ∀ b, I b → w'.heap[b]? = w.heap[b]?) : Cells S m' I' w' sz xs vs :=
  ⟨h.1, h.2.1, fun i x hx j y hy => (h.2.2 i x hx j y hy).mono hm hI hw⟩

theorem Cells.nil (sz : Nat) : Cells S m I w sz [] [] := ⟨by simp, by simp, by simp⟩

theorem Cells.append {sz : Nat} {xs ys : List AV} {vs us : List Value} (h : Cells S m I w sz xs vs) (k : Cells S m I w sz ys us) : Cells S m I w sz (xs ++ ys) (vs ++ us) := by
  refine ⟨by simp [h.1, k.1, Nat.add_mul], fun x hx => ?_, fun i x hx j y hy => ?_⟩
  · rcases List.mem_append.1 hx with hx | hx
    · exact h.2.1 x hx
    · exact k.2.1 x hx
  · rcases Nat.lt_or_ge i xs.length with hi | hi
    · rw [List.getElem?_append_left hi] at hx
      have hj : j < sz := by rw [← h.2.1 x (List.mem_of_getElem? hx)]; exact (List.getElem?_eq_some_iff.1 hy).1
      rw [List.getElem?_append_left (by rw [h.1]; exact mul_add_lt hi hj)]
      exact h.2.2 i x hx j y hy
    · rw [List.getElem?_append_right hi] at hx
      have hmul : xs.length * sz ≤ i * sz := Nat.mul_le_mul_right _ hi
      rw [List.getElem?_append_right (by rw [h.1]; omega), h.1]
      have := k.2.2 _ x hx j y hy
      rwa [Nat.sub_mul, show i * sz - xs.length * sz + j = i * sz + j - xs.length * sz by omega] at this

theorem Cells.take {sz n : Nat} {xs : List AV} {vs : List Value} (h : Cells S m I w sz xs vs) (hn : n ≤ xs.length) : Cells S m I w sz (xs.take n) (vs.take (n * sz)) := by
  have hle : n * sz ≤ xs.length * sz := Nat.mul_le_mul_right _ hn
  refine ⟨by simp [h.1, Nat.min_eq_left hn, Nat.min_eq_left hle], fun x hx => h.2.1 x (List.mem_of_mem_take hx), fun i x hx j y hy => ?_⟩
  rw [List.getElem?_take] at hx
  split at hx
  · rename_i hi
    have hj : j < sz := by rw [← h.2.1 x (List.mem_of_getElem? hx)]; exact (List.getElem?_eq_some_iff.1 hy).1
    rw [List.getElem?_take, if_pos (mul_add_lt hi hj)]
    exact h.2.2 i x hx j y hy
  · cases hx

theorem Cells.drop {sz n : Nat} {xs : List AV} {vs : List Value} (h : Cells S m I w sz xs vs) (_hn : n ≤ xs.length) : Cells S m I w sz (xs.drop n) (vs.drop (n * sz)) := by
  refine ⟨by simp [h.1, Nat.sub_mul], fun x hx => h.2.1 x (List.mem_of_mem_drop hx), fun i x hx j y hy => ?_⟩
  rw [List.getElem?_drop] at hx
  rw [List.getElem?_drop, show n * sz + (i * sz + j) = (n + i) * sz + j by rw [Nat.add_mul]; omega]
  exact h.2.2 _ x hx j y hy

theorem RowAt.of_cells {e : ME} {xs : List AV} {vs tail : List Value} {T : Nat} (h : Cells S m I w e.sz xs vs) (hn : e.nilrow = false)
    (ha : w.heap[e.blk]? = some (.cells (vs ++ tail).toArray T (0, 0))) (hsz : (vs ++ tail).length = e.cap * e.sz) : RowAt S m I w e xs := by
  refine .inr ⟨hn, _, T, ha, by simpa using hsz, fun i x hx j y hy => ?_⟩
  have hj : j < e.sz := by rw [← h.2.1 x (List.mem_of_getElem? hx)]; exact (List.getElem?_eq_some_iff.1 hy).1
  have hi := (List.getElem?_eq_some_iff.1 hx).1
  rw [getD_toArray, List.getElem?_append_left (by rw [h.1]; exact mul_add_lt hi hj)]
  exact h.2.2 i x hx j y hy

theorem RowOk.to_cells {e : ME} {sz ver : Nat} {xs : List AV} (h : RowOk S m I w e sz ver xs) (hn : e.nilrow = false) :
    ∃ (arr : Array Value) (T : Nat), w.heap[e.blk]? = some (.cells arr T (0, 0)) ∧ arr.size = e.cap * e.sz ∧ Cells S m I w e.sz xs (arr.toList.take (xs.length * e.sz)) := by
  obtain ⟨h1, h0, h2, h3, h4, h5⟩ := h
  rcases h5 with ⟨h5, _⟩ | ⟨_, arr, T, ha, hsz, hc⟩
  · rw [hn] at h5; cases h5
  · have hle : xs.length * e.sz ≤ e.cap * e.sz := Nat.mul_le_mul_right _ h2
    refine ⟨arr, T, ha, hsz, by simp [hsz, Nat.min_eq_left hle], h4, fun i x hx j y hy => ?_⟩
    have hj : j < e.sz := by rw [← h4 x (List.mem_of_getElem? hx)]; exact (List.getElem?_eq_some_iff.1 hy).1
    have hi := (List.getElem?_eq_some_iff.1 hx).1
    rw [List.getElem?_take, if_pos (mul_add_lt hi hj), ← getD_list]
    exact hc i x hx j y hy

theorem szOk_len {sz : Nat} {xs : List AV} (h : szOk H sz xs = true) : ∀ x ∈ xs, x.cells.length = sz := fun x hx => by
  have := List.all_eq_true.1 h x hx
  simp at this; exact this.1
theorem szOk_one {sz : Nat} {xs : List AV} (h : szOk H sz xs = true) : ∀ x ∈ xs, x.cells.all (AV.oneIn H) = true := fun x hx => by
  have := List.all_eq_true.1 h x hx
  simp only [Bool.and_eq_true] at this; exact this.2

theorem seen_cells (hs : Sim S m I X w H) {x : AV} {v : Value} (hx : Rel S m I w x v) {xs : List AV} (h : seen H x = some xs) {sz : Nat} (hz : ∀ y ∈ xs, y.cells.length = sz) :
    ∃ a c vs, v = .slice a xs.length c ∧ xs.length ≤ c ∧ Cells S m I w sz xs vs ∧ (xs ≠ [] → ∃ b off, a = some ⟨b, off, none⟩ ∧ ∀ k u, vs[k]? = some u → w.cell? ((⟨b, off, none⟩ : Addr).add k) = some u) := by
  obtain ⟨a, c, rfl, hc, hcase⟩ := seen_sound hs hx h
  rcases hcase with rfl | ⟨b, off, sz', rfl, hsz, hcells⟩
  · exact ⟨a, c, [], rfl, Nat.zero_le _, .nil sz, fun h => absurd rfl h⟩
  · by_cases h0 : xs = []
    · subst h0
      exact ⟨_, c, [], rfl, Nat.zero_le _, .nil sz, fun h => absurd rfl h⟩
    · have : sz' = sz := by
        obtain ⟨y, hy⟩ := List.exists_mem_of_ne_nil xs h0
        rw [← hsz y hy, hz y hy]
      subst this
      obtain ⟨h1, h2⟩ := row_vals hsz hcells
      refine ⟨_, c, rowVals w b off (xs.length * sz'), rfl, hc, ⟨rowVals_length .., hz, fun i x hx j y hy => ?_⟩, fun _ => ⟨b, off, rfl, fun k u hk => by rw [addr_add]; exact h1 k u hk⟩⟩
      obtain ⟨u, hu, hr⟩ := h2 i x hx j y hy
      rw [hu]; exact hr

theorem Cells.one (hs : Sim S m I X w H) {sz : Nat} {xs : List AV} {vs : List Value} (h : Cells S m I w sz xs vs) (ho : ∀ x ∈ xs, x.cells.all (AV.oneIn H) = true) : ∀ u ∈ vs, u.oneCell' = true := by
  intro u hu
  obtain ⟨k, hk, rfl⟩ := List.mem_iff_getElem.1 hu
  have hlt : k < xs.length * sz := by rw [← h.1]; exact hk
  obtain ⟨h1, h2, h3⟩ := divmod_cell hlt
  have hx : xs[k / sz]? = some xs[k / sz] := List.getElem?_eq_getElem h1
  have hl := h.2.1 _ (List.mem_of_getElem? hx)
  have hy : xs[k / sz].cells[k % sz]? = some xs[k / sz].cells[k % sz] := List.getElem?_eq_getElem (by rw [hl]; exact h2)
  have hr := h.2.2 _ _ hx _ _ hy
  have he : vs[k / sz * sz + k % sz]?.getD undef = vs[k] := by rw [← h3]; simp [hk]
  rw [he] at hr
  exact one_sound hs hr (List.all_eq_true.1 (ho _ (List.mem_of_getElem? hx)) _ (List.mem_of_getElem? hy))

/-! ### Append -/

structure ElOk (P : Program) (t e : Nat) (inf : TypeInfo) (z : Value) : Prop where
  und : P.underlying t = some (.slice e)
  ti : P.info? e = some inf
  zero : inf.zero = some z
  size : z.cells.size = inf.size

def Rowish (d : TypeDesc) : Prop := (∃ e, d = .slice e) ∨ d = .string

theorem append_grow {P : Program} {t u ty e : Nat} {inf : TypeInfo} {z : Value} (ht : ElOk P t e inf z) {d : TypeDesc} (hu : P.underlying u = some d) (hd : Rowish d)
    {ao : Option Addr} {sLen sCap n : Nat} {x : Value} {olds news : List Value} (hn : (Builtin.lenOf x).run P w = .ok n w) (hf : (Builtin.firstCells inf.size n x).run P w.drew = .ok news.toArray w.drew)
    (ho : (Builtin.firstCells inf.size sLen (.slice ao sLen sCap)).run P w.drew = .ok olds.toArray w.drew)
    (hg : sCap < sLen + n) (hfit : (sLen + n) * inf.bytes ≤ 140737488355328) (h63 : sLen + n ≤ 9223372036854775807) :
    (Builtin.append_ #[t, u] ty #[.slice ao sLen sCap, x]).run P w =
      .ok (.slice (some ⟨w.heap.size, 0, none⟩) (sLen + n) (grownCap w (sLen + n) sCap e))
        (w.drew.alloc (.cells (olds ++ news ++ (Builtin.zeroCells z.cells (grownCap w (sLen + n) sCap e - (sLen + n))).toList).toArray e)) := by
  have hn' : ¬ (sLen + n ≤ sCap) := by omega
  have h63' : ¬ (9223372036854775807 < ((sLen : Int) + (n : Int))) := by omega
  have h48' : ¬ (281474976710656 < Builtin.nextslicecap (sLen + n) sCap * inf.bytes) := by have := growslice_fits hg hfit; omega
  rcases hd with ⟨e', rfl⟩ | rfl <;>
    (simp [Builtin.append_, run_underlying ht.und, run_underlying hu, sizeOf, typeInfo, zeroValue, ht.ti, ht.zero, hn, hn', h63', h48', Question.forced, hf, ho, newRow, grownCap]
     congr 2; apply Array.ext'; simp)

theorem append_room {P : Program} {t u ty e : Nat} {inf : TypeInfo} {z : Value} (ht : ElOk P t e inf z) {d : TypeDesc} (hu : P.underlying u = some d) (hd : Rowish d)
    {g sLen sCap n : Nat} {x : Value} {cur : Array Value} {news : List Value} {T : Nat} (hn : (Builtin.lenOf x).run P w = .ok n w) (hf : (Builtin.firstCells inf.size n x).run P w = .ok news.toArray w)
    (hg : w.heap[g]? = some (.cells cur T (0, 0))) (h1 : ∀ v ∈ news, v.oneCell' = true) (hroom : sLen + n ≤ sCap) (hfit : sLen * inf.size + news.length ≤ cur.size) :
    (Builtin.append_ #[t, u] ty #[.slice (some ⟨g, 0, none⟩) sLen sCap, x]).run P w =
      .ok (.slice (some ⟨g, 0, none⟩) (sLen + n) sCap) (w.setRow g (splice cur.toList (sLen * inf.size) news).toArray) := by
  have hst : (storeCells ⟨g, sLen * inf.size, none⟩ news 0).run P w = .ok () (w.setRow g (splice cur.toList (sLen * inf.size) news).toArray) :=
    run_storeCells_at P g (sLen * inf.size) T news 0 cur w hg (by simpa using hfit) h1
  rcases hd with ⟨e', rfl⟩ | rfl <;>
    (simp [Builtin.append_, run_underlying ht.und, run_underlying hu, sizeOf, typeInfo, ht.ti, hn, hroom, hf, Addr.add_lit, hst])

theorem append_nothing {P : Program} {t u ty e : Nat} {inf : TypeInfo} {z : Value} (ht : ElOk P t e inf z) {d : TypeDesc} (hu : P.underlying u = some d) (hd : Rowish d)
    {ao : Option Addr} {sLen sCap : Nat} {x : Value} (hn : (Builtin.lenOf x).run P w = .ok 0 w) (hf : (Builtin.firstCells inf.size 0 x).run P w = .ok #[] w) (hc : sLen ≤ sCap) :
    (Builtin.append_ #[t, u] ty #[.slice ao sLen sCap, x]).run P w = .ok (.slice ao sLen sCap) w := by
  cases ao with
  | none =>
    rcases hd with ⟨e', rfl⟩ | rfl <;>
      (simp [Builtin.append_, run_underlying ht.und, run_underlying hu, sizeOf, typeInfo, ht.ti, hn, hc, hf])
  | some a =>
    rcases hd with ⟨e', rfl⟩ | rfl <;>
      (simp [Builtin.append_, run_underlying ht.und, run_underlying hu, sizeOf, typeInfo, ht.ti, hn, hc, hf, storeCells])

structure Appends (P : Program) (w : World) (e : Nat) (inf : TypeInfo) (z : Value) (run : Value → Result Value) (n : Nat) (news : List Value) : Prop where
  nothing : n = 0 → ∀ (ao : Option Addr) (l c : Nat), l ≤ c → run (.slice ao l c) = .ok (.slice ao l c) w
  room : ∀ (g l c : Nat) (cur : Array Value) (T : Nat), w.heap[g]? = some (.cells cur T (0, 0)) → l + n ≤ c → l * inf.size + news.length ≤ cur.size →
    run (.slice (some ⟨g, 0, none⟩) l c) = .ok (.slice (some ⟨g, 0, none⟩) (l + n) c) (w.setRow g (splice cur.toList (l * inf.size) news).toArray)
  grow : ∀ (ao : Option Addr) (l c : Nat) (olds : List Value), (Builtin.firstCells inf.size l (.slice ao l c)).run P w.drew = .ok olds.toArray w.drew → 0 < n → c < l + n → (l + n) * inf.bytes ≤ 140737488355328 → l + n ≤ 9223372036854775807 →
    run (.slice ao l c) = .ok (.slice (some ⟨w.heap.size, 0, none⟩) (l + n) (grownCap w (l + n) c e))
        (w.drew.alloc (.cells (olds ++ news ++ (Builtin.zeroCells z.cells (grownCap w (l + n) c e - (l + n))).toList).toArray e))

theorem appends_of {P : Program} {t u ty e : Nat} {inf : TypeInfo} {z : Value} (ht : ElOk P t e inf z) {d : TypeDesc} (hu : P.underlying u = some d) (hd : Rowish d)
    {n : Nat} {x : Value} {news : List Value} (hn : (Builtin.lenOf x).run P w = .ok n w) (hf : ∀ w', w'.heap = w.heap → (Builtin.firstCells inf.size n x).run P w' = .ok news.toArray w')
    (hl : n = 0 → news = []) (h1 : ∀ v ∈ news, v.oneCell' = true) : Appends P w e inf z (fun s => (Builtin.append_ #[t, u] ty #[s, x]).run P w) n news where
  nothing := fun h0 ao l c hc => by
    subst h0
    have h2 := hf w rfl
    rw [hl rfl] at h2
    exact append_nothing ht hu hd hn h2 hc
  room := fun g l c cur T hg hr hfit => append_room ht hu hd hn (hf w rfl) hg h1 hr hfit
  grow := fun ao l c olds ho _ hg hfit h63 => append_grow ht hu hd hn (hf w.drew rfl) ho hg hfit h63

theorem appendZ_grow {P : Program} {t u ty e : Nat} {inf : TypeInfo} {z : Value} (ht : ElOk P t e inf z) {ku : IntKind} (hu : P.underlying u = some (.int ku))
    {ao : Option Addr} {sLen sCap n : Nat} {k : IntKind} {olds : List Value}
    (ho : (Builtin.firstCells inf.size sLen (.slice ao sLen sCap)).run P w.drew = .ok olds.toArray w.drew) (h0 : 0 < n) (hsz : 0 < inf.size)
    (hg : sCap < sLen + n) (hfit : (sLen + n) * inf.bytes ≤ 140737488355328) (h63 : sLen + n ≤ 9223372036854775807) :
    (Builtin.append_ #[t, u] ty #[.slice ao sLen sCap, .int k n]).run P w =
      .ok (.slice (some ⟨w.heap.size, 0, none⟩) (sLen + n) (grownCap w (sLen + n) sCap e))
        (w.drew.alloc (.cells (olds ++ (Builtin.zeroCells z.cells n).toList ++ (Builtin.zeroCells z.cells (grownCap w (sLen + n) sCap e - (sLen + n))).toList).toArray e)) := by
  have hn' : ¬ (sLen + n ≤ sCap) := by omega
  have h63' : ¬ (9223372036854775807 < ((sLen : Int) + (n : Int))) := by omega
  have h48' : ¬ (281474976710656 < Builtin.nextslicecap (sLen + n) sCap * inf.bytes) := by have := growslice_fits hg hfit; omega
  have hb0 : inf.bytes = 0 ∨ 0 < inf.bytes := Nat.eq_zero_or_pos _
  have wn : IntKind.i64.wrap (n : Int) = n := by rw [IntKind.wrap_i64]; omega
  have h3 : ¬ (281474976710656 < (n : Int) * (inf.bytes : Int)) := by
    have h4 : n * inf.bytes ≤ (sLen + n) * inf.bytes := Nat.mul_le_mul_right _ (by omega)
    have h5 : n * inf.bytes ≤ 281474976710656 := by omega
    have h6 : ((n * inf.bytes : Nat) : Int) ≤ ((281474976710656 : Nat) : Int) := Int.ofNat_le.mpr h5
    rw [Int.natCast_mul] at h6
    intro h7
    omega
  have h4 : ¬ ((n : Int) < 0) := by omega
  have h5 : ¬ (n * inf.size = 0) := by have := Nat.mul_pos h0 hsz; omega
  simp [Builtin.append_, run_underlying ht.und, run_underlying hu, sizeOf, typeInfo, zeroValue, ht.ti, ht.zero, asInt, asIntOf, wn, h3, h4, h5, hn', h63', h48', Question.forced, ho, newRow, grownCap]
  congr 2; apply Array.ext'; simp

theorem appendZ_of {P : Program} {t u ty e : Nat} {inf : TypeInfo} {z : Value} (ht : ElOk P t e inf z) {ku : IntKind} (hu : P.underlying u = some (.int ku)) (hsz : 0 < inf.size)
    {n : Nat} {k : IntKind} (hb : n * inf.bytes ≤ 281474976710656) (h63 : n ≤ 9223372036854775807) (h1 : ∀ v ∈ z.cells, v.oneCell' = true) :
    Appends P w e inf z (fun s => (Builtin.append_ #[t, u] ty #[s, .int k n]).run P w) n (Builtin.zeroCells z.cells n).toList := by
  have wn : IntKind.i64.wrap (n : Int) = n := by rw [IntKind.wrap_i64]; omega
  have h3 : ¬ (281474976710656 < (n : Int) * (inf.bytes : Int)) := by
    have h6 : ((n * inf.bytes : Nat) : Int) ≤ ((281474976710656 : Nat) : Int) := Int.ofNat_le.mpr hb
    rw [Int.natCast_mul] at h6
    intro h7
    omega
  have h4 : ¬ ((n : Int) < 0) := by omega
  refine ⟨?_, ?_, ?_⟩
  · intro h0 ao l c hc
    subst h0
    have wn' : IntKind.i64.wrap (0 : Int) = 0 := by decide
    cases ao with
    | none => simp [Builtin.append_, run_underlying ht.und, run_underlying hu, sizeOf, typeInfo, ht.ti, asInt, asIntOf, wn', hc]
    | some a => simp [Builtin.append_, run_underlying ht.und, run_underlying hu, sizeOf, typeInfo, ht.ti, asInt, asIntOf, wn', hc, storeCells]
  · intro g l c cur T hg hr hfit
    have hall : ∀ v ∈ (Builtin.zeroCells z.cells n).toList, v.oneCell' = true := by
      intro v hv
      simp only [Builtin.zeroCells, Array.toList_map, Array.toList_range, List.mem_map] at hv
      obtain ⟨i, hi, rfl⟩ := hv
      have h0 : 0 < z.cells.size := by rw [ht.size]; exact hsz
      have hlt : i % z.cells.size < z.cells.size := Nat.mod_lt _ h0
      rw [show z.cells[i % z.cells.size]! = z.cells[i % z.cells.size] by simp [hlt]]
      exact h1 _ (Array.getElem_mem hlt)
    have hst : (storeCells ⟨g, l * inf.size, none⟩ (Builtin.zeroCells z.cells n).toList 0).run P w = .ok () (w.setRow g (splice cur.toList (l * inf.size) (Builtin.zeroCells z.cells n).toList).toArray) :=
      run_storeCells_at P g (l * inf.size) T _ 0 cur w hg (by simpa using hfit) hall
    by_cases h0 : n = 0
    · subst h0
      have wn' : IntKind.i64.wrap (0 : Int) = 0 := by decide
      have hz0 : Builtin.zeroCells z.cells 0 = #[] := by simp [Builtin.zeroCells]
      rw [hz0] at hst ⊢
      have hr' : l ≤ c := hr
      simp [Builtin.append_, run_underlying ht.und, run_underlying hu, sizeOf, typeInfo, ht.ti, asInt, asIntOf, wn', hr', Addr.add_lit] at hst ⊢
      rw [hst]; rfl
    · have h5 : ¬ (n * inf.size = 0) := by have := Nat.mul_pos (Nat.pos_of_ne_zero h0) hsz; omega
      simp [Builtin.append_, run_underlying ht.und, run_underlying hu, sizeOf, typeInfo, zeroValue, ht.ti, ht.zero, asInt, asIntOf, wn, h3, h4, h5, hr, Addr.add_lit, hst]
  · intro ao l c olds ho h0 hg hfit h63'
    exact appendZ_grow ht hu ho h0 hsz hg hfit h63'

theorem zeroCells_cells {sz n : Nat} {z : AV} {zv : Value} (hz : Rels S m I w z.cells zv.cells) (hl : z.cells.length = sz) :
    Cells S m I w sz (List.replicate n z) (Builtin.zeroCells zv.cells n).toList := by
  have hsize : zv.cells.size = sz := by rw [hz.1, hl]
  refine ⟨by simp [Builtin.zeroCells, hsize], fun x hx => by rw [(List.mem_replicate.1 hx).2]; exact hl, fun i x hx j y hy => ?_⟩
  obtain ⟨hi, rfl⟩ : i < n ∧ x = z := by
    have := List.getElem?_eq_some_iff.1 hx
    simp at this; exact ⟨this.1, this.2.symm⟩
  have hj : j < sz := by rw [← hl]; exact (List.getElem?_eq_some_iff.1 hy).1
  have hlt := mul_add_lt hi hj
  have hr := hz.2 j y hy
  have hmod : (i * sz + j) % sz = j := by rw [Nat.mul_comm, Nat.mul_add_mod, Nat.mod_eq_of_lt hj]
  have hj' : j < zv.cells.size := by omega
  have : (Builtin.zeroCells zv.cells n).toList[i * sz + j]? = some (zv.cells.getD j undef) := by
    simp only [Builtin.zeroCells, Array.toList_map, List.getElem?_map, Array.toList_range, hsize]
    rw [List.getElem?_range hlt]
    simp [hmod, hj']
  rw [this]; exact hr

end Go.Proofs.YtihhinbjhiankaaGreatDoor.Al

/- WHAT MAKES MEMORY, at abstract values. -/
namespace Go.Proofs.YtihhinbjhiankaaGreatDoor.Al
open Go
variable {S : Seat} {m : List ME} {I X : Nat → Prop} {w : World} {H : List Entry}

theorem set_self {α : Type} {l : List α} {i : Nat} {x : α} (h : l[i]? = some x) : l.set i x = l := List.ext_getElem? fun k => by
  by_cases hk : k = i
  · subst hk; rw [List.getElem?_set_self (List.getElem?_eq_some_iff.1 h).1, h]
  · rw [List.getElem?_set_ne (Ne.symm hk)]

theorem push_row (hs : Sim S m I X w H) {w' : World} {T sz cap : Nat} {xs : List AV} {vs tail : List Value} (hc : Cells S m I w sz xs vs)
    (hw : w' = w.drew.alloc (.cells (vs ++ tail).toArray T) ∨ w' = w.alloc (.cells (vs ++ tail).toArray T)) (hsz : (vs ++ tail).length = cap * sz) (hcap : xs.length ≤ cap) (hcm : cap ≤ 9223372036854775807) :
    Went S m I X w (m ++ [⟨0, w.heap.size, sz, cap, false⟩]) w' (H ++ [.arr sz 0 xs]) ∧
      Rel S (m ++ [⟨0, w.heap.size, sz, cap, false⟩]) I w' (.own H.length 0 0 xs.length) (.slice (some ⟨w.heap.size, 0, none⟩) xs.length cap) := by
  have hold : ∀ k : Nat, k < w.heap.size → w'.heap[k]? = w.heap[k]? := by
    intro k hk
    rcases hw with rfl | rfl
    · exact heap_alloc_old w.drew _ hk
    · exact heap_alloc_old w _ hk
  have hnew : w'.heap[w.heap.size]? = some (.cells (vs ++ tail).toArray T (0, 0)) := by
    rcases hw with rfl | rfl
    · exact heap_alloc_new w.drew _
    · exact heap_alloc_new w _
  have hle : w.heap.size ≤ w'.heap.size := by rcases hw with rfl | rfl <;> simp
  have hme : (m ++ [(⟨0, w.heap.size, sz, cap, false⟩ : ME)])[H.length]? = some ⟨0, w.heap.size, sz, cap, false⟩ := by rw [← hs.len]; simp
  refine ⟨⟨hs.push hold hle (fun _ => Nat.le_refl _) ⟨_, hme, rfl, rfl, hcap, hcm, hc.2.1, ?_⟩, MLe.push _ _, ?_⟩, ?_⟩
  · exact RowAt.of_cells (hc.mono (MLe.push _ _) (fun _ hb => hb) (fun b hb => hold b (hs.lt b (.inl hb)))) rfl hnew hsz
  · refine ⟨?_, ?_, ?_, hle, fun b hb => hold b (hs.lt b hb)⟩ <;> rcases hw with rfl | rfl <;> rfl
  · exact .own _ _ _ _ _ _ hme (Nat.le_refl _) (fun _ => ⟨Nat.zero_le _, hcap, .inr ⟨rfl, 0, by simp, fun _ => by simp⟩⟩)

theorem append_sound (hs : Sim S m I X w H) {x : AV} {xv : Value} (hx : Rel S m I w x xv) {t e : Nat} {inf : TypeInfo} {z : Value} (ht : ElOk S.P t e inf z)
    {run : Value → Result Value} {ys : List AV} {news : List Value} (hA : Appends S.P w e inf z run ys.length news) (hc : szOk H inf.size ys = true → Cells S m I w inf.size ys news)
    {v : AV} {H' : List Entry} (h : evAppend H inf.size inf.bytes x ys = some (v, H')) :
    ∃ vv w' m', run xv = .ok vv w' ∧ Rel S m' I w' v vv ∧ Went S m I X w m' w' H' := by
  unfold evAppend at h
  split at h
  · rename_i hys
    subst hys
    cases x with
    | list t' xs =>
      cases h
      refine ⟨xv, w, m, ?_, hx, hs.stay⟩
      cases hx with
      | empty _ a c _ _ => exact hA.nothing rfl _ _ _ (Nat.zero_le _)
      | list _ _ b off n c sz rd hn hnc => exact hA.nothing rfl _ _ _ hnc
    | own id ver lo hi =>
      simp only at h
      split at h
      · rename_i ho
        cases h
        refine ⟨xv, w, m, ?_, hx, hs.stay⟩
        obtain ⟨l, a, c, rfl, hlc⟩ : ∃ l a c, xv = .slice a l c ∧ l ≤ c := by
          have key : ∀ {sz u : Nat} {e1 : ME} {ys : List AV}, m[id]? = some e1 → RowOk S m I w e1 sz u ys → u = ver → ∃ l a c, xv = .slice a l c ∧ l ≤ c := by
            intro sz u e1 ys h1 hr hu
            cases hx with
            | own _ _ _ _ e2 _ he2 hver hrel =>
              rw [h1] at he2; cases he2
              obtain ⟨k1, k2, hcase⟩ := hrel (by have := hr.1; omega)
              rcases hcase with ⟨_, _, a0, rfl⟩ | ⟨_, off, rfl, _⟩
              · exact ⟨_, _, _, rfl, Nat.le_refl _⟩
              · exact ⟨_, _, _, rfl, by omega⟩
          simp only [AV.oneIn] at ho
          split at ho
          · rename_i sz u ys he
            obtain ⟨e1, h1, hr⟩ := hs.hok id _ he
            exact key h1 hr (by simpa using ho)
          · rename_i sz u ys he
            obtain ⟨e1, h1, hr, _⟩ := hs.hok id _ he
            exact key h1 hr (by simpa using ho)
          · cases ho
        exact hA.nothing rfl _ _ _ hlc
      · cases h
    | _ => cases h
  · rename_i hys
    split at h
    · rename_i hcond
      obtain ⟨hb, hesz, hszok⟩ := hcond
      have hcy := hc hszok
      have hpos : 0 < ys.length := List.length_pos_iff.2 hys
      cases x with
      | list t' xs =>
        cases t' with
        | false => cases h
        | true =>
          simp only at h
          split at h
          · rename_i hfit
            cases h
            obtain ⟨hlen, hszx⟩ := hfit
            obtain ⟨a, c, vs, rfl, hcc, hcx, hcell⟩ := seen_cells hs hx (xs := xs) rfl (szOk_len hszx)
            have hceq : c = xs.length := by
              cases hx with
              | empty _ _ _ htt _ => exact htt rfl
              | list _ _ _ _ _ _ _ _ _ _ _ htt => exact htt rfl
            subst hceq
            have hold : (Builtin.firstCells inf.size xs.length (.slice a xs.length xs.length)).run S.P w.drew = .ok vs.toArray w.drew := by
              by_cases h0 : xs = []
              · subst h0
                have : vs = [] := List.eq_nil_of_length_eq_zero (by have := hcx.1; simpa using this)
                subst this
                cases a with
                | none => exact run_firstCells_none _ _ _ _ _
                | some a => exact run_firstCells_some w.drew _ 0 a 0 0 [] (by simp) (by simp)
              · obtain ⟨b, off, rfl, hcells⟩ := hcell h0
                exact run_firstCells_some w.drew _ _ _ _ _ vs hcx.1 (fun k u hk => hcells k u hk)
            have hbb : (xs.length + ys.length) * inf.bytes ≤ 140737488355328 := by
              have h1 := Nat.mul_le_mul hlen hb
              unfold maxRow at h1; omega
            have hrun := hA.grow a xs.length xs.length vs hold hpos (by omega) hbb (by unfold maxRow at hlen; omega)
            have hge := grownCap_ge w (xs.length + ys.length) xs.length e
            have hcm : grownCap w (xs.length + ys.length) xs.length e ≤ 9223372036854775807 := by
              have := grownCap_le_maxLen w (xs.length + ys.length) xs.length e (by simp only [maxLen]; unfold maxRow at hlen; omega)
              simpa [maxLen] using this
            have hp := push_row (T := e) (cap := grownCap w (xs.length + ys.length) xs.length e) hs (hcx.append hcy) (.inl rfl) (tail := (Builtin.zeroCells z.cells (grownCap w (xs.length + ys.length) xs.length e - (xs.length + ys.length))).toList) (by
              simp only [List.length_append, hcx.1, hcy.1, Array.length_toList, size_zeroCells, ht.size, ← Nat.add_mul]
              congr 1; omega) (by simp; exact hge) hcm
            rw [List.length_append] at hp
            exact ⟨_, _, _, hrun, hp.2, hp.1⟩
          · cases h
      | own id ver lo hi =>
        cases lo with
        | succ lo => cases h
        | zero =>
          simp only at h
          split at h
          · rename_i sz u xs hH
            split at h
            · rename_i hcond
              cases h
              obtain ⟨c1, c2, c3, c4⟩ := hcond
              obtain ⟨e1, h1, hrow⟩ := hs.hok id _ hH
              have hrow2 := hrow
              obtain ⟨r1, r0, r2, r3, r4, r5⟩ := hrow2
              clear r5
              have hsz1 : e1.sz = inf.size := by rw [r0]; exact c4
              have hbb : (hi + ys.length) * inf.bytes ≤ 140737488355328 := by
                have h1 := Nat.mul_le_mul c3 hb
                unfold maxRow at h1; omega
              have hcm0 : hi + ys.length ≤ 9223372036854775807 := by unfold maxRow at c3; omega
              cases hx with
              | own _ _ _ _ e2 _ he2 hver hrel =>
                rw [h1] at he2; cases he2
                obtain ⟨_, hhi, hcase⟩ := hrel (by omega)
                clear hrel
                have hge := grownCap_ge w (hi + ys.length) e1.cap e
                have hcm : grownCap w (hi + ys.length) e1.cap e ≤ 9223372036854775807 := by
                  have := grownCap_le_maxLen w (hi + ys.length) e1.cap e (by simp only [maxLen]; omega)
                  simpa [maxLen] using this
                -- elsewhere: what a growth leaves
                have grown : ∀ (vs : List Value), Cells S m I w inf.size (xs.take hi) vs → ∀ (w' : World), w' = w.drew.alloc (.cells (vs ++ news ++ (Builtin.zeroCells z.cells (grownCap w (hi + ys.length) e1.cap e - (hi + ys.length))).toList).toArray e) →
                    Went S m I X w (m.set id ⟨ver + 1, w.heap.size, inf.size, grownCap w (hi + ys.length) e1.cap e, false⟩) w' (H.set id (.arr inf.size (ver + 1) (xs.take hi ++ ys))) ∧
                    Rel S (m.set id ⟨ver + 1, w.heap.size, inf.size, grownCap w (hi + ys.length) e1.cap e, false⟩) I w' (.own id (ver + 1) 0 (hi + ys.length)) (.slice (some ⟨w.heap.size, 0, none⟩) (hi + ys.length) (grownCap w (hi + ys.length) e1.cap e)) := by
                  intro vs hvs w' hw'
                  have hold : ∀ k : Nat, k < w.heap.size → w'.heap[k]? = w.heap[k]? := fun k hk => by rw [hw']; exact heap_alloc_old w.drew _ hk
                  have hme : (m.set id (⟨ver + 1, w.heap.size, inf.size, grownCap w (hi + ys.length) e1.cap e, false⟩ : ME))[id]? = some ⟨ver + 1, w.heap.size, inf.size, grownCap w (hi + ys.length) e1.cap e, false⟩ :=
                    List.getElem?_set_self (List.getElem?_eq_some_iff.1 h1).1
                  have hgg : (⟨ver + 1, w.heap.size, inf.size, grownCap w (hi + ys.length) e1.cap e, false⟩ : ME) = e1 ∨ e1.ver < (⟨ver + 1, w.heap.size, inf.size, grownCap w (hi + ys.length) e1.cap e, false⟩ : ME).ver := .inr (by simp; omega)
                  have hlen : (xs.take hi ++ ys).length = hi + ys.length := by simp; omega
                  have hcells := (hvs.append hcy).mono (MLe.set h1 hgg) (fun _ hb => hb) (fun b hb => hold b (hs.lt b (.inl hb)))
                  refine ⟨⟨hs.write hH rfl h1 hgg (fun k hk _ => hold k hk) (by rw [hw']; simp) (fun _ => .inr (Nat.le_refl _)) ⟨_, hme, rfl, rfl, by rw [hlen]; exact hge, hcm, hcells.2.1, ?_⟩, MLe.set h1 hgg, ?_⟩, ?_⟩
                  · exact RowAt.of_cells hcells rfl (by rw [hw']; exact heap_alloc_new w.drew _) (by
                      simp only [List.length_append, hvs.1, hcy.1, Array.length_toList, size_zeroCells, ht.size, ← Nat.add_mul, List.length_take]
                      congr 1; omega)
                  · exact ⟨by rw [hw']; rfl, by rw [hw']; rfl, by rw [hw']; rfl, by rw [hw']; simp, fun b hb => hold b (hs.lt b hb)⟩
                  · exact .own _ _ _ _ _ _ hme (Nat.le_refl _) (fun _ => ⟨Nat.zero_le _, hge, .inr ⟨rfl, 0, by simp, fun _ => by simp⟩⟩)
                rcases hcase with ⟨q1, q2, a0, rfl⟩ | ⟨q1, off, rfl, q2⟩
                · have hhi0 : hi = 0 := by omega
                  subst hhi0
                  have hrun := hA.grow a0 0 0 [] (by cases a0 with | none => exact run_firstCells_none _ _ _ _ _ | some a => exact run_firstCells_some w.drew _ 0 a 0 0 [] (by simp) (by simp)) hpos (by omega) hbb hcm0
                  rw [q2] at grown
                  have := grown [] (by simpa using Cells.nil inf.size) _ rfl
                  exact ⟨_, _, _, hrun, this.2, this.1⟩
                · simp only [Nat.sub_zero] at *
                  obtain ⟨arr, T, ha, hasz, hcx⟩ := hrow.to_cells q1
                  rw [hsz1] at hcx hasz
                  have hch : Cells S m I w inf.size (xs.take hi) (arr.toList.take (hi * inf.size)) := by
                    have := hcx.take c2
                    rwa [List.take_take, Nat.min_eq_left (Nat.mul_le_mul_right _ c2)] at this
                  by_cases hroom : hi + ys.length ≤ e1.cap
                  · have hoff := q2 (by omega)
                    have hoff0 : off = 0 := by simpa using hoff
                    subst hoff0
                    have hfit : hi * inf.size + news.length ≤ arr.size := by
                      rw [hcy.1, hasz, ← Nat.add_mul]; exact Nat.mul_le_mul_right _ hroom
                    have hrun := hA.room e1.blk hi e1.cap arr T ha hroom hfit
                    have hw : ∀ k : Nat, k < w.heap.size → (e1.nilrow = false → k ≠ e1.blk) → (w.setRow e1.blk (splice arr.toList (hi * inf.size) news).toArray).heap[k]? = w.heap[k]? := fun k _ hk => setRow_other w e1.blk k _ (hk q1)
                    have hI : ∀ b, I b → (w.setRow e1.blk (splice arr.toList (hi * inf.size) news).toArray).heap[b]? = w.heap[b]? := fun b hb =>
                      hw b (hs.lt b (.inl hb)) (fun _ e1' => (hs.sep id _ e1 hH rfl h1 q1).1 (e1' ▸ hb))
                    have hme : (m.set id (⟨ver + 1, e1.blk, inf.size, e1.cap, false⟩ : ME))[id]? = some (⟨ver + 1, e1.blk, inf.size, e1.cap, false⟩ : ME) := List.getElem?_set_self (List.getElem?_eq_some_iff.1 h1).1
                    have hgg : (⟨ver + 1, e1.blk, inf.size, e1.cap, false⟩ : ME) = e1 ∨ e1.ver < (⟨ver + 1, e1.blk, inf.size, e1.cap, false⟩ : ME).ver := .inr (by simp; omega)
                    have hcells := (hch.append hcy).mono (MLe.set h1 hgg) (fun _ hb => hb) hI
                    have hlen : (xs.take hi ++ ys).length = hi + ys.length := by simp; omega
                    refine ⟨_, _, m.set id (⟨ver + 1, e1.blk, inf.size, e1.cap, false⟩ : ME), hrun, ?_, hs.write hH rfl h1 hgg hw (by simp) (fun _ => .inl ⟨q1, rfl⟩) ⟨_, hme, rfl, rfl, by rw [hlen]; exact hroom, r3, hcells.2.1, ?_⟩, MLe.set h1 hgg, hs.ext_write hH rfl h1 hw (by simp) rfl rfl rfl⟩
                    · exact .own _ _ _ _ _ _ hme (Nat.le_refl _) (fun _ => ⟨Nat.zero_le _, hroom, .inr ⟨rfl, 0, by simp, fun _ => by simp⟩⟩)
                    · refine RowAt.of_cells (vs := arr.toList.take (hi * inf.size) ++ news) (tail := arr.toList.drop (hi * inf.size + news.length)) (T := T) ?_ rfl ?_ ?_
                      · exact hcells
                      · exact setRow_heap w e1.blk arr _ T _ ha
                      · have := splice_length (L := arr.toList) (vs := news) (o := hi * inf.size) (by simpa using hfit)
                        unfold splice at this
                        rw [this]; simpa using hasz
                  · have hold : (Builtin.firstCells inf.size hi (.slice (some ⟨e1.blk, off, none⟩) hi e1.cap)).run S.P w.drew = .ok (arr.toList.take (hi * inf.size)).toArray w.drew := by
                      by_cases h0 : hi = 0
                      · subst h0
                        simpa using run_firstCells_some (P := S.P) w.drew inf.size 0 ⟨e1.blk, off, none⟩ 0 e1.cap [] (by simp) (by simp)
                      · have hoff := q2 (by omega)
                        have hoff0 : off = 0 := by simpa using hoff
                        subst hoff0
                        refine run_firstCells_some w.drew _ _ _ _ _ _ (by rw [hch.1, List.length_take, Nat.min_eq_left c2]) (fun k u hk => ?_)
                        rw [addr_add]
                        show w.cell? ⟨e1.blk, 0 + k, none⟩ = some u
                        rw [cell_of_row w e1.blk _ arr T (0, 0) ha]
                        rw [List.getElem?_take] at hk
                        split at hk
                        · simpa using hk
                        · cases hk
                    have hrun := hA.grow (some ⟨e1.blk, off, none⟩) hi e1.cap _ hold hpos (by omega) hbb hcm0
                    have := grown _ hch _ rfl
                    exact ⟨_, _, _, hrun, this.2, this.1⟩
            · cases h
          · cases h
      | _ => cases h
    · cases h

end Go.Proofs.YtihhinbjhiankaaGreatDoor.Al

/- COPY, CLEAR, MAKE, LITERALS, BOXES, CONVERSIONS. -/
namespace Go.Proofs.YtihhinbjhiankaaGreatDoor.Al
open Go
variable {S : Seat} {m : List ME} {I X : Nat → Prop} {w : World} {H : List Entry}

theorem splice_append {α : Type} {L tail vs : List α} {o : Nat} (h : o + vs.length ≤ L.length) : splice (L ++ tail) o vs = splice L o vs ++ tail := by
  unfold splice
  rw [List.take_append_of_le_length (by omega), List.drop_append_of_le_length h]
  simp

theorem write_row (hs : Sim S m I X w H) {id sz ver lo : Nat} {xs ys : List AV} {e : ME} {news : List Value} {arr : Array Value} {T : Nat} (hH : H[id]? = some (.arr sz ver xs)) (h1 : m[id]? = some e)
    (hrow : RowOk S m I w e sz ver xs) (hn : e.nilrow = false) (ha : w.heap[e.blk]? = some (.cells arr T (0, 0))) (hasz : arr.size = e.cap * e.sz) (hx : Cells S m I w e.sz xs (arr.toList.take (xs.length * e.sz)))
    (hy : Cells S m I w sz ys news) (hle : lo + ys.length ≤ xs.length) :
    Went S m I X w m (w.setRow e.blk (splice arr.toList (lo * sz) news).toArray) (H.set id (.arr sz ver (xs.take lo ++ ys ++ xs.drop (lo + ys.length)))) := by
  have hrow2 := hrow
  obtain ⟨r1, r0, r2, r3, r4, r5⟩ := hrow2
  clear r5
  subst r0
  have hw : ∀ k : Nat, k < w.heap.size → (e.nilrow = false → k ≠ e.blk) → (w.setRow e.blk (splice arr.toList (lo * e.sz) news).toArray).heap[k]? = w.heap[k]? := fun k _ hk => setRow_other w e.blk k _ (hk hn)
  have hI : ∀ b, I b → (w.setRow e.blk (splice arr.toList (lo * e.sz) news).toArray).heap[b]? = w.heap[b]? := fun b hb =>
    hw b (hs.lt b (.inl hb)) (fun _ e1 => (hs.sep id _ e hH rfl h1 hn).1 (e1 ▸ hb))
  have hcells : Cells S m I w e.sz (xs.take lo ++ ys ++ xs.drop (lo + ys.length)) (splice (arr.toList.take (xs.length * e.sz)) (lo * e.sz) news) := by
    have a1 := (hx.take (n := lo) (by omega)).append hy
    have a2 := a1.append (hx.drop (n := lo + ys.length) hle)
    unfold splice
    rw [hy.1, ← Nat.add_mul]
    exact a2
  have hlen : (xs.take lo ++ ys ++ xs.drop (lo + ys.length)).length = xs.length := by simp; omega
  have hfit : lo * e.sz + news.length ≤ (arr.toList.take (xs.length * e.sz)).length := by
    rw [hx.1, hy.1, ← Nat.add_mul]; exact Nat.mul_le_mul_right _ hle
  have hsplit : splice arr.toList (lo * e.sz) news = splice (arr.toList.take (xs.length * e.sz)) (lo * e.sz) news ++ arr.toList.drop (xs.length * e.sz) := by
    rw [← splice_append hfit, List.take_append_drop]
  have := hs.write (e := .arr e.sz ver (xs.take lo ++ ys ++ xs.drop (lo + ys.length))) hH rfl h1 (.inl rfl) hw (by simp) (fun _ => .inl ⟨hn, rfl⟩) (by
    rw [set_self h1]
    refine ⟨e, h1, r1, rfl, by rw [hlen]; exact r2, r3, hcells.2.1, ?_⟩
    refine RowAt.of_cells (hcells.mono (MLe.refl m) (fun _ hb => hb) hI) hn (tail := arr.toList.drop (xs.length * e.sz)) (T := T) ?_ ?_
    · rw [← hsplit]; exact setRow_heap w e.blk arr _ T _ ha
    · have h9 : arr.toList.length = e.cap * e.sz := by simpa using hasz
      rw [List.length_append, splice_length hfit, hx.1, List.length_drop, h9]
      have : xs.length * e.sz ≤ e.cap * e.sz := Nat.mul_le_mul_right _ r2
      omega)
  rw [set_self h1] at this
  exact ⟨this, .refl m, hs.ext_write hH rfl h1 hw (by simp) rfl rfl rfl⟩

theorem own_val {id ver lo hi sz : Nat} {xs : List AV} {e : ME} {v : Value} (h1 : m[id]? = some e) (hrow : RowOk S m I w e sz ver xs) (hv : Rel S m I w (.own id ver lo hi) v) (hlo : lo < hi) :
    e.nilrow = false ∧ v = .slice (some ⟨e.blk, lo * sz, none⟩) (hi - lo) (e.cap - lo) := by
  obtain ⟨r1, r0, r2, r3, r4, r5⟩ := hrow
  cases hv with
  | own _ _ _ _ e2 _ he2 hver hrel =>
    rw [h1] at he2; cases he2
    obtain ⟨k1, k2, hcase⟩ := hrel (by omega)
    rcases hcase with ⟨q1, q2, _⟩ | ⟨q1, off, rfl, q2⟩
    · exfalso; clear hrel r5; omega
    · have hcap : lo < e.cap := by clear hrel r5; omega
      rw [q2 hcap, r0]; exact ⟨q1, rfl⟩

theorem own_len {id ver lo hi sz : Nat} {xs : List AV} {e : ME} {v : Value} (h1 : m[id]? = some e) (hrow : RowOk S m I w e sz ver xs) (hv : Rel S m I w (.own id ver lo hi) v) :
    ∃ a c, v = .slice a (hi - lo) c ∧ hi - lo ≤ c := by
  have hr1 := hrow.1
  cases hv with
  | own _ _ _ _ e2 _ he2 hver hrel =>
    rw [h1] at he2; cases he2
    obtain ⟨k1, k2, hcase⟩ := hrel (by omega)
    clear hrel
    rcases hcase with ⟨q1, q2, a0, rfl⟩ | ⟨q1, off, rfl, q2⟩
    · have : hi - lo = 0 := by omega
      rw [this]; exact ⟨_, _, rfl, Nat.le_refl _⟩
    · exact ⟨_, _, rfl, by omega⟩

theorem copy_sound (hs : Sim S m I X w H) {x y : AV} {xv yv : Value} (hx : Rel S m I w x xv) (hy : Rel S m I w y yv) {t u ty e : Nat} {inf : TypeInfo} {z : Value} (ht : ElOk S.P t e inf z)
    {ys : List AV} (hsy : seen H y = some ys) {v : AV} {H' : List Entry} (h : evCopy H inf.size x ys = some (v, H')) :
    ∃ vv w', (Builtin.copy_ #[t, u] ty #[xv, yv]).run S.P w = .ok vv w' ∧ Rel S m I w' v vv ∧ Went S m I X w m w' H' := by
  have hlen : ∃ a c, yv = .slice a ys.length c ∧ ys.length ≤ c := by
    obtain ⟨a, c, h1, h2, _⟩ := seen_sound hs hy hsy
    exact ⟨a, c, h1, h2⟩
  unfold evCopy at h
  cases x with
  | own id ver lo hi =>
    simp only at h
    split at h
    · rename_i sz u' xs hH
      split at h
      · rename_i hcond
        cases h
        obtain ⟨c1, c2, c3, c4, c5⟩ := hcond
        subst c1
        obtain ⟨e1, h1, hrow⟩ := hs.hok id _ hH
        by_cases h0 : min ys.length (hi - lo) = 0
        · obtain ⟨a, c, rfl, hc⟩ := own_len h1 hrow hx
          obtain ⟨a', c', rfl, hc'⟩ := hlen
          have hset : H.set id (.arr inf.size u' (xs.take lo ++ ys.take (min ys.length (hi - lo)) ++ xs.drop (lo + min ys.length (hi - lo)))) = H := by
            rw [h0]; simp
            rw [← c5]; exact set_self hH
          refine ⟨.int .i64 0, w, ?_, by rw [h0]; exact .int _ _, by rw [hset]; exact hs.stay⟩
          have hmin : Nat.min ys.length (hi - lo) = 0 := h0
          cases a <;> cases a' <;> simp [Builtin.copy_, run_underlying ht.und, Builtin.lenOf, hmin, sizeOf, typeInfo, ht.ti, Builtin.firstCells, loadCells, loadCellsFrom, storeCells, goInt]
        · have hlt : lo < hi := by omega
          obtain ⟨hn, rfl⟩ := own_val h1 hrow hx hlt
          obtain ⟨a, c, vs, rfl, hc, hcy, hcell⟩ := seen_cells hs hy hsy (szOk_len c4)
          have hys : ys ≠ [] := fun h => by subst h; simp at h0
          obtain ⟨b, off, rfl, hcells⟩ := hcell hys
          obtain ⟨arr, T, ha, hasz, hcx⟩ := hrow.to_cells hn
          have hct := hcy.take (n := min ys.length (hi - lo)) (Nat.min_le_left _ _)
          have hone : ∀ u ∈ vs.take (min ys.length (hi - lo) * inf.size), u.oneCell' = true := fun u hu => hcy.one hs (szOk_one c4) u (List.mem_of_mem_take hu)
          have hlt' : (ys.take (min ys.length (hi - lo))).length = min ys.length (hi - lo) := by simp
          have hw := write_row hs hH h1 hrow hn ha hasz hcx (ys := ys.take (min ys.length (hi - lo))) (news := vs.take (min ys.length (hi - lo) * inf.size)) (lo := lo) (by rw [c5]; exact hct) (by rw [hlt']; omega)
          rw [hlt', c5] at hw
          have hfirst := run_firstCells_some (P := S.P) w inf.size (min ys.length (hi - lo)) ⟨b, off, none⟩ ys.length c (vs.take (min ys.length (hi - lo) * inf.size)) (by rw [hct.1, hlt']) (fun k u hk => hcells k u (by
            rw [List.getElem?_take] at hk
            split at hk
            · exact hk
            · cases hk))
          have hfit : lo * inf.size + 0 + (vs.take (min ys.length (hi - lo) * inf.size)).length ≤ arr.size := by
            rw [hct.1, hlt', hasz, ← hrow.2.1.trans c5, Nat.add_zero, ← Nat.add_mul]
            exact Nat.mul_le_mul_right _ (by have := hrow.2.2.1; omega)
          have hst : (storeCells ⟨e1.blk, lo * inf.size, none⟩ (vs.take (min ys.length (hi - lo) * inf.size)) 0).run S.P w = .ok () (w.setRow e1.blk (splice arr.toList (lo * inf.size) (vs.take (min ys.length (hi - lo) * inf.size))).toArray) :=
            run_storeCells_at S.P e1.blk (lo * inf.size) T _ 0 arr w ha hfit hone
          refine ⟨.int .i64 (min ys.length (hi - lo) : Nat), _, ?_, .int _ _, hw⟩
          have hmin : Nat.min ys.length (hi - lo) = min ys.length (hi - lo) := rfl
          rw [c5]
          simp [Builtin.copy_, run_underlying ht.und, Builtin.lenOf, hmin, sizeOf, typeInfo, ht.ti, hfirst, hst, goInt]
      · cases h
    · cases h
  | list t' xs =>
    cases xs with
    | nil =>
      cases h
      obtain ⟨a', c', rfl, hc'⟩ := hlen
      refine ⟨.int .i64 0, w, ?_, .int _ _, hs.stay⟩
      cases hx with
      | empty _ a c _ _ => cases a <;> cases a' <;> simp [Builtin.copy_, run_underlying ht.und, Builtin.lenOf, sizeOf, typeInfo, ht.ti, Builtin.firstCells, loadCells, loadCellsFrom, storeCells, goInt]
      | list _ _ b off n c sz rd hn => simp at hn; subst hn; cases a' <;> simp [Builtin.copy_, run_underlying ht.und, Builtin.lenOf, sizeOf, typeInfo, ht.ti, Builtin.firstCells, loadCells, loadCellsFrom, storeCells, goInt]
    | cons _ _ => cases h
  | _ => cases h

theorem clear_sound (hs : Sim S m I X w H) {x : AV} {xv : Value} (hx : Rel S m I w x xv) {t ty e : Nat} {inf : TypeInfo} {z : Value} (ht : ElOk S.P t e inf z)
    {za : AV} (hz : Rels S m I w za.cells z.cells) {H' : List Entry} (h : evClear H inf.size za x = some H') :
    ∃ w', (Builtin.clear_ #[t] ty #[xv]).run S.P w = .ok (.tuple #[]) w' ∧ Went S m I X w m w' H' := by
  unfold evClear at h
  cases x with
  | own id ver lo hi =>
    simp only at h
    split at h
    · rename_i sz u' xs hH
      split at h
      · rename_i hcond
        cases h
        obtain ⟨c1, c2, c3, c4, c5⟩ := hcond
        subst c1
        obtain ⟨e1, h1, hrow⟩ := hs.hok id _ hH
        by_cases h0 : hi - lo = 0
        · obtain ⟨a, c, rfl, hc⟩ := own_len h1 hrow hx
          have hset : H.set id (.arr inf.size u' (xs.take lo ++ List.replicate (hi - lo) za ++ xs.drop hi)) = H := by
            have : hi = lo := by omega
            subst this
            rw [h0]; simp
            rw [← c5]; exact set_self hH
          refine ⟨w, ?_, by rw [hset]; exact hs.stay⟩
          rw [h0]
          cases a <;> simp [Builtin.clear_, run_underlying ht.und]
        · have hlt : lo < hi := by omega
          obtain ⟨hn, rfl⟩ := own_val h1 hrow hx hlt
          obtain ⟨arr, T, ha, hasz, hcx⟩ := hrow.to_cells hn
          have hzl : za.cells.length = inf.size := szOk_len c4 za (by simp)
          have hct := zeroCells_cells (n := hi - lo) hz hzl
          have hone : ∀ u ∈ (Builtin.zeroCells z.cells (hi - lo)).toList, u.oneCell' = true := hct.one hs (fun x hx => by rw [(List.mem_replicate.1 hx).2]; exact szOk_one c4 za (by simp))
          have hw := write_row hs hH h1 hrow hn ha hasz hcx (ys := List.replicate (hi - lo) za) (news := (Builtin.zeroCells z.cells (hi - lo)).toList) (lo := lo) (by rw [c5]; exact hct) (by simp; omega)
          rw [List.length_replicate, c5, show lo + (hi - lo) = hi by omega] at hw
          have hfit : lo * inf.size + 0 + (Builtin.zeroCells z.cells (hi - lo)).toList.length ≤ arr.size := by
            rw [hct.1, List.length_replicate, hasz, ← hrow.2.1.trans c5, Nat.add_zero, ← Nat.add_mul]
            exact Nat.mul_le_mul_right _ (by have := hrow.2.2.1; omega)
          have hst : (storeCells ⟨e1.blk, lo * inf.size, none⟩ (Builtin.zeroCells z.cells (hi - lo)).toList 0).run S.P w = .ok () (w.setRow e1.blk (splice arr.toList (lo * inf.size) (Builtin.zeroCells z.cells (hi - lo)).toList).toArray) :=
            run_storeCells_at S.P e1.blk (lo * inf.size) T _ 0 arr w ha hfit hone
          refine ⟨_, ?_, hw⟩
          rw [c5]
          obtain ⟨k, hk⟩ : ∃ k, hi - lo = k + 1 := ⟨hi - lo - 1, by omega⟩
          rw [hk] at hst ⊢
          simp [Builtin.clear_, run_underlying ht.und, zeroValue, typeInfo, ht.ti, ht.zero, hst]
      · cases h
    · cases h
  | list t' xs =>
    cases xs with
    | nil =>
      cases h
      refine ⟨w, ?_, hs.stay⟩
      cases hx with
      | empty _ a c _ _ => cases a <;> simp [Builtin.clear_, run_underlying ht.und]
      | list _ _ b off n c sz rd hn => simp at hn; subst hn; simp [Builtin.clear_, run_underlying ht.und]
    | cons _ _ => cases h
  | _ => cases h

theorem mkslice_sound (hs : Sim S m I X w H) {n c : AV} {nv cv : Value} (hn : Rel S m I w n nv) (hc : Rel S m I w c cv) {t e : Nat} {inf : TypeInfo} {z : Value} (ht : ElOk S.P t e inf z)
    {za : AV} (hz : Rels S m I w za.cells z.cells) {v : AV} {H' : List Entry} (h : evMkslice H inf.size inf.bytes za n c = some (v, H')) :
    ∃ vv w' m', (Instr.makeSlice t nv cv).run S.P w = .ok vv w' ∧ Rel S m' I w' v vv ∧ Went S m I X w m' w' H' := by
  unfold evMkslice at h
  split at h
  · rename_i k1 n1 k2 c1
    cases hn; cases hc
    split at h
    · rename_i hcond
      cases h
      obtain ⟨a1, a2, a3, a4, a5, a6⟩ := hcond
      subst a2
      have hzl : za.cells.length = inf.size := szOk_len a6 za (by simp)
      have hct := zeroCells_cells (n := n1.toNat) hz hzl
      have hb : (inf.bytes : Int) * n1 ≤ 281474976710656 := by
        have h1 : inf.bytes * n1.toNat ≤ 4096 * maxRow := Nat.mul_le_mul a4 (by omega)
        have h2 : ((inf.bytes * n1.toNat : Nat) : Int) ≤ ((4096 * maxRow : Nat) : Int) := Int.ofNat_le.mpr h1
        rw [Int.natCast_mul, Int.toNat_of_nonneg a1] at h2
        unfold maxRow at h2; omega
      have hrun := run_make (P := S.P) w t e inf z ht.und ht.ti ht.zero k1 k2 n1 n1 a1 (Int.le_refl _) hb (by unfold maxRow at a3; omega)
      have hmade : madeCells z.cells (n1.toNat * inf.size) = Builtin.zeroCells z.cells n1.toNat := by simp [madeCells, Builtin.zeroCells, ht.size]
      rw [hmade] at hrun
      have hp := push_row (T := e) (cap := n1.toNat) (tail := []) (w' := w.alloc (.cells (Builtin.zeroCells z.cells n1.toNat) e)) hs hct (.inr (by simp)) (by simp [size_zeroCells, ht.size]) (by simp) (by unfold maxRow at a3; omega)
      rw [List.length_replicate] at hp
      exact ⟨_, _, _, hrun, hp.2, hp.1⟩
    · cases h
  · cases h

/-! ### Literals -/
theorem foldl_set {off : Nat} : ∀ (vs : List Value) (k : Nat) (cs : Array Value), off + k + vs.length ≤ cs.size →
    ((vs.zipIdx k).foldl (fun (cs : Array Value) (p : Value × Nat) => cs.setIfInBounds (off + p.2) p.1) cs).toList = splice cs.toList (off + k) vs
  | [], k, cs, h => by simp [splice]
  | v :: vs, k, cs, h => by
    simp only [List.length_cons] at h
    rw [List.zipIdx_cons, List.foldl_cons]
    have ih := foldl_set (off := off) vs (k + 1) (cs.setIfInBounds (off + k) v) (by simp; omega)
    rw [ih]
    have e := list_seg_step cs.toList (off + k) v vs (by simp; omega)
    unfold splice
    simp only [Array.toList_setIfInBounds, List.length_cons]
    rw [show off + (k + 1) = off + k + 1 by omega]
    exact e

theorem zipIdx_foldl (v : Value) (off : Nat) (cs : Array Value) (h : off + v.cells.size ≤ cs.size) :
    (v.cells.zipIdx.foldl (fun cs (c, j) => cs.setIfInBounds (off + j) c) cs).toList = splice cs.toList off v.cells.toList := by
  rw [← Array.foldl_toList, Array.toList_zipIdx]
  have := foldl_set (off := off) v.cells.toList 0 cs (by simpa using h)
  simpa using this

theorem fill_sound (hs : Sim S m I X w H) {place : Nat → Option (Nat × Nat)} : ∀ (ps : List (Nat × Nat × AV)) (qs : List (Nat × Value)) (zs : List AV) (cells : Array Value) {r : List AV},
    ps.length = qs.length → (∀ (i : Nat) (p : Nat × Nat × AV) (q : Nat × Value), ps[i]? = some p → qs[i]? = some q → place q.1 = some (p.1, p.2.1) ∧ Rel S m I w p.2.2 q.2) → Rels S m I w zs cells → fillA H zs ps = some r →
    ∃ cs, Instr.fill place cells qs = some cs ∧ Rels S m I w r cs
  | [], [], zs, cells, r, _, _, hz, h => by cases h; exact ⟨cells, rfl, hz⟩
  | (off, n, v) :: ps, (i, vv) :: qs, zs, cells, r, hl, hp, hz, h => by
    simp only [fillA] at h
    split at h
    · rename_i hcond
      obtain ⟨h1, h2, h3⟩ := hcond
      obtain ⟨hpl, hr⟩ := hp 0 _ _ rfl rfl
      obtain ⟨hrels, _⟩ := cells_sound hs hr h3
      have hsz : vv.cells.size = n := by rw [hrels.1, h1]
      have hle : off + vv.cells.size ≤ cells.size := by rw [hsz, hz.1]; exact h2
      have hz' : Rels S m I w (splice zs off v.cells) (splice cells.toList off vv.cells.toList).toArray := by
        have a1 : Rels S m I w zs cells.toList.toArray := by simpa using hz
        have a2 : Rels S m I w v.cells vv.cells.toList.toArray := by simpa using hrels
        exact a1.splice a2 (by rw [h1]; exact h2)
      have ih := fill_sound hs ps qs _ _ (by simpa using hl) (fun i p q hp' hq' => hp (i + 1) p q hp' hq') hz' h
      obtain ⟨cs, hcs, hrr⟩ := ih
      refine ⟨cs, ?_, hrr⟩
      have hz2 := zipIdx_foldl vv off cells hle
      have : (vv.cells.zipIdx.foldl (fun cs (c, j) => cs.setIfInBounds (off + j) c) cells) = (splice cells.toList off vv.cells.toList).toArray := by rw [← hz2]
      have hno : (vv.cells.size != n || decide (off + vv.cells.size > cells.size)) = false := by simp [hsz]; omega
      simp only [Instr.fill, hpl]
      rw [this]
      rw [if_neg (by simp [hsz]; omega)]
      exact hcs
    · cases h

theorem Cells.set {sz i : Nat} {xs : List AV} {x : AV} {vs us : List Value} (h : Cells S m I w sz xs vs) (hi : i < xs.length) (hx : Cells S m I w sz [x] us) : Cells S m I w sz (xs.set i x) (splice vs (i * sz) us) := by
  have a1 := ((h.take (n := i) (by omega)).append hx).append (h.drop (n := i + 1) hi)
  have hset : xs.set i x = xs.take i ++ [x] ++ xs.drop (i + 1) := by
    rw [List.set_eq_take_append_cons_drop, if_pos hi]; simp
  rw [hset]
  unfold splice
  have : us.length = 1 * sz := by rw [hx.1]; rfl
  rw [this, ← Nat.add_mul]
  exact a1

theorem fillRow_sound (hs : Sim S m I X w H) {sz n : Nat} : ∀ (ps : List (Nat × AV)) (qs : List (Nat × Value)) (xs : List AV) (cells : Array Value),
    ps.length = qs.length → (∀ (i : Nat) (p : Nat × AV) (q : Nat × Value), ps[i]? = some p → qs[i]? = some q → q.1 = p.1 ∧ Rel S m I w p.2 q.2) → xs.length = n → Cells S m I w sz xs cells.toList →
    (ps.all fun p => decide (p.1 < n) && szOk H sz [p.2]) = true →
    ∃ cs, Instr.fill (fun i => some (i * sz, sz)) cells qs = some cs ∧ Cells S m I w sz (ps.foldl (fun xs p => xs.set p.1 p.2) xs) cs.toList
  | [], [], xs, cells, _, _, _, hz, _ => ⟨cells, rfl, hz⟩
  | (k, v) :: ps, (k', vv) :: qs, xs, cells, hl, hp, hn, hz, hall => by
    simp only [List.all_cons, Bool.and_eq_true, decide_eq_true_eq] at hall
    obtain ⟨⟨hk, hok⟩, hall⟩ := hall
    obtain ⟨h1, hr⟩ := hp 0 _ _ rfl rfl
    simp only at h1 hr
    subst h1
    have hvl : v.cells.length = sz := szOk_len hok v (by simp)
    obtain ⟨hrels, _⟩ := cells_sound hs hr (szOk_one hok v (by simp))
    have hsz : vv.cells.size = sz := by rw [hrels.1, hvl]
    have hcells : cells.size = n * sz := by have := hz.1; rw [hn] at this; simpa using this
    have hle : k' * sz + vv.cells.size ≤ cells.size := by
      rw [hsz, hcells]
      have : (k' + 1) * sz ≤ n * sz := Nat.mul_le_mul_right _ hk
      rw [Nat.add_mul] at this; omega
    have hone : Cells S m I w sz [v] vv.cells.toList := by
      refine ⟨by simp [hsz], by simp [hvl], fun i x hx j y hy => ?_⟩
      cases i with
      | zero =>
        simp at hx; subst hx
        have := hrels.2 j y hy
        rw [getD_list] at this
        simpa using this
      | succ i => simp at hx
    have ih := fillRow_sound hs (n := n) ps qs (xs.set k' v) (splice cells.toList (k' * sz) vv.cells.toList).toArray (by simpa using hl) (fun i p q hp' hq' => hp (i + 1) p q hp' hq') (by simp [hn]) (hz.set (by omega) hone) hall
    obtain ⟨cs, hcs, hrr⟩ := ih
    refine ⟨cs, ?_, hrr⟩
    have hz2 := zipIdx_foldl vv (k' * sz) cells hle
    have : (vv.cells.zipIdx.foldl (fun cs (c, j) => cs.setIfInBounds (k' * sz + j) c) cells) = (splice cells.toList (k' * sz) vv.cells.toList).toArray := by rw [← hz2]
    simp only [Instr.fill]
    rw [this, if_neg (by simp [hsz]; omega)]
    exact hcs

theorem box_sound (hs : Sim S m I X w H) {cs : List AV} {arr : Array Value} (hr : Rels S m I w cs arr) (T : Nat) :
    Went S m I X w (m ++ [⟨0, w.heap.size, 1, 0, false⟩]) (w.alloc (.cells arr T)) (H ++ [.box cs]) ∧
      Rel S (m ++ [⟨0, w.heap.size, 1, 0, false⟩]) I (w.alloc (.cells arr T)) (.ptr H.length 0) (.pointer (some ⟨w.heap.size, 0, none⟩)) := by
  have hold : ∀ k : Nat, k < w.heap.size → (w.alloc (.cells arr T)).heap[k]? = w.heap[k]? := fun k hk => heap_alloc_old w _ hk
  have hme : (m ++ [(⟨0, w.heap.size, 1, 0, false⟩ : ME)])[H.length]? = some ⟨0, w.heap.size, 1, 0, false⟩ := by rw [← hs.len]; simp
  refine ⟨⟨hs.push hold (by simp) (fun _ => Nat.le_refl _) ⟨_, arr, T, hme, rfl, rfl, heap_alloc_new w _, hr.mono (MLe.push _ _) (fun _ hb => hb) (fun b hb => hold b (hs.lt b (.inl hb)))⟩, MLe.push _ _,
    ⟨rfl, rfl, rfl, by simp, fun b hb => hold b (hs.lt b hb)⟩⟩, .ptr _ _ _ _ hme (fun _ => rfl)⟩

end Go.Proofs.YtihhinbjhiankaaGreatDoor.Al
