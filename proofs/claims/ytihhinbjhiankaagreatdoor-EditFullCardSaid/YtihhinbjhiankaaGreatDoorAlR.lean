/-
  CONTRACTS AT HAND: how values are read back, and how a contract is laid into a table.
-/
import Derived.Test.YtihhinbjhiankaaGreatDoorAlP5
import Derived.Test.YtihhinbjhiankaaGreatDoorAlD7
import Derived.Test.YtihhinbjhiankaaGreatDoorAlD8
set_option linter.unusedSimpArgs false
set_option linter.unusedVariables false
namespace Go.Proofs.YtihhinbjhiankaaGreatDoor.Al
open Go
variable {S : Seat}

/-- What is told by x may be told by y. -/
def Weak (x y : AV) : Prop := ∀ (S : Seat) (m : List ME) (I : Nat → Prop) (w : World) (v : Value), Rel S m I w x v → Rel S m I w y v
inductive Weaks : List AV → List AV → Prop
  | nil : Weaks [] []
  | cons {x y : AV} {xs ys : List AV} (h : Weak x y) (t : Weaks xs ys) : Weaks (x :: xs) (y :: ys)
theorem Weak.refl (x : AV) : Weak x x := fun _ _ _ _ _ h => h
theorem Weak.of_eq {x y : AV} (h : x = y) : Weak x y := by rw [h]; exact .refl y
theorem Weaks.get {xs ys : List AV} (h : Weaks xs ys) : xs.length = ys.length ∧ ∀ (i : Nat) (y : AV), ys[i]? = some y → ∃ x, xs[i]? = some x ∧ Weak x y := by
  induction h with
  | nil => exact ⟨rfl, fun i y h => by simp at h⟩
  | @cons x y xs ys h t ih =>
    refine ⟨by simp [ih.1], fun i z hz => ?_⟩
    cases i with
    | zero => simp at hz; subst hz; exact ⟨x, rfl, h⟩
    | succ i => simp at hz; obtain ⟨u, h1, h2⟩ := ih.2 i z hz; exact ⟨u, by simpa using h1, h2⟩
theorem Weaks.rels {xs ys : List AV} (h : Weaks xs ys) {m : List ME} {I : Nat → Prop} {w : World} {vs : Array Value} (hv : Rels S m I w xs vs) : Rels S m I w ys vs := by
  refine ⟨by rw [hv.1, h.get.1], fun i y hy => ?_⟩
  obtain ⟨x, h1, h2⟩ := h.get.2 i y hy
  exact h2 _ _ _ _ _ (hv.2 i x h1)
theorem Weak.agg {xs ys : List AV} (h : Weaks xs ys) : Weak (.agg xs) (.agg ys) := by
  intro S m I w v hv
  cases hv with
  | agg _ vs hs hh =>
    have := h.rels (S := S) (m := m) (I := I) (w := w) (vs := vs) ⟨hs, hh⟩
    exact .agg ys vs this.1 this.2
theorem Weak.list (t : Bool) (xs : List AV) : Weak (.list t xs) (.list false xs) := by
  intro S m I w v hv
  cases hv with
  | empty _ a c ht hc => exact .empty false a c (fun h => by cases h) hc
  | list _ _ b off n c sz rd hn hnc hcm ht hI hsz hc hr => exact .list false xs b off n c sz rd hn hnc hcm (fun h => by cases h) hI hsz hc hr
theorem ACall.weak {c : Nat} {args args' : List AV} {H : List Entry} {R : AV → List Entry → Prop} (hw : Weaks args args') (h : ACall S c args' H R) : ACall S c args H R :=
  fun m I X w vs hs hv => h m I X w vs hs (hw.rels hv)
theorem Fun.weak {c : Nat} {args args' : List AV} {r : AV} (hw : Weaks args args') (h : Fun S c args' r) : Fun S c args r := fun H => (h H).weak hw
theorem FunOwn.weak {c : Nat} {args args' : List AV} {sz : Nat} {xs : List AV} (hw : Weaks args args') (h : FunOwn S c args' sz xs) : FunOwn S c args sz xs := fun H => (h H).weak hw

structure Patch where
  len : Int
  x : List Int
  n : List Node
deriving DecidableEq
def patchA (p : Patch) : AV := .agg [.int .i64 p.len, ints p.x, nodes p.n]
structure Patch.Ok (p : Patch) : Prop where
  len : In64 p.len
  x : Nums p.x
  n : Tree.Ok p.n
def Patch.zero : Patch := ⟨0, [], []⟩

theorem Weak.undef (x : AV) : Weak x .undef := fun _ _ _ _ v _ => .undef v
theorem Weak.trans {x y z : AV} (h : Weak x y) (k : Weak y z) : Weak x z := fun S m I w v hv => k S m I w v (h S m I w v hv)
theorem WP.weakE {r : Option Nat} {N b : Nat} {ic : IC} {Q : Exit → St → Prop} {env env' : Env} {H : List Entry} (hw : ∀ j, Weak (env j) (env' j)) (h : WP S r N b ic Q ⟨env', H⟩) : WP S r N b ic Q ⟨env, H⟩ := by
  refine WP.ghost ?_ h
  intro m I X w n0 a hs hfr
  exact ⟨m, I, .refl m, fun _ hb => hb, hs, ⟨fun j => hw j _ _ _ _ _ (hfr.env j), hfr.size, hfr.marks⟩⟩
theorem envL_weak {env : Env} : ∀ {l : List (Nat × AV)}, (∀ p ∈ l, Weak (env p.1) p.2) → ∀ j, Weak (env j) (envL l j)
  | [], _, j => .undef _
  | (k, v) :: l, h, j => by
    rw [envL_cons]
    split
    · rename_i e; subst e; exact h (_, v) (by simp)
    · exact envL_weak (fun p hp => h p (by simp [hp])) j
theorem WP.weakL {r : Option Nat} {N b : Nat} {ic : IC} {Q : Exit → St → Prop} {st : St} (l : List (Nat × AV)) (hw : ∀ p ∈ l, Weak (st.env p.1) p.2) (h : WP S r N b ic Q ⟨envL l, st.H⟩) : WP S r N b ic Q st :=
  WP.weakE (envL_weak hw) h
/-- A loop: its slots told one by one, its heap by a property. -/
theorem WP.loopJW {r : Option Nat} {N b : Nat} {x : IC} {Q : Exit → St → Prop} {st : St} {α : Type} (L : α → List (Nat × AV)) (J : α → List Entry → Prop) (μ : α → Nat) (a : α) (ha : ∀ p ∈ L a, Weak (st.env p.1) p.2) (hj : J a st.H)
    (h : ∀ a H, J a H → WP S r N b x (thenQ (fun st' => ∃ a', J a' st'.H ∧ μ a' < μ a ∧ ∀ p ∈ L a', Weak (st'.env p.1) p.2) Q) ⟨envL (L a), H⟩) : WP S r N b (.loop x) Q st := by
  refine WP.loop (fun n st => ∃ a, μ a = n ∧ J a st.H ∧ ∀ p ∈ L a, Weak (st.env p.1) p.2) ⟨a, rfl, hj, ha⟩ ?_
  rintro n st ⟨a, rfl, hj, ha⟩
  refine WP.weakL (L a) ha (WP.mono (h a st.H hj) ?_)
  intro e st' hq
  cases e with
  | normal =>
    obtain ⟨a', h1, h2, h3⟩ := hq
    exact ⟨_, h2, a', rfl, h1, h3⟩
  | _ => exact hq
theorem weak_refl (x : AV) : Weak x x = True := eq_true (.refl x)
theorem weak_octs (t : Bool) (l : List Int) : Weak (.list t (l.map (AV.int .u8))) (octs l) = True := eq_true (.list t _)
theorem weak_ints (t : Bool) (l : List Int) : Weak (.list t (l.map (AV.int .i64))) (ints l) = True := eq_true (.list t _)
theorem weak_nodes (t : Bool) (l : List Node) : Weak (.list t (l.map nodeA)) (nodes l) = True := eq_true (.list t _)

/-! ### Values read back -/
def dI : AV → Int
  | .int _ n => n
  | _ => 0
def dB : AV → Bool
  | .bool b => b
  | _ => false
def dRow {α : Type} (d : AV → α) : AV → List α
  | .list _ xs => xs.map d
  | _ => []
def dO (x : AV) : List Int := dRow dI x
def dOs (x : AV) : List (List Int) := dRow dO x
def dLf : AV → Leaf
  | .agg [e, c, s, p] => ⟨dO e, dO c, dI s, dO p⟩
  | _ => .zero
def dIn : AV → Inner
  | .agg [e, c, s] => ⟨dO e, dO c, dO s⟩
  | _ => .zero
def dN : AV → Node
  | .agg [k, a, b, c, d, e, f, g] => ⟨dI k, ⟨dO a, dO b, dI c, dO d⟩, ⟨dO e, dO f, dO g⟩⟩
  | _ => .zero
def dNs (x : AV) : List Node := dRow dN x
def dP : AV → Patch
  | .agg [a, b, c] => ⟨dI a, dO b, dNs c⟩
  | _ => .zero

def isI (x : AV) : Prop := x = .int .i64 (dI x)
def isU (x : AV) : Prop := x = .int .u8 (dI x)
def isB (x : AV) : Prop := x = .bool (dB x)
def isO (x : AV) : Prop := ∃ t, x = .list t ((dO x).map (AV.int .u8))
def isS (x : AV) : Prop := ∃ t, x = .list t ((dO x).map (AV.int .i64))
def isOs (x : AV) : Prop := ∃ t, x = .list t ((dOs x).map octs)
def isSs (x : AV) : Prop := ∃ t, x = .list t ((dOs x).map ints)
def isNs (x : AV) : Prop := ∃ t, x = .list t ((dNs x).map nodeA)
def isLf : AV → Prop
  | .agg [e, c, s, p] => isO e ∧ isO c ∧ isI s ∧ isO p
  | _ => False
def isIn : AV → Prop
  | .agg [e, c, s] => isO e ∧ isO c ∧ isS s
  | _ => False
def isN : AV → Prop
  | .agg [k, a, b, c, d, e, f, g] => isI k ∧ isO a ∧ isO b ∧ isI c ∧ isO d ∧ isO e ∧ isO f ∧ isS g
  | _ => False
def isP : AV → Prop
  | .agg [a, b, c] => isI a ∧ isS b ∧ isNs c
  | _ => False

theorem isI.weak {x : AV} (h : isI x) : Weak x (.int .i64 (dI x)) := by rw [← h]; exact .refl x
theorem isU.weak {x : AV} (h : isU x) : Weak x (.int .u8 (dI x)) := by rw [← h]; exact .refl x
theorem isB.weak {x : AV} (h : isB x) : Weak x (.bool (dB x)) := by rw [← h]; exact .refl x
theorem isO.weak {x : AV} (h : isO x) : Weak x (octs (dO x)) := by
  obtain ⟨t, h⟩ := h
  have := Weak.list t ((dO x).map (AV.int .u8))
  rw [← h] at this; exact this
theorem isS.weak {x : AV} (h : isS x) : Weak x (ints (dO x)) := by
  obtain ⟨t, h⟩ := h
  have := Weak.list t ((dO x).map (AV.int .i64))
  rw [← h] at this; exact this
theorem isOs.weak {x : AV} (h : isOs x) : Weak x (octss (dOs x)) := by
  obtain ⟨t, h⟩ := h
  have := Weak.list t ((dOs x).map octs)
  rw [← h] at this; exact this
theorem isSs.weak {x : AV} (h : isSs x) : Weak x (intss (dOs x)) := by
  obtain ⟨t, h⟩ := h
  have := Weak.list t ((dOs x).map ints)
  rw [← h] at this; exact this
theorem isNs.weak {x : AV} (h : isNs x) : Weak x (nodes (dNs x)) := by
  obtain ⟨t, h⟩ := h
  have := Weak.list t ((dNs x).map nodeA)
  rw [← h] at this; exact this
theorem isLf.weak {x : AV} (h : isLf x) : Weak x (leafA (dLf x)) := by
  unfold isLf at h
  split at h
  · exact .agg (.cons h.1.weak (.cons h.2.1.weak (.cons h.2.2.1.weak (.cons h.2.2.2.weak .nil))))
  · exact h.elim
theorem isIn.weak {x : AV} (h : isIn x) : Weak x (innerA (dIn x)) := by
  unfold isIn at h
  split at h
  · exact .agg (.cons h.1.weak (.cons h.2.1.weak (.cons h.2.2.weak .nil)))
  · exact h.elim
theorem isN.weak {x : AV} (h : isN x) : Weak x (nodeA (dN x)) := by
  unfold isN at h
  split at h
  · obtain ⟨h1, h2, h3, h4, h5, h6, h7, h8⟩ := h
    exact .agg (.cons h1.weak (.cons h2.weak (.cons h3.weak (.cons h4.weak (.cons h5.weak (.cons h6.weak (.cons h7.weak (.cons h8.weak .nil))))))))
  · exact h.elim
theorem isP.weak {x : AV} (h : isP x) : Weak x (patchA (dP x)) := by
  unfold isP at h
  split at h
  · exact .agg (.cons h.1.weak (.cons h.2.1.weak (.cons h.2.2.weak .nil)))
  · exact h.elim

theorem map_dI (k : IntKind) (l : List Int) : (l.map (AV.int k)).map dI = l := by
  induction l with
  | nil => rfl
  | cons x l ih => rw [List.map_cons, List.map_cons, ih]; rfl
theorem dI_int (k : IntKind) (n : Int) : dI (.int k n) = n := (rfl)
theorem dB_bool (b : Bool) : dB (.bool b) = b := (rfl)
theorem dO_octs (l : List Int) : dO (octs l) = l := map_dI _ l
theorem dO_ints (l : List Int) : dO (ints l) = l := map_dI _ l
theorem dO_list (t : Bool) (k : IntKind) (l : List Int) : dO (.list t (l.map (AV.int k))) = l := map_dI _ l
theorem dO_nil (t : Bool) : dO (.list t []) = [] := (rfl)
theorem dOs_octss (l : List (List Int)) : dOs (octss l) = l := by
  simp only [dOs, dRow, octss, List.map_map]
  exact (List.map_congr_left fun a _ => dO_octs a).trans (List.map_id _)
theorem dOs_intss (l : List (List Int)) : dOs (intss l) = l := by
  simp only [dOs, dRow, intss, List.map_map]
  exact (List.map_congr_left fun a _ => dO_ints a).trans (List.map_id _)
theorem dOs_nil (t : Bool) : dOs (.list t []) = [] := (rfl)
theorem dLf_leafA (l : Leaf) : dLf (leafA l) = l := by simp only [leafA, Leaf.cells, dLf, dO_octs, dI_int]
theorem dIn_innerA (l : Inner) : dIn (innerA l) = l := by simp only [innerA, Inner.cells, dIn, dO_octs, dO_ints]
theorem dN_nodeA (l : Node) : dN (nodeA l) = l := by simp only [nodeA, Node.cells, dN, dO_octs, dO_ints, dI_int]
theorem dLf_agg (e c s p : AV) : dLf (.agg [e, c, s, p]) = ⟨dO e, dO c, dI s, dO p⟩ := (rfl)
theorem dIn_agg (e c s : AV) : dIn (.agg [e, c, s]) = ⟨dO e, dO c, dO s⟩ := (rfl)
theorem dN_agg (k a b c d e f g : AV) : dN (.agg [k, a, b, c, d, e, f, g]) = ⟨dI k, ⟨dO a, dO b, dI c, dO d⟩, ⟨dO e, dO f, dO g⟩⟩ := (rfl)
theorem dNs_nodes (l : List Node) : dNs (nodes l) = l := by
  simp only [dNs, dRow, nodes, List.map_map]
  exact (List.map_congr_left fun a _ => dN_nodeA a).trans (List.map_id _)
theorem dNs_list (t : Bool) (l : List Node) : dNs (.list t (l.map nodeA)) = l := dNs_nodes l
theorem dNs_nil (t : Bool) : dNs (.list t []) = [] := (rfl)
theorem isI_int (n : Int) : isI (.int .i64 n) = True := eq_true rfl
theorem isU_int (n : Int) : isU (.int .u8 n) = True := eq_true rfl
theorem isB_bool (n : Bool) : isB (.bool n) = True := eq_true rfl
theorem isO_octs (l : List Int) : isO (octs l) = True := eq_true ⟨false, by rw [dO_octs]; rfl⟩
theorem isO_nil (t : Bool) : isO (.list t []) = True := eq_true ⟨t, rfl⟩
theorem isO_list (t : Bool) (l : List Int) : isO (.list t (l.map (AV.int .u8))) = True := eq_true ⟨t, by rw [dO_list]⟩
theorem isS_ints (l : List Int) : isS (ints l) = True := eq_true ⟨false, by rw [dO_ints]; rfl⟩
theorem isS_nil (t : Bool) : isS (.list t []) = True := eq_true ⟨t, rfl⟩
theorem isS_list (t : Bool) (l : List Int) : isS (.list t (l.map (AV.int .i64))) = True := eq_true ⟨t, by rw [dO_list]⟩
theorem isOs_octss (l : List (List Int)) : isOs (octss l) = True := eq_true ⟨false, by rw [dOs_octss]; rfl⟩
theorem isSs_intss (l : List (List Int)) : isSs (intss l) = True := eq_true ⟨false, by rw [dOs_intss]; rfl⟩
theorem isOs_nil (t : Bool) : isOs (.list t []) = True := eq_true ⟨t, rfl⟩
theorem isSs_nil (t : Bool) : isSs (.list t []) = True := eq_true ⟨t, rfl⟩
theorem isNs_nodes (l : List Node) : isNs (nodes l) = True := eq_true ⟨false, by rw [dNs_nodes]; rfl⟩
theorem isNs_list (t : Bool) (l : List Node) : isNs (.list t (l.map nodeA)) = True := eq_true ⟨t, by rw [dNs_list]⟩
theorem isNs_nil (t : Bool) : isNs (.list t []) = True := eq_true ⟨t, rfl⟩
theorem isLf_leafA (l : Leaf) : isLf (leafA l) = True := by simp only [leafA, Leaf.cells, isLf, isO_octs, isI_int, and_self]
theorem isIn_innerA (l : Inner) : isIn (innerA l) = True := by simp only [innerA, Inner.cells, isIn, isO_octs, isS_ints, and_self]
theorem isN_nodeA (l : Node) : isN (nodeA l) = True := by simp only [nodeA, Node.cells, isN, isO_octs, isS_ints, isI_int, and_self]
theorem isLf_agg (e c s p : AV) : isLf (.agg [e, c, s, p]) = (isO e ∧ isO c ∧ isI s ∧ isO p) := (rfl)
theorem isIn_agg (e c s : AV) : isIn (.agg [e, c, s]) = (isO e ∧ isO c ∧ isS s) := (rfl)
theorem isN_agg (k a b c d e f g : AV) : isN (.agg [k, a, b, c, d, e, f, g]) = (isI k ∧ isO a ∧ isO b ∧ isI c ∧ isO d ∧ isO e ∧ isO f ∧ isS g) := (rfl)
theorem dP_patchA (p : Patch) : dP (patchA p) = p := by simp only [patchA, dP, dO_ints, dNs_nodes, dI_int]
theorem dP_agg (a b c : AV) : dP (.agg [a, b, c]) = ⟨dI a, dO b, dNs c⟩ := (rfl)
theorem isP_patchA (p : Patch) : isP (patchA p) = True := by simp only [patchA, isP, isS_ints, isNs_nodes, isI_int, and_self]
theorem isP_agg (a b c : AV) : isP (.agg [a, b, c]) = (isI a ∧ isS b ∧ isNs c) := (rfl)
theorem patch_eta (p : Patch) : Patch.mk p.len p.x p.n = p := (rfl)
theorem idb_patchA (n : Nat) (p : Patch) : Idb n (patchA p) = True := by
  simp [patchA, idb_agg, idb_ints, idb_nodes, idb_int]
theorem leaf_eta (l : Leaf) : Leaf.mk l.enc l.cred l.source l.parent = l := (rfl)
theorem inner_eta (l : Inner) : Inner.mk l.enc l.hash l.unmerged = l := (rfl)
theorem node_eta (n : Node) : Node.mk n.kind n.leaf n.inner = n := (rfl)
theorem leaf_zero : Leaf.mk [] [] 0 [] = .zero := (rfl)
theorem inner_zero : Inner.mk [] [] [] = .zero := (rfl)
theorem node_zero : Node.mk 0 .zero .zero = .zero := (rfl)

theorem ldI (H : List Entry) (n : Nat) (cs : List AV) (o : Nat) : evLoad H false n (.iptr cs o) = cs[o]? := by simp [evLoad, window]
theorem ldIA (H : List Entry) (n : Nat) (cs : List AV) (o : Nat) : evLoad H true n (.iptr cs o) = if o + n ≤ cs.length then some (.agg ((cs.drop o).take n)) else none := by simp [evLoad, window]
theorem adI (H : List Entry) (off : Nat) (cs : List AV) (o : Nat) : evAddr H off (.iptr cs o) = some (.iptr cs (o + off)) := rfl
theorem ix_nodes (H : List Entry) (l : List Node) (k : Nat) (h : k < l.length) : evIndex H 8 (nodes l) (.int .i64 (k : Int)) = some (.iptr [.int .i64 l[k].kind, octs l[k].leaf.enc, octs l[k].leaf.cred, .int .i64 l[k].leaf.source, octs l[k].leaf.parent, octs l[k].inner.enc, octs l[k].inner.hash, ints l[k].inner.unmerged] 0) := encNode.index H l k h
theorem wrap64s (n : Int) (h : -9223372036854775808 ≤ n ∧ n ≤ 9223372036854775807) : IntKind.i64.wrap n = n := wrap64 n h.1 h.2
theorem boolF_eq (p : Prop) [Decidable p] (h : ¬ p) : decide p = false := decide_eq_false h

theorem inj_map {α : Type} {f : α → AV} (d : AV → α) (hd : ∀ a, d (f a) = a) {l r : List α} (h : AV.list false (l.map f) = AV.list false (r.map f)) : l = r := by
  have := congrArg (dRow d) h
  simpa only [dRow, List.map_map, Function.comp_def, hd, List.map_id'] using this
theorem nodes_inj (a b : List Node) : (nodes a = nodes b) = (a = b) := propext ⟨inj_map dN dN_nodeA, fun h => by rw [h]⟩
theorem octs_inj (a b : List Int) : (octs a = octs b) = (a = b) := propext ⟨inj_map dI (dI_int _), fun h => by rw [h]⟩
theorem ints_inj (a b : List Int) : (ints a = ints b) = (a = b) := propext ⟨inj_map dI (dI_int _), fun h => by rw [h]⟩
theorem nil_nodes (b : List Node) : (AV.list false [] = nodes b) = (b = []) := propext ⟨fun h => (nodes_inj [] b).mp h |>.symm, fun h => by rw [h]; rfl⟩
theorem nil_octs (b : List Int) : (AV.list false [] = octs b) = (b = []) := propext ⟨fun h => (octs_inj [] b).mp h |>.symm, fun h => by rw [h]; rfl⟩
theorem nil_ints (b : List Int) : (AV.list false [] = ints b) = (b = []) := propext ⟨fun h => (ints_inj [] b).mp h |>.symm, fun h => by rw [h]; rfl⟩
theorem canon_nilL (H : List Entry) (k : Nat) (t : Bool) : canon H (k + 1) (.list t []) = .list false [] := rfl

theorem quo2 (n : Int) (h : 0 ≤ n ∧ n ≤ 9223372036854775807) : IntKind.i64.wrap (n.tdiv 2) = n / 2 := by
  rw [Int.tdiv_eq_ediv_of_nonneg h.1, wrap64 _ (by omega) (by omega)]
theorem rem2 (n : Int) (h : 0 ≤ n) : n.tmod 2 = n % 2 := Int.tmod_eq_emod_of_nonneg h
/-- One place more is looked at. -/
theorem scanS {n k : Nat} {p : ∀ j, j < n → Prop} (hno : ∀ j (h : j < n), j < k → p j h) (hk : ∀ h : k < n, p k h) : ∀ j (h : j < n), j < k + 1 → p j h := by
  intro j h hj
  rcases Nat.lt_or_ge j k with h1 | h1
  · exact hno j h h1
  · obtain rfl : j = k := by omega
    exact hk h
theorem scanE {n : Nat} {p : ∀ j, j < n → Prop} {k : Nat} (hno : ∀ j (h : j < n), j < k → p j h) (hk : ¬ (k : Int) < n) : ∀ j (h : j < n), p j h := fun j h => hno j h (by omega)
theorem two_ne : ((2 : Int) = 0) = False := by simp
theorem four_ne : ((4 : Int) = 0) = False := by simp
theorem b256_ne : ((256 : Int) = 0) = False := by simp

theorem isNs_own (a b c d : Nat) : isNs (.own a b c d) = False := by
  apply eq_false; rintro ⟨t, h⟩; cases h
theorem isO_own (a b c d : Nat) : isO (.own a b c d) = False := by
  apply eq_false; rintro ⟨t, h⟩; cases h
theorem isS_own (a b c d : Nat) : isS (.own a b c d) = False := by
  apply eq_false; rintro ⟨t, h⟩; cases h
theorem isOs_own (a b c d : Nat) : isOs (.own a b c d) = False := by
  apply eq_false; rintro ⟨t, h⟩; cases h

/-- A box of a node is written whole. -/
theorem st_node {H : List Entry} {id : Nat} {cs : List AV} (n : Node) (h : H[id]? = some (.box cs)) (hc : cs.length = 8) : evStore H 8 (.ptr id 0) (nodeA n) = some (H.set id (.box (nodeA n).cells)) := by
  have h1 : (nodeA n).cells.length = 8 := rfl
  have h2 : (nodeA n).cells.all (AV.oneIn H) = true := encNode.one n H
  have h3 : splice cs 0 (nodeA n).cells = (nodeA n).cells := by
    simp only [splice, List.take_zero, List.nil_append, Nat.zero_add, h1]
    rw [List.drop_of_length_le (by omega), List.append_nil]
  simp only [evStore, h1, h2, h, hc, h3, true_and, and_self, if_true, show (0 : Nat) < 8 by decide, show 0 + 8 ≤ 8 by decide]
theorem ld_node {H : List Entry} {id : Nat} {n : Node} (h : H[id]? = some (.box (nodeA n).cells)) : evLoad H true 8 (.ptr id 0) = some (nodeA n) := by
  simp only [evLoad, window, h]; rfl
theorem tail_get {G : List Entry} {e : Entry} (T : List Entry) (x : Entry) : (e :: (T ++ [x]))[T.length + 1]? = some x := by simp
theorem tail_set {G : List Entry} {e : Entry} (T : List Entry) (x y : Entry) : (e :: (T ++ [x])).set (T.length + 1) y = e :: (T ++ [y]) := by simp

/-- An element of an owned row of nodes is written whole. -/
theorem st_row {H : List Entry} {id ver k : Nat} {l : List Node} (n : Node) (h : H[id]? = some (.arr 8 ver (l.map nodeA))) (hk : k < l.length) : evStore H 8 (.eptr id ver k 0) (nodeA n) = some (H.set id (.arr 8 ver ((l.set k n).map nodeA))) := by
  have h1 : (nodeA n).cells.length = 8 := rfl
  have h2 : (nodeA n).cells.all (AV.oneIn H) = true := encNode.one n H
  have h3 : (l.map nodeA)[k]? = some (nodeA l[k]) := by simp [hk]
  have h4 : setPart (nodeA l[k]) 0 (nodeA n) = nodeA n := by
    simp only [setPart, nodeA, splice, AV.cells, List.take_zero, List.nil_append, Nat.zero_add]
    rw [List.drop_of_length_le (by simp [Node.cells]), List.append_nil]
  have h5 : (nodeA l[k]).cells.length = 8 := rfl
  simp only [evStore, h1, h2, h, h3, h4, h5, true_and, and_self, if_true, show (0 : Nat) < 8 by decide, show 0 + 8 ≤ 8 by decide, List.map_set]

theorem st_rowA {H : List Entry} {id ver k : Nat} {l : List Node} (n : Node) (h : H[id]? = some (.arr 8 ver (l.map nodeA))) (hk : k < l.length) :
    evStore H 8 (.eptr id ver k 0) (.agg [.int .i64 n.kind, octs n.leaf.enc, octs n.leaf.cred, .int .i64 n.leaf.source, octs n.leaf.parent, octs n.inner.enc, octs n.inner.hash, ints n.inner.unmerged]) = some (H.set id (.arr 8 ver ((l.set k n).map nodeA))) := st_row n h hk
theorem ixo_nodes {H : List Entry} {id ver k : Nat} {l : List Node} (h : H[id]? = some (.arr 8 ver (l.map nodeA))) (hk : k < l.length) : evIndex H 8 (.own id ver 0 l.length) (.int .i64 (k : Int)) = some (.eptr id ver k 0) := encNode.index_own h hk
theorem rlo_nodes {H : List Entry} {id ver lo hi : Nat} (h : AV.oneIn H (.own id ver lo hi) = true) : rowLen H (.own id ver lo hi) = some (hi - lo) := by simp only [rowLen, h, if_true]
theorem canon_row {H : List Entry} {id ver k : Nat} {l : List Node} (h : H[id]? = some (.arr 8 ver (l.map nodeA))) : canon H (k + 1) (.own id ver 0 l.length) = nodes l := encNode.canon_own_all h k
theorem canon_rowI {H : List Entry} {id ver k : Nat} {l : List Int} (h : H[id]? = some (.arr 1 ver (l.map (AV.int .i64)))) : canon H (k + 1) (.own id ver 0 l.length) = ints l := encI64.canon_own_all h k
theorem canon_rowO {H : List Entry} {id ver k : Nat} {l : List Int} (h : H[id]? = some (.arr 1 ver (l.map (AV.int .u8)))) : canon H (k + 1) (.own id ver 0 l.length) = octs l := encU8.canon_own_all h k

theorem canon_rowL {H : List Entry} {id ver k n : Nat} {l : List Node} (h : H[id]? = some (.arr 8 ver (l.map nodeA))) (hn : n = l.length) : canon H (k + 1) (.own id ver 0 n) = nodes l := by subst hn; exact encNode.canon_own_all h k

def evR (v : Option AV) (R : AV → List Entry → Prop) (H : List Entry) : Prop := match v with
  | some v => R v H
  | none => False
theorem evR_some {v : AV} {R : AV → List Entry → Prop} {H : List Entry} : evR (some v) R H = R v H := rfl
theorem leaves_r {rs : List IRes} {R : AV → List Entry → Prop} {env : Env} {H : List Entry} : leaves rs R .ret ⟨env, H⟩ = evR (evRess env H rs) R H := by
  simp only [leaves, evR, or_true, true_and]
  cases evRess env H rs <;> simp
theorem evRess1 (env : Env) (H : List Entry) (x : IRes) : evRess env H [x] = evRes env H x := rfl
theorem evRess2 (env : Env) (H : List Entry) (x y : IRes) : evRess env H [x, y] = (evRes env H x).bind fun a => (evRes env H y).map fun b => .tup [a, b] := by
  simp only [evRess, List.mapM_cons, List.mapM_nil]
  cases evRes env H x <;> cases evRes env H y <;> rfl
theorem evRess3 (env : Env) (H : List Entry) (x y z : IRes) : evRess env H [x, y, z] = (evRes env H x).bind fun a => (evRes env H y).bind fun b => (evRes env H z).map fun c => .tup [a, b, c] := by
  simp only [evRess, List.mapM_cons, List.mapM_nil]
  cases evRes env H x <;> cases evRes env H y <;> cases evRes env H z <;> rfl
theorem evRes_t (env : Env) (H : List Entry) (s : Nat) : evRes env H (.t s) = some (env s) := rfl
theorem evRes_c (env : Env) (H : List Entry) (s : Nat) (agg : Bool) (n : Nat) : evRes env H (.cell s agg n) = evLoad H agg n (env s) := rfl

theorem nz_kind : Node.zero.kind = 0 := (rfl)
theorem nz_enc : Node.zero.leaf.enc = [] := (rfl)
theorem nz_cred : Node.zero.leaf.cred = [] := (rfl)
theorem nz_source : Node.zero.leaf.source = 0 := (rfl)
theorem nz_parent : Node.zero.leaf.parent = [] := (rfl)
theorem nz_ienc : Node.zero.inner.enc = [] := (rfl)
theorem nz_hash : Node.zero.inner.hash = [] := (rfl)
theorem nz_un : Node.zero.inner.unmerged = [] := (rfl)

theorem bsl_node (H : List Entry) (n : Node) : evBslice H 8 1 (.agg [.int .i64 0, .list true [], .list true [], .int .i64 0, .list true [], .list true [], .list true [], .list true []])
    [(0, .agg [.int .i64 n.kind, octs n.leaf.enc, octs n.leaf.cred, .int .i64 n.leaf.source, octs n.leaf.parent, octs n.inner.enc, octs n.inner.hash, ints n.inner.unmerged])] = some (.own H.length 0 0 1, H ++ [.arr 8 0 [.agg [.int .i64 n.kind, octs n.leaf.enc, octs n.leaf.cred, .int .i64 n.leaf.source, octs n.leaf.parent, octs n.inner.enc, octs n.inner.hash, ints n.inner.unmerged]]]) := rfl
theorem idbs_node (n : Node) : (∀ x ∈ [AV.agg [.int .i64 n.kind, octs n.leaf.enc, octs n.leaf.cred, .int .i64 n.leaf.source, octs n.leaf.parent, octs n.inner.enc, octs n.inner.hash, ints n.inner.unmerged]], ∀ y ∈ x.cells, Idb 0 y) = True := eq_true fun x hx y hy => by
  rw [List.mem_singleton] at hx; subst hx; exact encNode.idb n y hy
theorem idbs_int (k : IntKind) (n : Int) : (∀ x ∈ [AV.int k n], ∀ y ∈ x.cells, Idb 0 y) = True := eq_true fun x hx y hy => by
  rw [List.mem_singleton] at hx; subst hx
  rw [show y = AV.int k n by simpa [AV.cells] using hy]; exact .int _ _
theorem appN {H : List Entry} {id ver : Nat} {l : List Node} {n : Node} (h : H[id]? = some (.arr 8 ver (l.map nodeA))) (hl : l.length + 1 ≤ maxRow) :
    evAppend H 8 160 (.own id ver 0 l.length) [.agg [.int .i64 n.kind, octs n.leaf.enc, octs n.leaf.cred, .int .i64 n.leaf.source, octs n.leaf.parent, octs n.inner.enc, octs n.inner.hash, ints n.inner.unmerged]] = some (.own id (ver + 1) 0 (l ++ [n]).length, H.set id (.arr 8 (ver + 1) ((l ++ [n]).map nodeA))) := encNode.app_own h hl (by decide)
theorem appI {H : List Entry} {id ver : Nat} {l : List Int} {n : Int} (h : H[id]? = some (.arr 1 ver (l.map (AV.int .i64)))) (hl : l.length + 1 ≤ maxRow) :
    evAppend H 1 8 (.own id ver 0 l.length) [.int .i64 n] = some (.own id (ver + 1) 0 (l ++ [n]).length, H.set id (.arr 1 (ver + 1) ((l ++ [n]).map (AV.int .i64)))) := encI64.app_own h hl (by decide)
theorem appO {H : List Entry} {id ver : Nat} {l : List Int} {n : Int} (h : H[id]? = some (.arr 1 ver (l.map (AV.int .u8)))) (hl : l.length + 1 ≤ maxRow) :
    evAppend H 1 1 (.own id ver 0 l.length) [.int .u8 n] = some (.own id (ver + 1) 0 (l ++ [n]).length, H.set id (.arr 1 (ver + 1) ((l ++ [n]).map (AV.int .u8)))) := encU8.app_own h hl (by decide)

theorem entB_frzN (n ver : Nat) (l : List Node) : EntB n (.frz 8 ver (l.map nodeA)) := encNode.entB n ver 8 l
theorem frz_rowN {H : List Entry} {id ver k : Nat} {l : List Node} (h : H[id]? = some (.frz 8 ver (l.map nodeA))) : derefN H (k + 1) (.own id ver 0 l.length) = nodes l := by
  simp only [derefN, h, List.length_map, Nat.le_refl, and_self, if_true, List.drop_zero]
  rw [List.take_of_length_le (by simp), List.map_map, nodes]
  congr 1
  exact List.map_congr_left fun x _ => encNode.norm H k x

theorem wrapU64 (n : Int) (h1 : 0 ≤ n) (h2 : n ≤ 18446744073709551615) : IntKind.u64.wrap n = n := by
  simp only [IntKind.wrap, IntKind.bits, IntKind.signed]
  simp
  omega
theorem wrapU8 (n : Int) : IntKind.u8.wrap n = n % 256 := by
  simp only [IntKind.wrap, IntKind.bits, IntKind.signed]
  simp

/-! Boxes and rows at whatever place of a heap -/
def ldE (e : Option Entry) (agg : Bool) (n off : Nat) : Option AV := match e with
  | some (.box cs) => if agg then (if off + n ≤ cs.length then some (.agg ((cs.drop off).take n)) else none) else cs[off]?
  | _ => none
theorem ldP (H : List Entry) (agg : Bool) (n id off : Nat) : evLoad H agg n (.ptr id off) = ldE (H[id]?) agg n off := by
  simp only [evLoad, window, ldE]
  split <;> rename_i h
  · split at h
    · rename_i cs hh; cases h; rw [hh]
    · cases h
  · split at h
    · cases h
    · rename_i hh
      split
      · rename_i cs hc; exact absurd hc (hh cs)
      · rfl
theorem ldE_a (cs : List AV) (n off : Nat) : ldE (some (.box cs)) true n off = if off + n ≤ cs.length then some (.agg ((cs.drop off).take n)) else none := rfl
theorem ldE_c (cs : List AV) (n off : Nat) : ldE (some (.box cs)) false n off = cs[off]? := rfl
def adE (e : Option Entry) (id off : Nat) : Option AV := match e with
  | some (.box _) => some (.ptr id off)
  | _ => none
theorem adP (H : List Entry) (k id off : Nat) : evAddr H k (.ptr id off) = adE (H[id]?) id (off + k) := by
  simp only [evAddr, adE]
  rcases H[id]? with _ | e
  · rfl
  · cases e <;> rfl
theorem adE_b (cs : List AV) (id off : Nat) : adE (some (.box cs)) id off = some (.ptr id off) := rfl
def stE (e : Option Entry) (H : List Entry) (n id off : Nat) (v : AV) : Option (List Entry) := match e with
  | some (.box cs) => if v.cells.length = n ∧ 0 < n ∧ v.cells.all (AV.oneIn H) = true then (if off + n ≤ cs.length then some (H.set id (.box (splice cs off v.cells))) else none) else none
  | _ => none
theorem stP (H : List Entry) (n id off : Nat) (v : AV) : evStore H n (.ptr id off) v = stE (H[id]?) H n id off v := by
  simp only [evStore, stE]
  split <;> split <;> simp_all
theorem stE_b (cs : List AV) (H : List Entry) (n id off : Nat) (v : AV) : stE (some (.box cs)) H n id off v = if v.cells.length = n ∧ 0 < n ∧ v.cells.all (AV.oneIn H) = true then (if off + n ≤ cs.length then some (H.set id (.box (splice cs off v.cells))) else none) else none := rfl
def onE (e : Option Entry) (ver : Nat) : Bool := match e with
  | some (.arr _ v _) => v == ver
  | some (.frz _ v _) => v == ver
  | _ => false
theorem onO (H : List Entry) (id ver lo hi : Nat) : AV.oneIn H (.own id ver lo hi) = onE (H[id]?) ver := rfl
theorem onE_a (sz v ver : Nat) (xs : List AV) : onE (some (.arr sz v xs)) ver = (v == ver) := rfl
def onP (e : Option Entry) : Bool := match e with
  | some (.box _) => true
  | _ => false
theorem onPt (H : List Entry) (id off : Nat) : AV.oneIn H (.ptr id off) = onP (H[id]?) := rfl
theorem onP_b (cs : List AV) : onP (some (.box cs)) = true := rfl

/-- What a box holds may be told more weakly. -/
theorem WP.weakB {r : Option Nat} {N b : Nat} {ic : IC} {Q : Exit → St → Prop} {env : Env} {H : List Entry} (id : Nat) {cs : List AV} (cs' : List AV) (hH : H[id]? = some (.box cs)) (hw : Weaks cs cs') (h : WP S r N b ic Q ⟨env, H.set id (.box cs')⟩) : WP S r N b ic Q ⟨env, H⟩ := by
  refine WP.ghost ?_ h
  intro m I X w n0 a hs hfr
  refine ⟨m, I, .refl m, fun _ hb => hb, hs.retell (e1 := .box cs') hH rfl ?_, hfr⟩
  obtain ⟨e, arr, T, h1, h2, h3, h4, h5⟩ := hs.hok id _ hH
  exact ⟨e, arr, T, h1, h2, h3, h4, hw.rels h5⟩
def zcells : List AV := [.int .i64 0, octs [], octs [], .int .i64 0, octs [], octs [], octs [], ints []]
theorem zweak : Weaks [.int .i64 0, .list true [], .list true [], .int .i64 0, .list true [], .list true [], .list true [], .list true []] zcells :=
  .cons (.refl _) (.cons (.list true []) (.cons (.list true []) (.cons (.refl _) (.cons (.list true []) (.cons (.list true []) (.cons (.list true []) (.cons (.list true []) .nil)))))))
theorem bsl_zero (H : List Entry) : evBslice H 8 1 (.agg [.int .i64 0, .list true [], .list true [], .int .i64 0, .list true [], .list true [], .list true [], .list true []])
    [(0, .agg [.int .i64 0, octs [], octs [], .int .i64 0, octs [], octs [], octs [], ints []])] = some (.own H.length 0 0 1, H ++ [.arr 8 0 [.agg [.int .i64 0, octs [], octs [], .int .i64 0, octs [], octs [], octs [], ints []]]]) := rfl
theorem idbs_zero : (∀ x ∈ [AV.agg [.int .i64 0, octs [], octs [], .int .i64 0, octs [], octs [], octs [], ints []]], ∀ y ∈ x.cells, Idb 0 y) = True := idbs_node .zero
theorem appN_zero {H : List Entry} {id ver : Nat} {l : List Node} (h : H[id]? = some (.arr 8 ver (l.map nodeA))) (hl : l.length + 1 ≤ maxRow) :
    evAppend H 8 160 (.own id ver 0 l.length) [.agg [.int .i64 0, octs [], octs [], .int .i64 0, octs [], octs [], octs [], ints []]] = some (.own id (ver + 1) 0 (l ++ [Node.zero]).length, H.set id (.arr 8 (ver + 1) ((l ++ [Node.zero]).map nodeA))) := appN (n := .zero) h hl

/-! ### Contracts laid into a table -/
noncomputable def Reg.of {c : Nat} {f : IFn} (ht : trFn S c = some f) (ask : List AV → Option Said) (ok : ∀ args r, ask args = some r → SaidOk S c args r) : Reg S := ⟨c, ask, fun a r h => ⟨Callable.of ht, ok a r h⟩⟩
open Classical in
noncomputable def ask0 (r : Said) : List AV → Option Said
  | [] => some r
  | _ => none
open Classical in
noncomputable def ask1 (p : AV → Prop) (r : AV → Said) : List AV → Option Said
  | [a] => if p a then some (r a) else none
  | _ => none
open Classical in
noncomputable def ask2 (p : AV → AV → Prop) (r : AV → AV → Said) : List AV → Option Said
  | [a, b] => if p a b then some (r a b) else none
  | _ => none
open Classical in
noncomputable def ask3 (p : AV → AV → AV → Prop) (r : AV → AV → AV → Said) : List AV → Option Said
  | [a, b, c] => if p a b c then some (r a b c) else none
  | _ => none
open Classical in
noncomputable def ask4 (p : AV → AV → AV → AV → Prop) (r : AV → AV → AV → AV → Said) : List AV → Option Said
  | [a, b, c, d] => if p a b c d then some (r a b c d) else none
  | _ => none
variable {c : Nat} {args : List AV} {x : Said}
theorem ask0_ok {r : Said} (h : SaidOk S c [] r) : ∀ args x, ask0 r args = some x → SaidOk S c args x := by
  intro args x hx
  unfold ask0 at hx
  split at hx
  · cases hx; exact h
  · cases hx
theorem ask1_ok {p : AV → Prop} {r : AV → Said} (h : ∀ a, p a → SaidOk S c [a] (r a)) : ∀ args x, ask1 p r args = some x → SaidOk S c args x := by
  intro args x hx
  unfold ask1 at hx
  split at hx
  · split at hx
    · rename_i hp; cases hx; exact h _ hp
    · cases hx
  · cases hx
theorem ask2_ok {p : AV → AV → Prop} {r : AV → AV → Said} (h : ∀ a b, p a b → SaidOk S c [a, b] (r a b)) : ∀ args x, ask2 p r args = some x → SaidOk S c args x := by
  intro args x hx
  unfold ask2 at hx
  split at hx
  · split at hx
    · rename_i hp; cases hx; exact h _ _ hp
    · cases hx
  · cases hx
theorem ask3_ok {p : AV → AV → AV → Prop} {r : AV → AV → AV → Said} (h : ∀ a b d, p a b d → SaidOk S c [a, b, d] (r a b d)) : ∀ args x, ask3 p r args = some x → SaidOk S c args x := by
  intro args x hx
  unfold ask3 at hx
  split at hx
  · split at hx
    · rename_i hp; cases hx; exact h _ _ _ hp
    · cases hx
  · cases hx
theorem ask4_ok {p : AV → AV → AV → AV → Prop} {r : AV → AV → AV → AV → Said} (h : ∀ a b d e, p a b d e → SaidOk S c [a, b, d, e] (r a b d e)) : ∀ args x, ask4 p r args = some x → SaidOk S c args x := by
  intro args x hx
  unfold ask4 at hx
  split at hx
  · split at hx
    · rename_i hp; cases hx; exact h _ _ _ _ hp
    · cases hx
  · cases hx
theorem ask1_eq {p : AV → Prop} {r : AV → Said} {a : AV} (h : p a) : ask1 p r [a] = some (r a) := if_pos h
theorem ask2_eq {p : AV → AV → Prop} {r : AV → AV → Said} {a b : AV} (h : p a b) : ask2 p r [a, b] = some (r a b) := if_pos h
theorem ask3_eq {p : AV → AV → AV → Prop} {r : AV → AV → AV → Said} {a b c : AV} (h : p a b c) : ask3 p r [a, b, c] = some (r a b c) := if_pos h
theorem ask4_eq {p : AV → AV → AV → AV → Prop} {r : AV → AV → AV → AV → Said} {a b c d : AV} (h : p a b c d) : ask4 p r [a, b, c, d] = some (r a b c d) := if_pos h
theorem ite_cl {α : Type} {p : Prop} {a b : α} {i : Decidable p} {j : Decidable p} : @ite α p i a b = @ite α p j a b := by cases Subsingleton.elim i j; rfl
theorem SaidOk.fn {v : AV} (h : Fun S c args v) : SaidOk S c args (.fn v) := h
theorem SaidOk.own {sz : Nat} {xs : List AV} (h : FunOwn S c args sz xs) (hx : ∀ x ∈ xs, ∀ y ∈ x.cells, Idb 0 y) : SaidOk S c args (.own sz xs) := ⟨h, h.val hx⟩

end Go.Proofs.YtihhinbjhiankaaGreatDoor.Al
