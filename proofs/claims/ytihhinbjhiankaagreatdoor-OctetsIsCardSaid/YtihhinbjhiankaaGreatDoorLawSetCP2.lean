/-
  JOINED: C, D, E1, P
-/
import Derived.Test.YtihhinbjhiankaaGreatDoorLawSetCP1
import Derived.Orders
import Derived.Shelf.Sort.Plain
import Derived.Shelf.Slices.In.SortNone
import Derived.Shelf.Slices.CompactI
import Derived.ProofKit
import Derived.OpenShut
import Derived.ShutString
import Derived.ChangeOld
import Derived.Below
import Derived.Carry
import Derived.SizedLaws
import Derived.Lib.SlicesCompact
set_option linter.unusedSimpArgs false
set_option linter.unusedVariables false
/- STATEMENTS WHOSE ORDER IS LEFT OPEN: whatever order is taken, the same comes of it. -/
namespace Go.Proofs.YtihhinbjhiankaaGreatDoor.Al
open Go
variable {S : Seat} {m m0 : List ME} {I I0 X X0 : Nat → Prop} {w w0 : World} {H : List Entry}

def Opd.rd : Opd → List Nat
  | .t n => [n]
  | _ => []

def Opd.rds (xs : List Opd) : List Nat := xs.flatMap Opd.rd
def Opd.rdo : Option Opd → List Nat
  | some x => x.rd
  | none => []

def IOp.reads : IOp → List Nat
  | .mv x | .box x | .load _ _ x | .nilck x | .isnil _ _ x | .un _ x | .convI _ x | .convS x | .mkiface _ x | .faddr _ x | .field _ _ _ x | .extract x _ | .len x | .lenS x | .clear _ _ x | .tassert _ x => x.rd
  | .pick c a b => c.rd ++ a.rd ++ b.rd
  | .alloc _ | .lenA _ => []
  | .build _ ps => ps.flatMap fun p => p.2.2.rd
  | .bslice _ _ _ ps => ps.flatMap fun p => p.2.rd
  | .store _ x v => x.rd ++ v.rd
  | .bin _ _ x y => x.rd ++ y.rd
  | .mkfunc _ a b => Opd.rds a ++ Opd.rds b
  | .mkslice _ _ _ l c => l.rd ++ c.rd
  | .slice _ x lo hi mx => x.rd ++ Opd.rdo lo ++ Opd.rdo hi ++ Opd.rdo mx
  | .iaddr _ x i | .iaddrA _ _ x i | .idxA _ _ _ x i => x.rd ++ i.rd
  | .min xs | .max xs => Opd.rds xs
  | .append _ _ x y | .copy _ x y => x.rd ++ y.rd
  | .appendZ _ _ _ x n => x.rd ++ n.rd
  | .call f xs => f.rd ++ Opd.rds xs
  | .invoke r _ xs => r.rd ++ Opd.rds xs

theorem ev_congr {env env' : Env} {x : Opd} (h : ∀ t ∈ x.rd, env t = env' t) : x.ev env = x.ev env' := by
  cases x with
  | t n => exact h n (by simp [Opd.rd])
  | _ => rfl

theorem evs_congr {env env' : Env} {xs : List Opd} (h : ∀ t ∈ Opd.rds xs, env t = env' t) : xs.map (Opd.ev env) = xs.map (Opd.ev env') := by
  refine List.map_congr_left fun x hx => ev_congr fun t ht => h t ?_
  exact List.mem_flatMap.2 ⟨x, hx, ht⟩

theorem evo_congr {env env' : Env} {x : Option Opd} (h : ∀ t ∈ Opd.rdo x, env t = env' t) : x.map (Opd.ev env) = x.map (Opd.ev env') := by
  cases x with
  | none => rfl
  | some x => exact congrArg some (ev_congr h)

theorem evalOp_congr {op : IOp} {env env' : Env} (h : ∀ t ∈ op.reads, env t = env' t) : evalOp op env H = evalOp op env' H := by
  cases op <;> simp only [IOp.reads, List.mem_append, or_imp, forall_and] at h <;> simp only [evalOp]
  case pick c a b => rw [ev_congr h.1.1, ev_congr h.1.2, ev_congr h.2]
  case build z ps =>
    rw [show (ps.map fun p => (p.1, p.2.1, p.2.2.ev env)) = ps.map fun p => (p.1, p.2.1, p.2.2.ev env') from
      List.map_congr_left fun p hp => by rw [ev_congr fun t ht => h t (List.mem_flatMap.2 ⟨p, hp, ht⟩)]]
  case bslice e l z ps =>
    rw [show (ps.map fun p => (p.1, p.2.ev env)) = ps.map fun p => (p.1, p.2.ev env') from
      List.map_congr_left fun p hp => by rw [ev_congr fun t ht => h t (List.mem_flatMap.2 ⟨p, hp, ht⟩)]]
  case mkfunc => rw [evs_congr h.1, evs_congr h.2]
  case slice => rw [ev_congr h.1.1.1, evo_congr h.1.1.2, evo_congr h.1.2, evo_congr h.2]
  case min => rw [evs_congr h]
  case max => rw [evs_congr h]
  all_goals first
    | rw [ev_congr h]
    | rw [ev_congr h.1, ev_congr h.2]
    | skip

inductive Does (S : Seat) : IOp → Env → List Entry → AV → List Entry → Prop
  | ev {op : IOp} {env : Env} {H : List Entry} {v : AV} {H' : List Entry} (h : evalOp op env H = some (v, H')) : Does S op env H v H'
  | call {f : Opd} {xs : List Opd} {env : Env} {H : List Entry} {v : AV} {H' : List Entry} {c : Nat} {first captured : List AV} (hf : f.ev env = .func (.f c) first captured) (hcb : Callable S c)
      (h : ACall S c (first ++ xs.map (Opd.ev env) ++ captured) H fun v' H'' => v' = v ∧ H'' = H') : Does S (.call f xs) env H v H'
  | lit {esz len : Nat} {z : AV} {parts : List (Nat × Opd)} {env : Env} {H : List Entry} {sz : Nat} {xs : List AV} (h : evalOp (.bslice esz len z parts) env H = some (.own H.length 0 0 xs.length, H ++ [.arr sz 0 xs]))
      (hx : ∀ x ∈ xs, ∀ y ∈ x.cells, Idb H.length y) : Does S (.bslice esz len z parts) env H (.list false xs) H

theorem SRun.lit {r : Option Nat} {N : Nat} {Q : St → Prop} {o : IOper} {l : List IOper} {env : Env} {sz : Nat} {xs : List AV} (hg : gdec env o.guard = some true) (h : evalOp o.op env H = some (.own H.length 0 0 xs.length, H ++ [.arr sz 0 xs]))
    (hx : ∀ x ∈ xs, ∀ y ∈ x.cells, Idb H.length y) (k : SRun S r N l Q ⟨updo env o.dst (.list false xs), H⟩) : SRun S r N (o :: l) Q ⟨env, H⟩ := by
  intro cops idx hm m0 I0 X0 w0 QM hQ m I X w a hf hs hfr
  cases idx with
  | nil => exact hm.elim
  | cons i is =>
    obtain ⟨⟨c, hc, ht⟩, hrest⟩ := hm
    obtain ⟨p1, p2, p3, p4, p5⟩ := trOper_parts ht
    have hw := guard_sound ht hfr.env hg
    simp only [wpOpsIn, hc, hw, if_true]
    refine ⟨fun f _ => FW_fn r f, ?_⟩
    rw [FW_round, Oper.semAt_eq r _ _ (trOp_noDefer p1)]
    obtain ⟨nx, w', m', vv, hrun, hnx, hrel, hgo⟩ := (evalOp_sound hs hfr.env p1 h).ex
    rw [hrun]
    obtain ⟨I2, hs2, hI2⟩ := freeze1_sound hgo.sim H.length
    have hgl : (H ++ [Entry.arr sz 0 xs])[H.length]? = some (.arr sz 0 xs) := by simp
    have hf1 : freeze1 (H ++ [Entry.arr sz 0 xs]) H.length = H ++ [.frz sz 0 xs] := by
      simp only [freeze1, hgl]; simp
    rw [hf1] at hs2
    have hrel2 : Rel S m' I2 w' (.list false xs) vv := by
      have h1 := derefN_sound hs2 1 (hrel.mono (.refl m') hI2 fun _ _ => rfl)
      have e : derefN (H ++ [Entry.frz sz 0 xs]) 1 (.own H.length 0 0 xs.length) = .list false xs := by
        simp [derefN]
      rwa [e] at h1
    have hml : m.length = H.length := hs.len
    have hs3 : Sim S (m'.take H.length) I2 X w' H := by
      have := hs2.take (n := H.length) fun id e hid he => by
        rw [List.getElem?_append_left hid] at he
        rw [← hml]; exact (hs.hok id e he).entB
      simpa using this
    have hle : MLe m (m'.take H.length) := MLe.take hgo.le (by omega)
    have hrel3 : Rel S (m'.take H.length) I2 w' (.list false xs) vv := hrel2.take (.list false xs hx)
    have hfr' : Fr S (m'.take H.length) I2 X w' w0.heap.size N (updo env o.dst (.list false xs)) (a.put c.dst vv) := by
      rw [p2]; exact (hfr.mono hle hI2 hgo.ext).put p3 hrel3
    have hnext := k cops is hrest m0 I0 X0 w0 QM hQ (m'.take H.length) I2 X w' _ (hf.step hle hI2 (fun _ hb => hb) hgo.ext) hs3 hfr'
    rcases hnx with rfl | ⟨rfl, rfl⟩
    · exact hnext
    · exact hnext

theorem Does.congr {op : IOp} {env env' : Env} {v : AV} {H' : List Entry} (h : Does S op env H v H') (he : ∀ t ∈ op.reads, env t = env' t) : Does S op env' H v H' := by
  cases h with
  | ev h => exact .ev (by rw [← evalOp_congr he]; exact h)
  | call hf hcb h =>
    simp only [IOp.reads, List.mem_append, or_imp, forall_and] at he
    exact .call (by rw [← ev_congr he.1]; exact hf) hcb (by rw [← evs_congr he.2]; exact h)
  | lit h hx => exact .lit (by rw [← evalOp_congr he]; exact h) hx

theorem SRun.does {r : Option Nat} {N : Nat} {Q : St → Prop} {o : IOper} {l : List IOper} {env : Env} {v : AV} {H' : List Entry} (hg : gdec env o.guard = some true) (h : Does S o.op env H v H')
    (k : SRun S r N l Q ⟨updo env o.dst v, H'⟩) : SRun S r N (o :: l) Q ⟨env, H⟩ := by
  generalize hop : o.op = op at h
  cases h with
  | ev h => exact .op hg (by rw [hop]; exact h) k
  | call hf hcb h => exact .call hg hop hf hcb h fun v' H'' ⟨e1, e2⟩ => by subst e1; subst e2; exact k
  | lit h hx => exact .lit hg (by rw [hop]; exact h) hx k

/-! ### The check -/
def closGo : List IOper → List Nat → List Nat
  | [], acc => acc
  | o :: l, acc => closGo l (acc ++ [o.after.foldl (fun s j => s ||| 2 ^ j ||| acc.getD j 0) 0])

def grd : Option (Nat × Bool) → List Nat
  | some (g, _) => [g]
  | none => []

inductive Lab where
  | l
  | h (r : Nat)
  | g (lo hi : Nat)

def chkOne (l : List IOper) (labs : List Lab) (cl : List Nat) (i : Nat) (o : IOper) : Bool :=
  o.after.all (fun j => decide (j < i)) &&
  (o.op.reads ++ grd o.guard).all (fun t => l.zipIdx.all fun q => q.2 == i || q.1.dst != some t || (if q.2 < i then (cl.getD i 0).testBit q.2 else (cl.getD q.2 0).testBit i)) &&
  (match o.dst with
   | none => true
   | some d => l.zipIdx.all fun q => q.2 == i || q.1.dst != some d) &&
  (match labs.getD i .l with
   | .l => true
   | .h r => (List.range i).all fun j => (match labs.getD j .l with
     | .l => true
     | .h _ => (cl.getD i 0).testBit j
     | .g _ hi => decide (r < hi) || (cl.getD i 0).testBit j)
   | .g lo _ => (List.range i).all fun j => (match labs.getD j .l with
     | .h r => decide (lo ≤ r) || (cl.getD i 0).testBit j
     | _ => true))

def drawOk (l : List IOper) (labs : List Lab) : Bool := let cl := closGo l []; l.zipIdx.all fun q => chkOne l labs cl q.2 q.1

structure ChkAt (l : List IOper) (labs : List Lab) (i : Nat) (o : IOper) : Prop where
  aft : ∀ j ∈ o.after, j < i
  rds : ∀ t ∈ o.op.reads ++ grd o.guard, ∀ (j : Nat) (o' : IOper), l[j]? = some o' → o'.dst = some t → j ≠ i → if j < i then ((closGo l []).getD i 0).testBit j = true else ((closGo l []).getD j 0).testBit i = true
  ssa : ∀ d, o.dst = some d → ∀ (j : Nat) (o' : IOper), l[j]? = some o' → o'.dst = some d → j = i
  hh : ∀ r, labs.getD i .l = .h r → ∀ j r', j < i → labs.getD j .l = .h r' → ((closGo l []).getD i 0).testBit j = true
  hg : ∀ r, labs.getD i .l = .h r → ∀ j lo hi, j < i → labs.getD j .l = .g lo hi → hi ≤ r → ((closGo l []).getD i 0).testBit j = true
  gh : ∀ lo hi, labs.getD i .l = .g lo hi → ∀ j r, j < i → labs.getD j .l = .h r → r < lo → ((closGo l []).getD i 0).testBit j = true

theorem drawOk_at {l : List IOper} {labs : List Lab} (h : drawOk l labs = true) {i : Nat} {o : IOper} (ho : l[i]? = some o) : ChkAt l labs i o := by
  have mem : ∀ {j : Nat} {o' : IOper}, l[j]? = some o' → (o', j) ∈ l.zipIdx := fun {j o'} hj => List.mem_zipIdx_iff_getElem?.2 hj
  have h1 := List.all_eq_true.1 h (o, i) (mem ho)
  simp only [chkOne, Bool.and_eq_true, List.all_eq_true, decide_eq_true_eq, Bool.or_eq_true, bne_iff_ne, ne_eq, beq_iff_eq, Bool.not_eq_true'] at h1
  obtain ⟨⟨⟨p1, p2⟩, p3⟩, p4⟩ := h1
  refine ⟨p1, fun t ht j o' hj hd hne => ?_, fun d hd j o' hj hd' => ?_, fun r hl j r' hj hl' => ?_, fun r hl j lo hi hj hl' hle => ?_, fun lo hi hl j r hj hl' hlt => ?_⟩
  · rcases p2 t ht (o', j) (mem hj) with (h2 | h2) | h2
    · exact absurd h2 hne
    · exact absurd hd h2
    · simp only at h2
      split
      · rename_i hlt; rwa [if_pos hlt] at h2
      · rename_i hlt; rwa [if_neg hlt] at h2
  · rw [hd] at p3
    simp only [List.all_eq_true, Bool.or_eq_true, beq_iff_eq, bne_iff_ne, ne_eq] at p3
    rcases p3 (o', j) (mem hj) with h2 | h2
    · exact h2
    · exact absurd hd' h2
  · rw [hl] at p4
    have := List.all_eq_true.1 p4 j (by simpa using hj)
    rw [hl'] at this; exact this
  · rw [hl] at p4
    have := List.all_eq_true.1 p4 j (by simpa using hj)
    rw [hl'] at this
    simp only [Bool.or_eq_true, decide_eq_true_eq] at this
    rcases this with h | h
    · omega
    · exact h
  · rw [hl] at p4
    have := List.all_eq_true.1 p4 j (by simpa using hj)
    rw [hl'] at this
    simp only [Bool.or_eq_true, decide_eq_true_eq] at this
    rcases this with h | h
    · omega
    · exact h

theorem or_bits {f : Nat → Nat} {D : Nat → Prop} : ∀ (js : List Nat) (s : Nat), (∀ t, s.testBit t = true → D t) → (∀ j ∈ js, D j) → (∀ j ∈ js, ∀ t, (f j).testBit t = true → D t) →
    ∀ t, (js.foldl (fun s j => s ||| 2 ^ j ||| f j) s).testBit t = true → D t
  | [], s, hs, _, _, t, h => hs t h
  | j :: js, s, hs, h1, h2, t, h => by
    rw [List.foldl_cons] at h
    refine or_bits js _ (fun t ht => ?_) (fun k hk => h1 k (by simp [hk])) (fun k hk => h2 k (by simp [hk])) t h
    simp only [Nat.testBit_or, Bool.or_eq_true, Nat.testBit_two_pow, decide_eq_true_eq] at ht
    rcases ht with (ht | ht) | ht
    · exact hs t ht
    · subst ht; exact h1 j (by simp)
    · exact h2 j (by simp) t ht

theorem closGo_sound {D : Nat → Prop} : ∀ (l : List IOper) (acc : List Nat), (∀ (i : Nat) (o : IOper), l[i]? = some o → D (acc.length + i) → ∀ j ∈ o.after, D j) →
    (∀ j, D j → ∀ t, (acc.getD j 0).testBit t = true → D t) →
    (∀ j, D j → ∀ t, ((closGo l acc).getD j 0).testBit t = true → D t) ∧ (∀ (i : Nat) (o : IOper), l[i]? = some o → (∀ j ∈ o.after, D j) → ∀ t, ((closGo l acc).getD (acc.length + i) 0).testBit t = true → D t) ∧
    (∀ j, j < acc.length → (closGo l acc).getD j 0 = acc.getD j 0)
  | [], acc, _, h2 => ⟨h2, fun i o h => by simp at h, fun _ _ => rfl⟩
  | o :: l, acc, h1, h2 => by
    have hb : (∀ j ∈ o.after, D j) → ∀ t, (o.after.foldl (fun s j => s ||| 2 ^ j ||| acc.getD j 0) 0).testBit t = true → D t := fun ha =>
      or_bits (f := fun j => acc.getD j 0) o.after 0 (by simp) ha (fun j hj => h2 j (ha j hj))
    have h2' : ∀ j, D j → ∀ t, ((acc ++ [o.after.foldl (fun s j => s ||| 2 ^ j ||| acc.getD j 0) 0]).getD j 0).testBit t = true → D t := by
      intro j hj t ht
      rcases Nat.lt_trichotomy j acc.length with hlt | heq | hgt
      · rw [List.getD_eq_getElem?_getD, List.getElem?_append_left hlt, ← List.getD_eq_getElem?_getD] at ht
        exact h2 j hj t ht
      · subst heq
        rw [List.getD_eq_getElem?_getD, List.getElem?_append_right (Nat.le_refl _), Nat.sub_self] at ht
        exact hb (h1 0 o rfl hj) t ht
      · rw [List.getD_eq_getElem?_getD, List.getElem?_eq_none (by simp; omega)] at ht
        simp at ht
    obtain ⟨r1, r2, r3⟩ := closGo_sound l (acc ++ [o.after.foldl (fun s j => s ||| 2 ^ j ||| acc.getD j 0) 0]) (fun i o' ho' hd => h1 (i + 1) o' ho' (by
      rw [List.length_append, List.length_singleton] at hd; rwa [show acc.length + (i + 1) = acc.length + 1 + i by omega])) h2'
    refine ⟨r1, fun i o' ho' ha t ht => ?_, fun j hj => ?_⟩
    · cases i with
      | zero =>
        cases ho'
        rw [closGo, r3 _ (by simp)] at ht
        rw [List.getD_eq_getElem?_getD, Nat.add_zero, List.getElem?_append_right (Nat.le_refl _), Nat.sub_self] at ht
        exact hb ha t ht
      | succ i =>
        refine r2 i o' (by simpa using ho') ha t ?_
        rw [List.length_append, List.length_singleton, show acc.length + 1 + i = acc.length + (i + 1) by omega]
        exact ht
    · rw [closGo, r3 j (by simp; omega), List.getD_eq_getElem?_getD, List.getElem?_append_left hj, ← List.getD_eq_getElem?_getD]

theorem clos_done {l : List IOper} {D : Nat → Prop} (hD : ∀ (i : Nat) (o : IOper), l[i]? = some o → D i → ∀ j ∈ o.after, D j) {i : Nat} {o : IOper} (ho : l[i]? = some o) (ha : ∀ j ∈ o.after, D j) :
    ∀ t, ((closGo l []).getD i 0).testBit t = true → D t := by
  have h := (closGo_sound (D := D) l [] (fun i o ho hd => hD i o ho (by simpa using hd)) (by simp)).2.1 i o ho ha
  intro t ht
  exact h t (by simpa using ht)

end Go.Proofs.YtihhinbjhiankaaGreatDoor.Al

/- STATEMENTS WHOSE ORDER IS LEFT OPEN: the run. -/
namespace Go.Proofs.YtihhinbjhiankaaGreatDoor.Al
open Go
variable {S : Seat} {m m0 : List ME} {I I0 X X0 : Nat → Prop} {w w0 : World} {H : List Entry}

inductive DRun (S : Seat) (Hs : Nat → List Entry) (K : Nat) : List IOper → List Lab → Env → Nat → List (AV × Option (Bool × Nat)) → Env → Prop
  | nil (env : Env) : DRun S Hs K [] [] env K [] env
  | skip {o : IOper} {l : List IOper} {b : Lab} {labs : List Lab} {env E : Env} {k : Nat} {tr : List (AV × Option (Bool × Nat))} (hg : gdec env o.guard = some false)
      (h : DRun S Hs K l labs (updo env o.dst (.tup [])) k tr E) : DRun S Hs K (o :: l) (b :: labs) env k ((.tup [], none) :: tr) E
  | light {o : IOper} {l : List IOper} {b : Lab} {labs : List Lab} {env E : Env} {k : Nat} {v : AV} {tr : List (AV × Option (Bool × Nat))} (hg : gdec env o.guard = some true)
      (hd : ∀ j, j ≤ K → Does S o.op env (Hs j) v (Hs j)) (h : DRun S Hs K l labs (updo env o.dst v) k tr E) : DRun S Hs K (o :: l) (b :: labs) env k ((v, none) :: tr) E
  | heavy {o : IOper} {l : List IOper} {labs : List Lab} {env E : Env} {k : Nat} {v : AV} {tr : List (AV × Option (Bool × Nat))} (hg : gdec env o.guard = some true)
      (hd : Does S o.op env (Hs k) v (Hs (k + 1))) (h : DRun S Hs K l labs (updo env o.dst v) (k + 1) tr E) : DRun S Hs K (o :: l) (.h k :: labs) env k ((v, some (true, k)) :: tr) E
  | fixed {o : IOper} {l : List IOper} {labs : List Lab} {env E : Env} {k lo hi : Nat} {v : AV} {tr : List (AV × Option (Bool × Nat))} (hg : gdec env o.guard = some true) (h1 : lo ≤ k) (h2 : k ≤ hi)
      (hd : ∀ j, lo ≤ j → j ≤ hi → j ≤ K → Does S o.op env (Hs j) v (Hs j)) (h : DRun S Hs K l labs (updo env o.dst v) k tr E) : DRun S Hs K (o :: l) (.g lo hi :: labs) env k ((v, some (false, k)) :: tr) E

variable {Hs : Nat → List Entry} {K : Nat}

theorem DRun.le {l : List IOper} {labs : List Lab} {env E : Env} {k : Nat} {tr : List (AV × Option (Bool × Nat))} (h : DRun S Hs K l labs env k tr E) : k ≤ K := by
  induction h with
  | nil => exact Nat.le_refl _
  | skip _ _ ih => exact ih
  | light _ _ _ ih => exact ih
  | heavy _ _ _ ih => omega
  | fixed _ _ _ _ _ ih => exact ih

theorem DRun.len {l : List IOper} {labs : List Lab} {env E : Env} {k : Nat} {tr : List (AV × Option (Bool × Nat))} (h : DRun S Hs K l labs env k tr E) : tr.length = l.length := by
  induction h with
  | nil => rfl
  | skip _ _ ih => simp [ih]
  | light _ _ _ ih => simp [ih]
  | heavy _ _ _ ih => simp [ih]
  | fixed _ _ _ _ _ ih => simp [ih]

def tEnv (env : Env) : List IOper → List (AV × Option (Bool × Nat)) → Nat → Env
  | o :: l, t :: tr, i + 1 => tEnv (updo env o.dst t.1) l tr i
  | _, _, _ => env

inductive Step1 (S : Seat) (Hs : Nat → List Entry) (K : Nat) (o : IOper) (env : Env) (b : Lab) : AV → Option (Bool × Nat) → Prop
  | skip (hg : gdec env o.guard = some false) : Step1 S Hs K o env b (.tup []) none
  | light {v : AV} (hg : gdec env o.guard = some true) (hd : ∀ j, j ≤ K → Does S o.op env (Hs j) v (Hs j)) : Step1 S Hs K o env b v none
  | heavy {v : AV} {k : Nat} (hg : gdec env o.guard = some true) (hb : b = .h k) (hk : k < K) (hd : Does S o.op env (Hs k) v (Hs (k + 1))) : Step1 S Hs K o env b v (some (true, k))
  | fixed {v : AV} {k lo hi : Nat} (hg : gdec env o.guard = some true) (hb : b = .g lo hi) (h1 : lo ≤ k) (h2 : k ≤ hi) (hd : ∀ j, lo ≤ j → j ≤ hi → j ≤ K → Does S o.op env (Hs j) v (Hs j)) : Step1 S Hs K o env b v (some (false, k))

theorem DRun.at {l : List IOper} {labs : List Lab} {env E : Env} {k : Nat} {tr : List (AV × Option (Bool × Nat))} (h : DRun S Hs K l labs env k tr E) :
    ∀ {i : Nat} {o : IOper}, l[i]? = some o → ∃ v rk, tr[i]? = some (v, rk) ∧ Step1 S Hs K o (tEnv env l tr i) (labs.getD i .l) v rk := by
  induction h with
  | nil => intro i o h; simp at h
  | skip hg _ ih =>
    intro i o h
    cases i with
    | zero => cases h; exact ⟨_, _, rfl, .skip hg⟩
    | succ i => exact ih (by simpa using h)
  | light hg hd _ ih =>
    intro i o h
    cases i with
    | zero => cases h; exact ⟨_, _, rfl, .light hg hd⟩
    | succ i => exact ih (by simpa using h)
  | heavy hg hd hr ih =>
    intro i o h
    cases i with
    | zero => cases h; exact ⟨_, _, rfl, .heavy hg rfl (by have := hr.le; omega) hd⟩
    | succ i => exact ih (by simpa using h)
  | fixed hg h1 h2 hd hr ih =>
    intro i o h
    cases i with
    | zero => cases h; exact ⟨_, _, rfl, .fixed hg rfl h1 h2 hd⟩
    | succ i => exact ih (by simpa using h)

theorem DRun.final {l : List IOper} {labs : List Lab} {env E : Env} {k : Nat} {tr : List (AV × Option (Bool × Nat))} (h : DRun S Hs K l labs env k tr E) : E = tEnv env l tr l.length := by
  induction h with
  | nil => rfl
  | skip _ _ ih => exact ih
  | light _ _ _ ih => exact ih
  | heavy _ _ _ ih => exact ih
  | fixed _ _ _ _ _ ih => exact ih

theorem DRun.fixK {l : List IOper} {labs : List Lab} {env E : Env} {k : Nat} {tr : List (AV × Option (Bool × Nat))} (h : DRun S Hs K l labs env k tr E) : ∀ {i : Nat} {v : AV} {r : Nat}, tr[i]? = some (v, some (false, r)) → r ≤ K := by
  induction h with
  | nil => intro i v r h; simp at h
  | skip _ _ ih =>
    intro i v r h
    cases i with
    | zero => cases h
    | succ i => exact ih (by simpa using h)
  | light _ _ _ ih =>
    intro i v r h
    cases i with
    | zero => cases h
    | succ i => exact ih (by simpa using h)
  | heavy _ _ _ ih =>
    intro i v r h
    cases i with
    | zero => cases h
    | succ i => exact ih (by simpa using h)
  | fixed _ _ _ _ hr ih =>
    intro i v r h
    cases i with
    | zero => cases h; exact hr.le
    | succ i => exact ih (by simpa using h)

def RankOk (K k : Nat) (tr : List (AV × Option (Bool × Nat))) : Prop :=
  (∀ (i : Nat) (v : AV) (r : Nat), tr[i]? = some (v, some (true, r)) → k ≤ r ∧ r < K ∧ ∀ r', k ≤ r' → r' < r → ∃ i' v', i' < i ∧ tr[i']? = some (v', some (true, r'))) ∧
  (∀ (i j : Nat) (v u : AV) (r : Nat), tr[i]? = some (v, some (true, r)) → tr[j]? = some (u, some (true, r)) → i = j) ∧
  (∀ r, k ≤ r → r < K → ∃ (i : Nat) (v : AV), tr[i]? = some (v, some (true, r))) ∧
  (∀ (i : Nat) (v : AV) (r : Nat), tr[i]? = some (v, some (false, r)) → k ≤ r ∧ ∀ (i' : Nat) (v' : AV) (r' : Nat), tr[i']? = some (v', some (true, r')) → (i' < i ↔ r' < r))

theorem DRun.rank {l : List IOper} {labs : List Lab} {env E : Env} {k : Nat} {tr : List (AV × Option (Bool × Nat))} (h : DRun S Hs K l labs env k tr E) : RankOk K k tr := by
  have mv : ∀ {k : Nat} {t : AV × Option (Bool × Nat)} {tr : List (AV × Option (Bool × Nat))}, t.2 = none ∨ t.2 = some (false, k) → RankOk K k tr → RankOk K k (t :: tr) := by
    rintro k ⟨t1, t2⟩ tr ht ⟨h1, h2, h3, h4⟩
    simp only at ht
    have no : ∀ {v : AV} {r : Nat}, ((t1, t2) :: tr)[0]? = some (v, some (true, r)) → False := by
      intro v r hh
      simp only [List.getElem?_cons_zero, Option.some.injEq, Prod.mk.injEq] at hh
      rcases ht with ht | ht
      · rw [ht] at hh; cases hh.2
      · rw [ht] at hh; cases hh.2
    refine ⟨fun i v r hi => ?_, fun i j v u r hi hj => ?_, fun r hr hk => ?_, fun i v r hi => ?_⟩
    · cases i with
      | zero => exact (no hi).elim
      | succ i =>
        obtain ⟨a1, a2, a3⟩ := h1 i v r (by simpa using hi)
        refine ⟨a1, a2, fun r' hr' hlt => ?_⟩
        obtain ⟨i', v', b1, b2⟩ := a3 r' hr' hlt
        exact ⟨i' + 1, v', by omega, by simpa using b2⟩
    · cases i with
      | zero => exact (no hi).elim
      | succ i =>
        cases j with
        | zero => exact (no hj).elim
        | succ j => rw [h2 i j v u r (by simpa using hi) (by simpa using hj)]
    · obtain ⟨i, v, b⟩ := h3 r hr hk
      exact ⟨i + 1, v, by simpa using b⟩
    · cases i with
      | zero =>
        have hr : r = k := by
          simp only [List.getElem?_cons_zero, Option.some.injEq, Prod.mk.injEq] at hi
          rcases ht with ht | ht
          · rw [ht] at hi; cases hi.2
          · rw [ht] at hi; cases hi.2; rfl
        subst hr
        refine ⟨Nat.le_refl _, fun i' v' r' h' => ?_⟩
        cases i' with
        | zero => exact (no h').elim
        | succ i' => have := (h1 i' v' r' (by simpa using h')).1; omega
      | succ i =>
        obtain ⟨a1, a2⟩ := h4 i v r (by simpa using hi)
        refine ⟨a1, fun i' v' r' h' => ?_⟩
        cases i' with
        | zero => exact (no h').elim
        | succ i' => have := a2 i' v' r' (by simpa using h'); omega
  induction h with
  | nil => exact ⟨fun i v r hi => by simp at hi, fun i j v u r hi => by simp at hi, fun r h1 h2 => by omega, fun i v r hi => by simp at hi⟩
  | skip _ _ ih => exact mv (.inl rfl) ih
  | light _ _ _ ih => exact mv (.inl rfl) ih
  | fixed _ _ _ _ _ ih => exact mv (.inr rfl) ih
  | @heavy o l labs env E k v tr hg hd hr ih =>
    obtain ⟨h1, h2, h3, h4⟩ := ih
    have hkK : k < K := by have := hr.le; omega
    refine ⟨fun i u r hi => ?_, fun i j u u' r hi hj => ?_, fun r hr hk => ?_, fun i u r hi => ?_⟩
    · cases i with
      | zero => cases hi; exact ⟨Nat.le_refl _, hkK, fun r' a b => by omega⟩
      | succ i =>
        obtain ⟨a1, a2, a3⟩ := h1 i u r (by simpa using hi)
        refine ⟨by omega, a2, fun r' hr' hlt => ?_⟩
        by_cases he : r' = k
        · subst he; exact ⟨0, v, by omega, rfl⟩
        · obtain ⟨i', v', b1, b2⟩ := a3 r' (by omega) hlt
          exact ⟨i' + 1, v', by omega, by simpa using b2⟩
    · cases i with
      | zero =>
        cases hi
        cases j with
        | zero => rfl
        | succ j => have := (h1 j u' k (by simpa using hj)).1; omega
      | succ i =>
        cases j with
        | zero => cases hj; have := (h1 i u k (by simpa using hi)).1; omega
        | succ j => rw [h2 i j u u' r (by simpa using hi) (by simpa using hj)]
    · by_cases he : r = k
      · subst he; exact ⟨0, v, rfl⟩
      · obtain ⟨i, u, b⟩ := h3 r (by omega) hk
        exact ⟨i + 1, u, by simpa using b⟩
    · cases i with
      | zero => cases hi
      | succ i =>
        obtain ⟨a1, a2⟩ := h4 i u r (by simpa using hi)
        refine ⟨by omega, fun i' v' r' h' => ?_⟩
        cases i' with
        | zero => cases h'; constructor <;> intro <;> omega
        | succ i' => have := a2 i' v' r' (by simpa using h'); omega

theorem tEnv_get : ∀ {l : List IOper} {tr : List (AV × Option (Bool × Nat))} {env : Env} {n t : Nat}, tr.length = l.length → n ≤ l.length →
    (∀ (j j' : Nat) (o o' : IOper), l[j]? = some o → l[j']? = some o' → o.dst = some t → o'.dst = some t → j = j') →
    (∀ (j : Nat) (o : IOper) (v : AV) (rk : Option (Bool × Nat)), j < n → l[j]? = some o → tr[j]? = some (v, rk) → o.dst = some t → tEnv env l tr n t = v) ∧
    ((∀ (j : Nat) (o : IOper), j < n → l[j]? = some o → o.dst ≠ some t) → tEnv env l tr n t = env t)
  | [], tr, env, n, t, hl, hn, _ => by
    have : n = 0 := by simpa using hn
    subst this
    exact ⟨fun j o v rk hj => by omega, fun _ => by cases tr <;> rfl⟩
  | o :: l, [], env, n, t, hl, hn, _ => by simp at hl
  | o :: l, x :: tr, env, 0, t, hl, hn, _ => ⟨fun j o v rk hj => by omega, fun _ => rfl⟩
  | o :: l, x :: tr, env, n + 1, t, hl, hn, hu => by
    obtain ⟨h1, h2⟩ := tEnv_get (l := l) (tr := tr) (env := updo env o.dst x.1) (n := n) (t := t) (by simpa using hl) (by simpa using hn)
      (fun j j' a b ha hb hda hdb => by have := hu (j + 1) (j' + 1) a b (by simpa using ha) (by simpa using hb) hda hdb; omega)
    refine ⟨fun j o' v rk hj ho' ht hd => ?_, fun hno => ?_⟩
    · cases j with
      | zero =>
        cases ho'
        simp only [List.getElem?_cons_zero, Option.some.injEq] at ht
        subst ht
        show tEnv (updo env o.dst v) l tr n t = v
        rw [h2 (fun j o'' hj ho'' hd'' => by have := hu 0 (j + 1) o o'' rfl (by simpa using ho'') hd hd''; omega)]
        rw [hd]; exact upd_same env t v
      | succ j => exact h1 j o' v rk (by omega) (by simpa using ho') (by simpa using ht) hd
    · show tEnv (updo env o.dst x.1) l tr n t = env t
      rw [h2 (fun j o' hj ho' => hno (j + 1) o' (by omega) (by simpa using ho'))]
      have := hno 0 o (by omega) rfl
      cases hd : o.dst with
      | none => rfl
      | some d =>
        rw [hd] at this
        exact upd_ne env _ (fun e => this (by rw [e]))

theorem gdec_congr {env env' : Env} {g : Option (Nat × Bool)} (h : ∀ t ∈ grd g, env t = env' t) : gdec env g = gdec env' g := by
  cases g with
  | none => rfl
  | some p => simp only [gdec, h p.1 (by simp [grd])]

structure Inv (S : Seat) (K : Nat) (l : List IOper) (tr : List (AV × Option (Bool × Nat))) (env : Env) (listed : Array Bool) (c : Env) (k : Nat) : Prop where
  aft : ∀ (i : Nat) (o : IOper), l[i]? = some o → listed.getD i false = true → ∀ j ∈ o.after, listed.getD j false = true
  got : ∀ (t j : Nat) (o : IOper) (v : AV) (rk : Option (Bool × Nat)), l[j]? = some o → tr[j]? = some (v, rk) → o.dst = some t → listed.getD j false = true → c t = v
  not : ∀ t, (∀ (j : Nat) (o : IOper), l[j]? = some o → o.dst = some t → listed.getD j false = false) → c t = env t
  rank : ∀ (i : Nat) (v : AV) (r : Nat), tr[i]? = some (v, some (true, r)) → (listed.getD i false = true ↔ r < k)
  le : k ≤ K

theorem filter_less {p p' : Nat → Bool} (hle : ∀ x, p' x = true → p x = true) {i : Nat} (h1 : p i = true) (h2 : p' i = false) : ∀ {L : List Nat}, i ∈ L → (L.filter p').length < (L.filter p).length := by
  have le : ∀ L : List Nat, (L.filter p').length ≤ (L.filter p).length := by
    intro L
    induction L with
    | nil => simp
    | cons x L ih =>
      rw [List.filter_cons, List.filter_cons]
      cases hx : p' x with
      | true => rw [if_pos rfl, if_pos (hle x hx)]; simp; exact ih
      | false =>
        rw [if_neg (by simp)]
        split
        · simp; omega
        · exact ih
  intro L
  induction L with
  | nil => intro h; cases h
  | cons x L ih =>
    intro h
    rw [List.filter_cons, List.filter_cons]
    rcases List.mem_cons.1 h with rfl | h
    · rw [if_neg (by simp [h2]), if_pos h1]; simp; have := le L; omega
    · have := ih h
      cases hx : p' x with
      | true => rw [if_pos rfl, if_pos (hle x hx)]; simp; exact this
      | false =>
        rw [if_neg (by simp)]
        split
        · simp; omega
        · exact this

theorem sched_run {r : Option Nat} {N : Nat} {Q : St → Prop} {cops : Array Oper} {l : List IOper} {labs : List Lab} (htr : trOpers S N cops = some l) (hchk : drawOk l labs = true)
    {tr : List (AV × Option (Bool × Nat))} {env E : Env} (hd : DRun S Hs K l labs env 0 tr E) (hq : Q ⟨E, Hs K⟩) :
    ∀ (fuel t : Nat) (listed : Array Bool) (c : Env) (k : Nat), listed.size = cops.size → Inv S K l tr env listed c k → ((List.range cops.size).filter fun i => !listed.getD i false).length ≤ fuel →
      (∀ i ∈ Region.linearise.go .any cops fuel t listed [], i < l.length) ∧ SRun S r N ((Region.linearise.go .any cops fuel t listed []).filterMap (l[·]?)) Q ⟨c, Hs k⟩ := by
  obtain ⟨hlen, hget⟩ := trOpers_get htr
  have huniq : ∀ (t j j' : Nat) (o o' : IOper), l[j]? = some o → l[j']? = some o' → o.dst = some t → o'.dst = some t → j = j' :=
    fun t j j' o o' h1 h2 d1 d2 => ((drawOk_at hchk h1).ssa t d1 j' o' h2 d2).symm
  -- everything is listed
  have hend : ∀ (listed : Array Bool) (c : Env) (k : Nat), Inv S K l tr env listed c k → (∀ i, i < cops.size → listed.getD i false = true) → SRun S r N [] Q ⟨c, Hs k⟩ := by
    intro listed c k hi hall
    refine .nil ?_
    have hk : k = K := by
      obtain ⟨r1, r2, r3, _⟩ := hd.rank
      rcases Nat.lt_trichotomy k K with h | h | h
      · obtain ⟨i, v, hiv⟩ := r3 k (Nat.zero_le _) h
        have hil : i < cops.size := by have := lt_of_get hiv; rw [hd.len] at this; omega
        have := (hi.rank i v k hiv).1 (hall i hil)
        omega
      · exact h
      · have := hi.le; omega
    subst hk
    have hc : c = E := by
      rw [hd.final]
      funext t
      have hT := tEnv_get (l := l) (tr := tr) (env := env) (n := l.length) (t := t) hd.len (Nat.le_refl _) (huniq t)
      by_cases hex : ∃ (j : Nat) (o : IOper), l[j]? = some o ∧ o.dst = some t
      · obtain ⟨j, o, ho, hdst⟩ := hex
        obtain ⟨v, rk, htj, _⟩ := hd.at ho
        rw [hT.1 j o v rk (lt_of_get ho) ho htj hdst]
        exact hi.got t j o v rk ho htj hdst (hall j (by have := lt_of_get ho; omega))
      · rw [hT.2 (fun j o _ ho hdst => hex ⟨j, o, ho, hdst⟩)]
        exact hi.not t (fun j o ho hdst => absurd ⟨j, o, ho, hdst⟩ hex)
    rw [hc]; exact hq
  have hall_of : ∀ (listed : Array Bool), ((List.range cops.size).filter fun i => !listed.getD i false).length = 0 → ∀ i, i < cops.size → listed.getD i false = true := by
    intro listed h0 i hi
    cases hb : listed.getD i false with
    | true => rfl
    | false =>
      have hm : i ∈ (List.range cops.size).filter fun i => !listed.getD i false := List.mem_filter.2 ⟨by simpa using hi, by rw [hb]; rfl⟩
      rw [List.eq_nil_of_length_eq_zero h0] at hm; cases hm
  intro fuel
  induction fuel with
  | zero =>
    intro t listed c k hsz hi hf
    exact ⟨by simp [Region.linearise.go], by simpa [Region.linearise.go] using hend listed c k hi (hall_of listed (by omega))⟩
  | succ fuel ih =>
    intro t listed c k hsz hi hf
    have hready : ∀ i, i ∈ Region.ready .any cops listed ↔ i < cops.size ∧ listed.getD i false = false ∧ ∀ o, l[i]? = some o → ∀ j ∈ o.after, listed.getD j false = true := by
      intro i
      simp only [Region.ready, List.mem_filter, List.mem_range]
      constructor
      · rintro ⟨h1, h2⟩
        obtain ⟨o, ho, hlo⟩ := hget i cops[i] (Array.getElem?_eq_getElem h1)
        simp only [Array.getElem?_eq_getElem h1, Option.map_some, Option.getD_some, Bool.and_eq_true, Bool.not_eq_true', Array.all_eq_true'] at h2
        refine ⟨h1, ?_, fun o' ho' j hj => ?_⟩
        · have h3 := h2.1
          simp only [Array.getD_eq_getD_getElem?] at h3 ⊢
          rw [Array.getElem?_eq_getElem (by omega)] at h3 ⊢
          simpa using h3
        · rw [hlo] at ho'; cases ho'
          obtain ⟨_, _, _, p4, _⟩ := trOper_parts ho
          rw [p4, List.mem_map] at hj
          obtain ⟨e, he, rfl⟩ := hj
          rw [List.mem_filter] at he
          have := h2.2 e (by simpa using he.1)
          simp only [Bool.or_eq_true, Bool.not_eq_true'] at this
          rcases this with this | this
          · rw [he.2] at this; cases this
          · exact this
      · rintro ⟨h1, h2, h3⟩
        obtain ⟨o, ho, hlo⟩ := hget i cops[i] (Array.getElem?_eq_getElem h1)
        refine ⟨h1, ?_⟩
        simp only [Array.getElem?_eq_getElem h1, Option.map_some, Option.getD_some, Bool.and_eq_true, Bool.not_eq_true', Array.all_eq_true']
        refine ⟨?_, fun e he => ?_⟩
        · simp only [Array.getD_eq_getD_getElem?] at h2 ⊢
          rw [Array.getElem?_eq_getElem (by omega)] at h2 ⊢
          simpa using h2
        · simp only [Bool.or_eq_true, Bool.not_eq_true']
          cases hb : Region.binds .any e with
          | false => exact .inl rfl
          | true =>
            right
            obtain ⟨_, _, _, p4, _⟩ := trOper_parts ho
            refine h3 o hlo _ ?_
            rw [p4, List.mem_map]
            exact ⟨e, List.mem_filter.2 ⟨by simpa using he, hb⟩, rfl⟩
    simp only [Region.linearise.go]
    change (∀ i ∈ (match (Region.ready .any cops listed)[t % (Region.ready .any cops listed).length]? with
      | some i => Region.linearise.go .any cops fuel (t / (Region.ready .any cops listed).length) (listed.setIfInBounds i true) [i]
      | none => [].reverse), i < l.length) ∧ SRun S r N ((match (Region.ready .any cops listed)[t % (Region.ready .any cops listed).length]? with
      | some i => Region.linearise.go .any cops fuel (t / (Region.ready .any cops listed).length) (listed.setIfInBounds i true) [i]
      | none => [].reverse).filterMap (l[·]?)) Q ⟨c, Hs k⟩
    cases hpick : (Region.ready .any cops listed)[t % (Region.ready .any cops listed).length]? with
    | none =>
      have hnil : Region.ready .any cops listed = [] := by
        cases hr : Region.ready .any cops listed with
        | nil => rfl
        | cons x xs =>
          rw [hr] at hpick
          have hlt : t % (x :: xs).length < (x :: xs).length := Nat.mod_lt _ (by simp)
          rw [List.getElem?_eq_getElem hlt] at hpick
          cases hpick
      refine ⟨by simp, ?_⟩
      simp only [List.reverse_nil, List.filterMap_nil]
      refine hend listed c k hi ?_
      intro i hil
      cases hb : listed.getD i false with
      | true => rfl
      | false =>
        exfalso
        obtain ⟨i0, ⟨q1, q2⟩, q3⟩ := exists_least (p := fun i => i < cops.size ∧ listed.getD i false = false) ⟨i, hil, hb⟩
        have : i0 ∈ Region.ready .any cops listed := (hready i0).2 ⟨q1, q2, fun o ho j hj => by
          have hj' := (drawOk_at hchk ho).aft j hj
          cases hb' : listed.getD j false with
          | true => rfl
          | false => exact absurd ⟨by omega, hb'⟩ (q3 j hj')⟩
        rw [hnil] at this; cases this
    | some i =>
      simp only
      obtain ⟨hil, hni, hri⟩ := (hready i).1 (List.mem_of_getElem? hpick)
      rw [linearise_go_acc, List.reverse_singleton, List.singleton_append]
      obtain ⟨o, _, ho⟩ := hget i cops[i] (Array.getElem?_eq_getElem hil)
      have hck := drawOk_at hchk ho
      have hcl := clos_done (D := fun j => listed.getD j false = true) hi.aft ho (hri o ho)
      obtain ⟨v, rk, htj, hstep⟩ := hd.at ho
      have hnot : ∀ t, (∀ (j : Nat) (o' : IOper), l[j]? = some o' → o'.dst = some t → listed.getD j false = false) → c t = env t := hi.not
      have hT : ∀ t, _ := fun t => tEnv_get (l := l) (tr := tr) (env := env) (n := i) (t := t) hd.len (Nat.le_of_lt (lt_of_get ho)) (huniq t)
      have hagree : ∀ t ∈ o.op.reads ++ grd o.guard, tEnv env l tr i t = c t := by
        intro t ht
        by_cases hex : ∃ (j : Nat) (o' : IOper), l[j]? = some o' ∧ o'.dst = some t
        · obtain ⟨j, o', ho', hdst⟩ := hex
          have huj : ∀ (j' : Nat) (o'' : IOper), l[j']? = some o'' → o''.dst = some t → j' = j := fun j' o'' h1 h2 => huniq t j' j o'' o' h1 ho' h2 hdst
          rcases Nat.lt_trichotomy j i with hlt | heq | hgt
          · have hb := hck.rds t ht j o' ho' hdst (by omega)
            rw [if_pos hlt] at hb
            obtain ⟨v', rk', htj', _⟩ := hd.at ho'
            rw [(hT t).1 j o' v' rk' hlt ho' htj' hdst]
            exact (hi.got t j o' v' rk' ho' htj' hdst (hcl j hb)).symm
          · subst heq
            rw [(hT t).2 (fun j' o'' hj' h1 h2 => by have := huj j' o'' h1 h2; omega)]
            exact (hnot t (fun j' o'' h1 h2 => by rw [huj j' o'' h1 h2]; exact hni)).symm
          · have hb := hck.rds t ht j o' ho' hdst (by omega)
            rw [if_neg (by omega)] at hb
            have hnj : listed.getD j false = false := by
              cases hbj : listed.getD j false with
              | false => rfl
              | true =>
                have := clos_done (D := fun j => listed.getD j false = true) hi.aft ho' (hi.aft j o' ho' hbj) i hb
                rw [hni] at this; cases this
            rw [(hT t).2 (fun j' o'' hj' h1 h2 => by have := huj j' o'' h1 h2; omega)]
            exact (hnot t (fun j' o'' h1 h2 => by rw [huj j' o'' h1 h2]; exact hnj)).symm
        · rw [(hT t).2 (fun j' o'' _ h1 h2 => hex ⟨j', o'', h1, h2⟩)]
          exact (hnot t (fun j' o'' h1 h2 => absurd ⟨j', o'', h1, h2⟩ hex)).symm
      have hlisted : ∀ j, (listed.setIfInBounds i true).getD j false = if j = i then true else listed.getD j false := by
        intro j
        simp only [Array.getD_eq_getD_getElem?]
        by_cases hj : j = i
        · subst hj; simp [hsz, hil]
        · rw [if_neg hj, Array.getElem?_setIfInBounds_ne (Ne.symm hj)]
      have hinv : ∀ k', (∀ (i' : Nat) (v' : AV) (r : Nat), tr[i']? = some (v', some (true, r)) → ((listed.setIfInBounds i true).getD i' false = true ↔ r < k')) → k' ≤ K → Inv S K l tr env (listed.setIfInBounds i true) (updo c o.dst v) k' := by
        intro k' hrank hle
        refine ⟨fun j o' ho' hj j' hj' => ?_, fun t j o' v' rk' ho' htj' hdst hj => ?_, fun t hno => ?_, hrank, hle⟩
        · rw [hlisted] at hj ⊢
          split
          · rfl
          · by_cases he : j = i
            · subst he; rw [ho] at ho'; cases ho'; exact hri o ho j' hj'
            · rw [if_neg he] at hj; exact hi.aft j o' ho' hj j' hj'
        · by_cases he : j = i
          · subst he
            rw [ho] at ho'; cases ho'
            rw [htj] at htj'; cases htj'
            rw [hdst]; exact upd_same c t v
          · rw [hlisted, if_neg he] at hj
            have hne : o.dst ≠ some t := fun h => he (huniq t j i o' o ho' ho hdst h)
            have : updo c o.dst v t = c t := by
              cases hdo : o.dst with
              | none => rfl
              | some d => rw [hdo] at hne; exact upd_ne c v fun e => hne (by rw [e])
            rw [this]; exact hi.got t j o' v' rk' ho' htj' hdst hj
        · have hne : o.dst ≠ some t := fun h => by have := hno i o ho h; rw [hlisted, if_pos rfl] at this; cases this
          have : updo c o.dst v t = c t := by
            cases hdo : o.dst with
            | none => rfl
            | some d => rw [hdo] at hne; exact upd_ne c v fun e => hne (by rw [e])
          rw [this]
          refine hi.not t fun j o' ho' hdst => ?_
          have := hno j o' ho' hdst
          rw [hlisted] at this
          split at this
          · cases this
          · exact this
      have hcount : ((List.range cops.size).filter fun j => !(listed.setIfInBounds i true).getD j false).length ≤ fuel := by
        have := filter_less (p := fun j => !listed.getD j false) (p' := fun j => !(listed.setIfInBounds i true).getD j false) (fun x hx => by
          rw [hlisted] at hx
          split at hx
          · cases hx
          · exact hx) (i := i) (by rw [hni]; rfl) (by rw [hlisted]; simp) (L := List.range cops.size) (by simpa using hil)
        omega
      have next := fun k' hr hle => ih (t / (Region.ready .any cops listed).length) (listed.setIfInBounds i true) (updo c o.dst v) k' (by simpa using hsz) (hinv k' hr hle) hcount
      have hsame : (∀ r, rk ≠ some (true, r)) → ∀ (i' : Nat) (v' : AV) (r : Nat), tr[i']? = some (v', some (true, r)) → ((listed.setIfInBounds i true).getD i' false = true ↔ r < k) := by
        intro hrk i' v' r htr'
        rw [hlisted, if_neg (by rintro rfl; rw [htj] at htr'; cases htr'; exact hrk _ rfl)]
        exact hi.rank i' v' r htr'
      have hgd : gdec (tEnv env l tr i) o.guard = gdec c o.guard := gdec_congr fun t ht => hagree t (by simp [ht])
      rw [List.filterMap_cons, ho]
      cases hstep with
      | skip hg =>
        obtain ⟨n1, n2⟩ := next k (hsame (fun _ h => by cases h)) hi.le
        exact ⟨fun j hj => (List.mem_cons.1 hj).elim (fun e => e ▸ lt_of_get ho) (n1 j), .skip (by rw [← hgd]; exact hg) n2⟩
      | light hg hdo =>
        obtain ⟨n1, n2⟩ := next k (hsame (fun _ h => by cases h)) hi.le
        exact ⟨fun j hj => (List.mem_cons.1 hj).elim (fun e => e ▸ lt_of_get ho) (n1 j), .does (by rw [← hgd]; exact hg) ((hdo k hi.le).congr fun t ht => hagree t (by simp [ht])) n2⟩
      | @heavy _ ki hg hb hk hdo =>
        obtain ⟨r1, r2, r3, _⟩ := hd.rank
        have hki : ki = k := by
          have hnlt : ¬ ki < k := fun hlt => by have := (hi.rank i v ki htj).2 hlt; rw [hni] at this; cases this
          rcases Nat.lt_or_ge k ki with hlt | hge
          · exfalso
            obtain ⟨i', v', hi', htr'⟩ := (r1 i v ki htj).2.2 k (Nat.zero_le _) hlt
            have hlt' := lt_of_get htr'
            rw [hd.len] at hlt'
            obtain ⟨v2, rk2, h2, hst2⟩ := hd.at (List.getElem?_eq_getElem hlt')
            rw [htr'] at h2; cases h2
            cases hst2 with
            | heavy _ hb' _ _ =>
              have := hcl i' (hck.hh _ hb i' _ hi' hb')
              have := (hi.rank i' v' k htr').1 this
              omega
          · omega
        subst hki
        obtain ⟨n1, n2⟩ := next (ki + 1) (fun i' v' r htr' => by
          rw [hlisted]
          by_cases he : i' = i
          · subst he; rw [htj] at htr'; cases htr'; simp
          · rw [if_neg he, hi.rank i' v' r htr']
            have : r ≠ ki := fun e => he (r2 i' i v' v ki (e ▸ htr') htj)
            omega) hk
        exact ⟨fun j hj => (List.mem_cons.1 hj).elim (fun e => e ▸ lt_of_get ho) (n1 j), .does (by rw [← hgd]; exact hg) (hdo.congr fun t ht => hagree t (by simp [ht])) n2⟩

      | @fixed _ ki lo hi' hg hb hlo hhi hdo =>
        obtain ⟨r1, r2, r3, r4⟩ := hd.rank
        obtain ⟨_, r5⟩ := r4 i v ki htj
        have hk1 : lo ≤ k := by
          rcases Nat.lt_or_ge k lo with hlt | hge
          · exfalso
            rcases Nat.lt_or_ge k K with hkK | hkK
            · obtain ⟨i', v', htr'⟩ := r3 k (Nat.zero_le _) hkK
              have hi'' := (r5 i' v' k htr').2 (by omega)
              have hlt' := lt_of_get htr'
              rw [hd.len] at hlt'
              obtain ⟨v2, rk2, h2, hst2⟩ := hd.at (List.getElem?_eq_getElem hlt')
              rw [htr'] at h2; cases h2
              cases hst2 with
              | heavy _ hb' _ _ =>
                have := hcl i' (hck.gh _ _ hb i' _ hi'' hb' hlt)
                have := (hi.rank i' v' k htr').1 this
                omega
            · have hkl : ki ≤ K := by
                rcases Nat.lt_or_ge K ki with h | h
                · exfalso
                  have hall : ∀ r, r < K → r < ki := fun r hr => by omega
                  have := hd.fixK htj
                  omega
                · exact h
              omega
          · exact hge
        have hk2 : k ≤ hi' := by
          rcases Nat.lt_or_ge hi' k with hgt | hle
          · exfalso
            obtain ⟨i', v', htr'⟩ := r3 hi' (Nat.zero_le _) (by have := hi.le; omega)
            have hli := (hi.rank i' v' hi' htr').2 hgt
            have hge : ¬ i' < i := fun h => by have := (r5 i' v' hi' htr').1 h; omega
            have hne : i' ≠ i := fun e => by rw [e, htj] at htr'; cases htr'
            have hlt' := lt_of_get htr'
            rw [hd.len] at hlt'
            obtain ⟨v2, rk2, h2, hst2⟩ := hd.at (List.getElem?_eq_getElem hlt')
            rw [htr'] at h2; cases h2
            cases hst2 with
            | heavy _ hb' _ _ =>
              have hck' := drawOk_at hchk (List.getElem?_eq_getElem hlt')
              have hcl' := clos_done (D := fun j => listed.getD j false = true) hi.aft (List.getElem?_eq_getElem hlt') (hi.aft i' _ (List.getElem?_eq_getElem hlt') hli)
              have := hcl' i (hck'.hg _ hb' i _ _ (by omega) hb (Nat.le_refl _))
              rw [hni] at this; cases this
          · exact hle
        obtain ⟨n1, n2⟩ := next k (hsame (fun _ h => by cases h)) hi.le
        exact ⟨fun j hj => (List.mem_cons.1 hj).elim (fun e => e ▸ lt_of_get ho) (n1 j), .does (by rw [← hgd]; exact hg) ((hdo k hk1 hk2 hi.le).congr fun t ht => hagree t (by simp [ht])) n2⟩

theorem WP.draw {r : Option Nat} {N b : Nat} {Q : Exit → St → Prop} {l : List IOper} (hmx : S.P.follows .mixedOrders = true) (labs : List Lab) (hchk : drawOk l labs = true) (Hs : Nat → List Entry) (K : Nat) {tr : List (AV × Option (Bool × Nat))} {env E : Env} (hd : DRun S Hs K l labs env 0 tr E)
    (hH : Hs 0 = H) (hq : Q .normal ⟨E, Hs K⟩) : WP S r N b (.region l true) Q ⟨env, H⟩ := by
  subst hH
  intro c hc m0 I0 X0 w0 m I X w a _ hf hs hfr
  cases c <;> simp only [trCode] at hc <;> (try (cases hc; done)) <;> (try ((repeat' split at hc) <;> cases hc; done)) <;> obtain ⟨y, h1, hy⟩ := Option.map_eq_some_iff.1 hc <;> (try (cases hy; done))
  cases hy
  rename_i id ops
  refine wpIn_region_draw fun t => ?_
  simp only [Region.schedule, hmx, Bool.true_or, if_true, Region.linearise]
  have hext : Ext I X w { w with drawn := w.drawn + 1 } := ⟨rfl, rfl, rfl, Nat.le_refl _, fun _ _ => rfl⟩
  obtain ⟨n1, n2⟩ := sched_run (r := r) (N := N) (Q := Q .normal) h1 hchk hd hq ops.size t (Array.replicate ops.size false) env 0 (by simp)
    ⟨fun i o _ h => by simp [Array.getD_eq_getD_getElem?, Array.getElem?_replicate] at h; split at h <;> simp at h, fun t j o v rk _ _ _ h => by simp [Array.getD_eq_getD_getElem?, Array.getElem?_replicate] at h; split at h <;> simp at h, fun _ _ => rfl,
     fun i v r _ => by simp [Array.getD_eq_getD_getElem?, Array.getElem?_replicate]; split <;> simp, Nat.zero_le _⟩ (by
      refine Nat.le_trans (List.length_filter_le _ _) ?_
      simp)
  have hm := match_of h1 _ n1
  exact n2 ops _ hm m0 I0 X0 w0 _ (fun st1 m1 I1 X1 w1 a1 hq hf1 hs1 hfr1 => ⟨st1, m1, I1, X1, hq, trivial, hf1, hs1, hfr1⟩) m I X _ a (hf.step (.refl m) (fun _ hb => hb) (fun _ hb => hb) hext) (hs.heap rfl) (hfr.mono (.refl m) (fun _ hb => hb) hext)

end Go.Proofs.YtihhinbjhiankaaGreatDoor.Al

/- LOOPS OVER FUNCTIONS. -/
namespace Go.Proofs.YtihhinbjhiankaaGreatDoor.Al
open Go
variable {S : Seat} {m m0 : List ME} {I I0 X X0 : Nat → Prop} {w w0 : World} {H : List Entry}

theorem roundIn_FW {r : Option Nat} {n l f : Nat} {P : Program} {tmps : Array Value} {a b : Code} {w : World} {R : Ending → World → Prop} : RoundIn (FW r) n P l f tmps a b w R ↔ RoundIn Fence.wide n P l f tmps a b w R := by
  cases r with
  | none => exact Iff.rfl
  | some l => exact Iff.rfl

def AYield (S : Seat) (id : Nat) (args : List AV) (H : List Entry) (R : AV → List Entry → Prop) : Prop :=
  ∀ (m : List ME) (I X : Nat → Prop) (w : World) (vs : Array Value), Sim S m I X w H → Rels S m I w args vs →
    ∃ (e : ME) (f : Nat) (tmps : Array Value) (ca cb : Code), m[id]? = some e ∧ e.ver = 0 ∧ (Instr.yield e.blk vs).run S.P w = .ok (.round e.blk f tmps ca cb) w ∧
      RoundIn Fence.wide 0 S.P e.blk f tmps ca cb w fun e' w' => ∃ r H' vv m' I', e' = .returned vv ∧ R r H' ∧ Rel S m' I' w' r vv ∧ Sim S m' I' X w' H' ∧ MLe m m' ∧ (∀ b, I b → I' b) ∧ Ext I X w w'

theorem yield_val {id : Nat} {xs ys : List AV} {v : Value} (h : Rel S m I w (.func (.y id) xs ys) v) : ∃ g fs cs, v = .func g fs cs ∧ Rels S m I w xs fs ∧ Rels S m I w ys cs ∧ ∃ e, m[id]? = some e ∧ (e.ver = 0 → g = .yield e.blk) := by
  cases h with
  | func _ _ _ g fs cs hg hf hc h1 h2 => exact ⟨g, fs, cs, rfl, ⟨hf, h1⟩, ⟨hc, h2⟩, hg⟩

theorem SRun.yield {r : Option Nat} {N : Nat} {Q : St → Prop} {o : IOper} {l : List IOper} {env : Env} {f : Opd} {xs : List Opd} {id : Nat} {R : AV → List Entry → Prop} (hg : gdec env o.guard = some true)
    (ho : o.op = .call f xs) (hf : f.ev env = .func (.y id) [] []) (h : AYield S id (xs.map (Opd.ev env)) H R)
    (k : ∀ v H', R v H' → SRun S r N l Q ⟨updo env o.dst v, H'⟩) : SRun S r N (o :: l) Q ⟨env, H⟩ := by
  intro cops idx hm m0 I0 X0 w0 QM hQ m I X w a hfrom hs hfr
  cases idx with
  | nil => exact hm.elim
  | cons i is =>
    obtain ⟨⟨cc, hc, ht⟩, hrest⟩ := hm
    obtain ⟨p1, p2, p3, p4, p5⟩ := trOper_parts ht
    have hw := guard_sound ht hfr.env hg
    simp only [wpOpsIn, hc, hw, if_true]
    refine ⟨fun f _ => FW_fn r f, ?_⟩
    rw [FW_round, Oper.semAt_eq r _ _ (trOp_noDefer p1)]
    rw [ho] at p1
    obtain ⟨dst, oo, ty, pos, aft, grd⟩ := cc
    simp only at p1 p2
    obtain ⟨cl, fo, rfl, hfo, h1, h2⟩ := trOp_call p1
    have hrf := trOpd_sound hfr.env h1
    have hra := trOpds_sound hfr.env h2
    rw [hf] at hrf
    obtain ⟨g, fs, cs, hval, r1, r2, e0, he0, hg0⟩ := yield_val hrf
    have hfs : fs = #[] := Array.eq_empty_of_size_eq_zero r1.1
    subst hfs
    have hargs : Rels S m I w (xs.map (Opd.ev env)) (cl.args.map a.eval) := by
      have e1 : cl.args.map a.eval = (cl.args.toList.map a.eval).toArray := by rw [← Array.toList_map, Array.toArray_toList]
      rw [e1]; exact hra
    obtain ⟨e, f', tmps, ca, cb, k1, k2, k3, k4⟩ := h m I X w _ hs hargs
    rw [he0] at k1; cases k1
    have hge := hg0 k2
    subst hge
    have hrun : (execOp a.eval (⟨dst, .call cl, ty, pos, aft, grd⟩ : Oper)).run S.P w = .ok (.round e0.blk f' tmps ca cb) w := by
      simp only [execOp, resolve, hfo, Deferred.ofValue, hval, Sem.run_bind, Sem.run_pure, Result.andThen_ok, invoke]
      rw [show (#[] : Array Value) ++ cl.args.map a.eval = cl.args.map a.eval by simp]
      exact k3
    rw [hrun]
    refine ⟨(fun hd => by rw [FW_depth] at hd; cases hd), ?_⟩
    rw [roundIn_FW]
    refine k4.mono ?_
    rintro e w' ⟨rv, H', vv, m', I', rfl, hR, hrel, hsim, hle, hI, hext⟩
    have hfr' : Fr S m' I' X w' w0.heap.size N (updo env o.dst rv) (a.put dst vv) := by
      rw [p2]; exact (hfr.mono hle hI hext).put p3 hrel
    exact k rv H' hR cops is hrest m0 I0 X0 w0 QM hQ m' I' X w' _ (hfrom.step hle hI (fun _ hb => hb) hext) hsim hfr'

/-! ### A round -/
def setPs (env : Env) : List Nat → List AV → Env
  | p :: ps, x :: xs => setPs (upd env p x) ps xs
  | _, _ => env

theorem loop_put (hs : Sim S m I X w H) {id : Nat} {L : LoopE} (hH : H[id]? = some (.loop L)) {e : ME} (he : m[id]? = some e) {lp : Loop} (hl : w.heap[e.blk]? = some (.loop lp)) (st' : LSt) :
    Sim S m I X (w.putObj e.blk (.loop { lp with state := st'.state, pending := st'.pend })) (H.set id (.loop { L with st := st' })) ∧ Ext I X w (w.putObj e.blk (.loop { lp with state := st'.state, pending := st'.pend })) := by
  obtain ⟨e1, tmps, fn, h1, h2, h3, h4, h5, h6⟩ := hs.hok id _ hH
  rw [he] at h1; cases h1
  rw [hl] at h6; cases h6
  have hset : m.set id e = m := by
    apply List.ext_getElem?
    intro i
    by_cases hi : i = id
    · subst hi; rw [List.getElem?_set_self (lt_of_get he), he]
    · rw [List.getElem?_set_ne (Ne.symm hi)]
  have hw : ∀ k : Nat, k < w.heap.size → (e.nilrow = false → k ≠ e.blk) → (w.putObj e.blk (.loop { state := st'.state, pending := st'.pend, fn := fn, tmps := tmps, params := L.ps.toArray, assign := L.ca, body := L.cb, defers := L.dfr })).heap[k]? = w.heap[k]? := fun k _ hk => World.putObj_heap_other (hk h3)
  have hI : ∀ b, I b → (w.putObj e.blk (.loop { state := st'.state, pending := st'.pend, fn := fn, tmps := tmps, params := L.ps.toArray, assign := L.ca, body := L.cb, defers := L.dfr })).heap[b]? = w.heap[b]? := fun b hb =>
    hw b (hs.lt b (.inl hb)) (fun _ e1 => (hs.sep id _ e hH rfl he h3).1 (e1 ▸ hb))
  have hsim := hs.write (id := id) (g' := e) (e := .loop { L with st := st' }) hH rfl he (.inl rfl) hw (by rw [World.putObj_size]; exact Nat.le_refl _) (fun _ => .inl ⟨h3, rfl⟩) (by
    rw [hset]
    exact ⟨e, tmps, fn, he, h2, h3, h4, fun j => (h5 j).mono (.refl m) (fun _ hb => hb) hI, World.putObj_heap_same (heap_lt hl)⟩)
  rw [hset] at hsim
  exact ⟨hsim, hs.ext_write hH rfl he hw (by rw [World.putObj_size]; exact Nat.le_refl _) rfl rfl rfl⟩

theorem EnvR.upd {env : Env} {tmps : Array Value} (h : EnvR S m I w env tmps) {p : Nat} (hp : p < tmps.size) {x : AV} {v : Value} (hx : Rel S m I w x v) : EnvR S m I w (upd env p x) (tmps.setIfInBounds p v) := by
  intro j
  simp only [Al.upd]
  by_cases hj : j = p
  · subst hj; rw [if_pos rfl, show (tmps.setIfInBounds j v).getD j undef = v by simp [hp]]; exact hx
  · rw [if_neg hj, show (tmps.setIfInBounds p v).getD j undef = tmps.getD j undef by simp [Ne.symm hj]]; exact h j

theorem setPs_sound : ∀ (ps : List Nat) (xs : List AV) (vs : List Value) {env : Env} {tmps : Array Value} {N : Nat}, tmps.size = N → EnvR S m I w env tmps → (∀ p ∈ ps, p < N) → vs.length = xs.length →
    (∀ (i : Nat) (x : AV), xs[i]? = some x → Rel S m I w x (vs.getD i undef)) →
    ((ps.zip vs).foldl (fun tmps (t, a) => tmps.setIfInBounds t a) tmps).size = N ∧ EnvR S m I w (setPs env ps xs) ((ps.zip vs).foldl (fun tmps (t, a) => tmps.setIfInBounds t a) tmps)
  | [], xs, vs, env, tmps, N, hN, he, _, _, _ => ⟨hN, by simpa [setPs] using he⟩
  | p :: ps, [], vs, env, tmps, N, hN, he, _, hl, _ => by
    have : vs = [] := List.eq_nil_of_length_eq_zero (by simpa using hl)
    subst this
    exact ⟨hN, by simpa [setPs] using he⟩
  | p :: ps, x :: xs, [], env, tmps, N, hN, he, _, hl, _ => by simp at hl
  | p :: ps, x :: xs, v :: vs, env, tmps, N, hN, he, hp, hl, hv => by
    have hx := hv 0 x rfl
    exact setPs_sound ps xs vs (by simpa using hN) (he.upd (by rw [hN]; exact hp p (by simp)) hx) (fun q hq => hp q (by simp [hq])) (by simpa using hl) (fun i y hy => by simpa using hv (i + 1) y (by simpa using hy))

def jumped : Exit → Option Jump
  | .ret => some .ret
  | .exit id => some (.exit id)
  | .goto l => some (.goto l)
  | _ => none

def Round (S : Seat) (N : Nat) (env : Env) (ps : List Nat) (assign body : IC) (id : Nat) (L : LSt → Entry) (z : List AV) (H : List Entry) (R : AV → List Entry → Prop) : Prop :=
  H[id]? = some (L .ready) ∧ z.length = ps.length ∧ ∀ l, WP S (some l) N H.length assign (fun e st => e = .normal ∧ st.H[id]? = some (L .ready) ∧
    WP S (some l) N H.length body (fun e' st' => st'.H[id]? = some (L .busy) ∧ match e' with
      | .normal => R (.bool true) (st'.H.set id (L .ready))
      | e' => ∃ j, jumped e' = some j ∧ R (.bool false) (st'.H.set id (L (.done j)))) ⟨st.env, st.H.set id (L .busy)⟩) ⟨setPs env ps z, H⟩

theorem AYield.of_round {N : Nat} {env : Env} {ps : List Nat} {assign body : IC} {ca cb : Code} {dfr id : Nat} (hca : trCode S N ca = some assign) (hcb : trCode S N cb = some body) (hps : ∀ p ∈ ps, p < N)
    {z : List AV} {R : AV → List Entry → Prop} (h : Round S N env ps assign body id (fun st => .loop ⟨N, env, ps, ca, cb, dfr, st⟩) z H R) : AYield S id z H R := by
  intro m I X w vs hs hv
  obtain ⟨hH, hz, hwp⟩ := h
  obtain ⟨e, tmps, fn, h1, h2, h3, h4, h5, h6⟩ := hs.hok id _ hH
  simp only at h4 h5 h6
  have hsz : vs.size = ps.toArray.size := by rw [hv.1, hz]; simp
  refine ⟨e, fn, _, ca, cb, h1, h2, run_yield h6 hsz, ?_⟩
  rw [← roundIn_FW (r := none)]
  refine roundIn_of_wpIn (F := FW none) trivial ?_
  have hfold : (ps.toArray.zip vs).foldl (fun tmps (t, a) => tmps.setIfInBounds t a) tmps = (ps.zip vs.toList).foldl (fun tmps (t, a) => tmps.setIfInBounds t a) tmps := by
    rw [← Array.foldl_toList]; simp
  obtain ⟨q1, q2⟩ := setPs_sound ps z vs.toList h4 h5 hps (by rw [Array.length_toList]; exact hv.1) (fun i x hx => by rw [List.getD_eq_getElem?_getD, ← getD_list]; exact hv.2 i x hx)
  simp only [hfold]
  have h0 := hwp e.blk ca hca m I X w m I X w { tmps := (ps.zip vs.toList).foldl (fun tmps (t, a) => tmps.setIfInBounds t a) tmps, defers := [] } (by rw [hs.len]; exact Nat.le_refl _) (.refl m I X w) hs ⟨q2, q1, [], rfl, .nil, by simp⟩
  refine wpIn_mono h0 ?_
  rintro e1 a1 w1 ⟨st1, m1, I1, X1, ⟨rfl, hH1, hbody⟩, _, hf1, hs1, hfr1⟩
  -- the record, behind the assignment
  obtain ⟨e', hme, hmle⟩ := hf1.le id e h1
  have hee : e' = e := by
    obtain ⟨e2, t2, f2, g1, g2, _⟩ := hs1.hok id _ hH1
    rw [hme] at g1; cases g1
    rcases hmle with h | h
    · exact h
    · omega
  subst hee
  obtain ⟨e2, tmps2, fn2, g1, g2, g3, g4, g5, g6⟩ := hs1.hok id _ hH1
  rw [hme] at g1; cases g1
  obtain ⟨sb, xb⟩ := loop_put hs1 hH1 hme g6 .busy
  refine ⟨_, run_beginRound g6 rfl, ?_⟩
  have h1' := hbody cb hcb m I X w m1 I1 X1 _ a1 (by rw [hs.len]; exact Nat.le_refl _) (hf1.step (.refl m1) (fun _ hb => hb) (fun _ hb => hb) xb) sb (hfr1.mono (.refl m1) (fun _ hb => hb) xb)
  refine wpIn_mono h1' ?_
  rintro e3 a3 w3 ⟨st3, m3, I3, X3, ⟨hH3, hpost⟩, hcalm, hf3, hs3, hfr3⟩
  obtain ⟨e4, hme3, hmle3⟩ := hf3.le id e' h1
  have hee : e4 = e' := by
    obtain ⟨e2, t2, f2, g1, g2, _⟩ := hs3.hok id _ hH3
    rw [hme3] at g1; cases g1
    rcases hmle3 with h | h
    · exact h
    · omega
  subst hee
  obtain ⟨e5, tmps5, fn5, k1, k2, k3, k4, k5, k6⟩ := hs3.hok id _ hH3
  rw [hme3] at k1; cases k1
  have fin : ∀ (j : Option Jump) (st' : LSt), (match j with | none => st' = .ready | some j => st' = .done j) → R (.bool j.isNone) (st3.H.set id (.loop ⟨N, env, ps, ca, cb, dfr, st'⟩)) →
      ∃ v w', (Instr.endRound e4.blk (j.map Jump.code)).run S.P w3 = .ok v w' ∧ ∃ r H' vv m' I', (Ending.returned v) = .returned vv ∧ R r H' ∧ Rel S m' I' w' r vv ∧ Sim S m' I' X w' H' ∧ MLe m m' ∧ (∀ b, I b → I' b) ∧ Ext I X w w' := by
    intro j st' hj hR
    obtain ⟨se, xe⟩ := loop_put hs3 hH3 hme3 k6 st'
    have hst : st'.state = (if (j.map Jump.code).isNone then .ready else .done) ∧ st'.pend = j.map Jump.code := by
      cases j with
      | none => simp only at hj; subst hj; exact ⟨rfl, rfl⟩
      | some j => simp only at hj; subst hj; exact ⟨rfl, rfl⟩
    refine ⟨_, _, run_endRound _ k6, .bool j.isNone, _, _, m3, I3, rfl, hR, ?_, ?_, hf3.le, hf3.i, ?_⟩
    · cases j <;> exact .bool _
    · rw [← hst.1, ← hst.2]; exact se.less hf3.x
    · rw [← hst.1, ← hst.2]
      exact (hf3.step (.refl m3) (fun _ hb => hb) (fun _ hb => hb) xe).ext
  cases e3 with
  | normal => exact fin none .ready rfl hpost
  | ret =>
    obtain ⟨j, hj, hR⟩ := hpost
    cases hj
    exact fin (some .ret) _ rfl hR
  | exit i =>
    obtain ⟨j, hj, hR⟩ := hpost
    cases hj
    exact fin (some (.exit i)) _ rfl hR
  | goto t =>
    obtain ⟨j, hj, hR⟩ := hpost
    cases hj
    exact fin (some (.goto t)) _ rfl hR
  | panic ch => exact hcalm.elim
  | outgrown => exact hcalm.elim

end Go.Proofs.YtihhinbjhiankaaGreatDoor.Al

/- LOOPS OVER FUNCTIONS: the statement. -/
namespace Go.Proofs.YtihhinbjhiankaaGreatDoor.Al
open Go
variable {S : Seat} {m m0 : List ME} {I I0 X X0 : Nat → Prop} {w w0 : World} {H : List Entry}

def Jump.leave : Jump → Exit
  | .ret => .ret
  | .exit id => .exit id
  | .goto l => .goto l

theorem Sim.more (hs : Sim S m I X w H) {b : Nat} (h1 : b < w.heap.size) (h2 : ¬ I b) (h3 : ¬ Lives m H b) : Sim S m I (fun k => X k ∨ k = b) w H :=
  ⟨hs.len, hs.hok, fun id e g he hl hg hn => ⟨(hs.sep id e g he hl hg hn).1, fun hx => hx.elim (hs.sep id e g he hl hg hn).2 (fun e1 => h3 ⟨id, e, g, he, hl, hg, hn, e1⟩)⟩, hs.inj,
   fun k hk => by
    rcases hk with hk | hk | hk
    · exact hs.lt k (.inl hk)
    · exact hs.lt k (.inr hk)
    · rw [hk]; exact h1,
   fun k hi hx => hx.elim (hs.disj k hi) (fun e1 => h2 (e1 ▸ hi)), hs.gl⟩

theorem loop_end (hs : Sim S m I X w H) {id : Nat} {L : LoopE} (hH : H[id]? = some (.loop L)) {e : ME} (he : m[id]? = some e) (o : Obj) :
    Sim S m I X (w.putObj e.blk o) (H.set id .dead) ∧ Ext I X w (w.putObj e.blk o) := by
  obtain ⟨e1, tmps, fn, h1, h2, h3, h4, h5, h6⟩ := hs.hok id _ hH
  rw [he] at h1; cases h1
  have hset : m.set id e = m := by
    apply List.ext_getElem?
    intro i
    by_cases hi : i = id
    · subst hi; rw [List.getElem?_set_self (lt_of_get he), he]
    · rw [List.getElem?_set_ne (Ne.symm hi)]
  have hw : ∀ k : Nat, k < w.heap.size → (e.nilrow = false → k ≠ e.blk) → (w.putObj e.blk o).heap[k]? = w.heap[k]? := fun k _ hk => World.putObj_heap_other (hk h3)
  have hsim := hs.write (id := id) (g' := e) (e := .dead) hH rfl he (.inl rfl) hw (by rw [World.putObj_size]; exact Nat.le_refl _) (fun _ => .inl ⟨h3, rfl⟩) trivial
  rw [hset] at hsim
  exact ⟨hsim, hs.ext_write hH rfl he hw (by rw [World.putObj_size]; exact Nat.le_refl _) rfl rfl rfl⟩

theorem WP.range {N b : Nat} {Q : Exit → St → Prop} {env : Env} {g : Opd} {ps : List Nat} {assign body : IC} {c : Nat} {first captured : List AV} (hg : g.ev env = .func (.f c) first captured) (hcb : Callable S c)
    (h : ∀ L : LSt → Entry, (∀ z H1 R, Round S N env ps assign body H.length L z H1 R → AYield S H.length z H1 R) →
      ACall S c (first ++ [.func (.y H.length) [] []] ++ captured) (H ++ [L .ready]) (fun _ H' => (H'[H.length]? = some (L .ready) ∧ Q .normal ⟨env, H'.set H.length .dead⟩) ∨
        ∃ j, H'[H.length]? = some (L (.done j)) ∧ Q j.leave ⟨env, H'.set H.length .dead⟩)) : WP S none N b (.rangeFunc g ps assign body) Q ⟨env, H⟩ := by
  intro cc hc m0 I0 X0 w0 m I X w a _ hf hs hfr
  cases cc <;> simp only [trCode] at hc <;> (try (cases hc; done)) <;> (try (obtain ⟨y, _, hy⟩ := Option.map_eq_some_iff.1 hc; cases hy; done)) <;> (try ((repeat' split at hc) <;> cases hc; done))
  rename_i go ps' ca cb
  split at hc
  · rename_i g' a' b' t0 t1 t2
    split at hc
    · rename_i hall
      cases hc
      have hps : ∀ p ∈ ps'.toList, p < N := by
        intro p hp
        have := Array.all_eq_true'.1 hall p (by simpa using hp)
        simpa using this
      have hr := trOpd_sound hfr.env t0
      rw [hg] at hr
      obtain ⟨fs, cs, hval, r1, r2⟩ := func_val hr
      have ha := hfr.env
      refine wpIn_rangeFunc fun fn _ => ?_
      obtain ⟨w1, hw1⟩ : ∃ w1, ((w.alloc (.deferred (some []))).alloc (.loop { state := .ready, pending := none, fn := fn, tmps := a.tmps, params := ps', assign := ca, body := cb, defers := w.heap.size })) = w1 := ⟨_, rfl⟩
      have hcall : ∀ (l : Nat) (w : World), (invoke (.fn (.func (S.fn c)) cs) (fs ++ #[.func (.yield l) #[] #[]])).run S.P w = .ok (.enter (S.fn c) (fs ++ #[.func (.yield l) #[] #[]] ++ cs)) w := fun l w => run_callFunc hcb _
      refine ⟨w.heap.size + 1, [{ target := .collected w.heap.size, args := #[] }], w1, { target := .fn (.func (S.fn c)) cs, args := fs ++ #[.func (.yield (w.heap.size + 1)) #[] #[]] }, w1, S.fn c, fs ++ #[.func (.yield (w.heap.size + 1)) #[] #[]] ++ cs, w1,
        by rw [FW_round, ← hw1]; exact run_enterLoop_outer fn a.tmps ps' ca cb, ?_, fun _ _ => FW_fn _ _, hcall _ _, (fun hd => by rw [FW_depth] at hd; cases hd), ?_⟩
      · have hm : ∀ v : Value, #[Operand.const v].map a.eval = #[v] := fun v => by simp [Act.eval]
        simp only [resolve, hval, Deferred.ofValue, hm]
        rfl
      rw [callsIn_FW]
      have hold : ∀ k : Nat, k < w.heap.size → w1.heap[k]? = w.heap[k]? := by
        intro k hk
        rw [← hw1, heap_alloc_old _ _ (by rw [World.size_alloc]; omega), heap_alloc_old _ _ hk]
      have hd : w1.heap[w.heap.size]? = some (.deferred (some [])) := by
        rw [← hw1, heap_alloc_old _ _ (by rw [World.size_alloc]; omega), heap_alloc_new]
      have hlp : w1.heap[w.heap.size + 1]? = some (.loop { state := .ready, pending := none, fn := fn, tmps := a.tmps, params := ps', assign := ca, body := cb, defers := w.heap.size }) := by
        rw [← hw1, show w.heap.size + 1 = (w.alloc (.deferred (some []))).heap.size by rw [World.size_alloc], heap_alloc_new]
      have hsz1 : w1.heap.size = w.heap.size + 2 := by rw [← hw1, World.size_alloc, World.size_alloc]
      have hle : MLe m (m ++ [⟨0, w.heap.size + 1, 0, 0, false⟩]) := MLe.push _ _
      have hext : Ext I X w w1 := ⟨by rw [← hw1]; rfl, by rw [← hw1]; rfl, by rw [← hw1]; rfl, by omega, fun b hb => hold b (hs.lt b hb)⟩
      have hIw : ∀ b, I b → w1.heap[b]? = w.heap[b]? := fun b hb => hold b (hs.lt b (.inl hb))
      have hmg : (m ++ [(⟨0, w.heap.size + 1, 0, 0, false⟩ : ME)])[H.length]? = some ⟨0, w.heap.size + 1, 0, 0, false⟩ := by
        rw [← hs.len, List.getElem?_append_right (Nat.le_refl _), Nat.sub_self]; rfl
      let L : LSt → Entry := fun st => .loop ⟨N, env, ps'.toList, ca, cb, w.heap.size, st⟩
      have hs1 : Sim S (m ++ [⟨0, w.heap.size + 1, 0, 0, false⟩]) I X w1 (H ++ [L .ready]) := by
        refine hs.push hold (by omega) (fun _ => by simp) ?_
        refine ⟨_, a.tmps, fn, hmg, rfl, rfl, hfr.size, fun j => (ha j).mono hle (fun _ hb => hb) hIw, ?_⟩
        simpa [LSt.state, LSt.pend] using hlp
      have hnl : ¬ Lives (m ++ [⟨0, w.heap.size + 1, 0, 0, false⟩]) (H ++ [L .ready]) w.heap.size := by
        rintro ⟨id, e, g1, he, hl, hg1, hn, hbk⟩
        rcases getElem?_push_cases he with ⟨he, hlt⟩ | ⟨rfl, rfl⟩
        · rw [List.getElem?_append_left (by rw [hs.len]; exact hlt)] at hg1
          have := hs.blk_lt he hl hg1 hn
          omega
        · rw [hmg] at hg1; cases hg1
          simp at hbk
      have hs2 := hs1.more (b := w.heap.size) (by omega) (fun hi => by have := hs.lt _ (.inl hi); omega) hnl
      have hargs : Rels S (m ++ [⟨0, w.heap.size + 1, 0, 0, false⟩]) I w1 (first ++ [.func (.y H.length) [] []] ++ captured) (fs ++ #[.func (.yield (w.heap.size + 1)) #[] #[]] ++ cs) := by
        refine ((r1.mono hle (fun _ hb => hb) hIw).append ⟨rfl, fun i x hx => ?_⟩).append (r2.mono hle (fun _ hb => hb) hIw)
        cases i with
        | zero => cases hx; exact .func _ _ _ _ _ _ ⟨_, hmg, fun _ => rfl⟩ rfl rfl (by simp) (by simp)
        | succ i => simp at hx
      have hyield : ∀ z H1 R, Round S N env ps'.toList assign body H.length L z H1 R → AYield S H.length z H1 R := fun z H1 R hR => AYield.of_round t1 t2 hps hR
      refine (h L hyield _ I _ w1 _ hs2 hargs).mono ?_
      rintro e w3 ⟨rv, H', vv, m', I', rfl, hR, hrel, hsim, hle3, hI3, hext3⟩
      obtain ⟨rs, hdf, hnd, hmk⟩ := hfr.marks
      have hfr3 : ∀ w4 : World, Ext I' (fun k => X k ∨ k = w.heap.size) w3 w4 → Fr S m' I' (fun k => X k ∨ k = w.heap.size) w4 w0.heap.size N env { a with defers := [{ target := .collected w.heap.size, args := #[] }] ++ a.defers } := by
        intro w4 hx4
        refine ⟨?_, hfr.size, w.heap.size :: rs, by rw [hdf]; rfl, List.nodup_cons.2 ⟨fun hm => by have := heap_lt (hmk _ hm).2.2; omega, hnd⟩, fun r hr => ?_⟩
        · have := (EnvR.mono (S := S) ha (hle.trans hle3) hI3 (fun b hb => by rw [hext3.keep b (.inl hb)]; exact hIw b hb))
          exact this.mono (.refl m') (fun _ hb => hb) (fun b hb => hx4.keep b (.inl hb))
        · have hXr : X r ∨ r = w.heap.size := by
            rcases List.mem_cons.1 hr with rfl | hr
            · exact .inr rfl
            · exact .inl (hmk r hr).1
          refine ⟨hXr, ?_, ?_⟩
          · rcases List.mem_cons.1 hr with rfl | hr
            · exact hf.ext.size
            · exact (hmk r hr).2.1
          · rw [hx4.keep r (.inr hXr), hext3.keep r (.inr hXr)]
            rcases List.mem_cons.1 hr with rfl | hr
            · exact hd
            · rw [hold r (heap_lt (hmk r hr).2.2)]; exact (hmk r hr).2.2
      have hentry : ∀ st : LSt, H'[H.length]? = some (L st) → ∃ lp : Loop, m'[H.length]? = some ⟨0, w.heap.size + 1, 0, 0, false⟩ ∧ w3.heap[w.heap.size + 1]? = some (.loop lp) ∧ lp.state = st.state ∧ lp.pending = st.pend := by
        intro st hst
        obtain ⟨e', hme, hmle⟩ := hle3 _ _ hmg
        obtain ⟨e2, t2, f2, g1, g2, g3, g4, g5, g6⟩ := hsim.hok _ _ hst
        rw [hme] at g1; cases g1
        rcases hmle with h1 | h1
        · subst h1
          exact ⟨_, hme, g6, rfl, rfl⟩
        · simp at h1; omega
      have hfrom : From m0 I0 X0 w0 m' I' (fun k => X k ∨ k = w.heap.size) w3 := by
        have hfr1 : From m0 I0 X0 w0 (m ++ [⟨0, w.heap.size + 1, 0, 0, false⟩]) I (fun k => X k ∨ k = w.heap.size) w1 := hf.step hle (fun _ hb => hb) (fun _ hb => .inl hb) hext
        exact hfr1.step hle3 hI3 (fun _ hb => hb) hext3
      rcases hR with ⟨hst, hQ⟩ | ⟨j, hst, hQ⟩
      · obtain ⟨lp, hme, hl3, hstt, hpd⟩ := hentry _ hst
        obtain ⟨hs4, hx4⟩ := loop_end hsim hst hme (.loop { lp with state := .exhausted })
        refine ⟨none, _, (run_endLoop (P := S.P) hl3 (by rw [hstt]; exact fun h => by cases h)).trans (congrArg (fun x => Result.ok x _) hpd), ?_⟩
        exact ⟨_, m', I', _, hQ, trivial, hfrom.step (.refl m') (fun _ hb => hb) (fun _ hb => hb) hx4, hs4, hfr3 _ hx4⟩
      · obtain ⟨lp, hme, hl3, hstt, hpd⟩ := hentry _ hst
        obtain ⟨hs4, hx4⟩ := loop_end hsim hst hme (.loop { lp with state := .exhausted })
        refine ⟨some j.code, _, (run_endLoop (P := S.P) hl3 (by rw [hstt]; exact fun h => by cases h)).trans (congrArg (fun x => Result.ok x _) hpd), ?_⟩
        have hpost : Post S m0 I0 X0 w0 N Q j.leave { a with defers := [{ target := .collected w.heap.size, args := #[] }] ++ a.defers } (w3.putObj (w.heap.size + 1) (.loop { lp with state := .exhausted })) :=
          ⟨_, m', I', _, hQ, by cases j <;> trivial, hfrom.step (.refl m') (fun _ hb => hb) (fun _ hb => hb) hx4, hs4, hfr3 _ hx4⟩
        cases j with
        | ret => exact wpIn_ret hpost
        | exit id => exact wpIn_exit hpost
        | goto l => exact wpIn_goto hpost
    · cases hc
  · cases hc

end Go.Proofs.YtihhinbjhiankaaGreatDoor.Al

/- CALLS BY AN INTERFACE. -/
namespace Go.Proofs.YtihhinbjhiankaaGreatDoor.Al
open Go
variable {S : Seat} {m m0 : List ME} {I I0 X X0 : Nat → Prop} {w w0 : World} {H : List Entry}

def MethP (S : Seat) (t : Nat) (name : String) (c : Nat) : Prop := ∀ v w, (method (S.P.types.size + Made.depth) (S.ty t) v name).run S.P w = .ok (S.fn c, v) w
def MethV (S : Seat) (t : Nat) (name : String) (c : Nat) (agg : Bool) (n : Nat) : Prop := ∃ e, TyOk S.P e agg n ∧
  ∀ a w x, (Instr.loadAt e (.pointer (some a))).run S.P w = .ok x w → (method (S.P.types.size + Made.depth) (S.ty t) (.pointer (some a)) name).run S.P w = .ok (S.fn c, x) w
def Meth (S : Seat) (t : Nat) (name : String) (c : Nat) (H : List Entry) (v rv : AV) : Prop :=
  (MethP S t name c ∧ rv = v) ∨ ∃ agg n, MethV S t name c agg n ∧ evLoad H agg n v = some rv

theorem meth_sound (hs : Sim S m I X w H) {t : Nat} {name : String} {c : Nat} {v rv : AV} {vv : Value} (h : Meth S t name c H v rv) (hv : Rel S m I w v vv) :
    ∃ rvv, (method (S.P.types.size + Made.depth) (S.ty t) vv name).run S.P w = .ok (S.fn c, rvv) w ∧ Rel S m I w rv rvv := by
  rcases h with ⟨h, rfl⟩ | ⟨agg, n, ⟨e, hty, h⟩, hl⟩
  · exact ⟨vv, h vv w, hv⟩
  · obtain ⟨x, hx, hr⟩ := load_run hs hv hty hl
    have : ∃ a, vv = .pointer (some a) := by
      unfold evLoad at hl
      split at hl
      · rename_i cs off hw
        obtain ⟨b, o, rfl, _⟩ := window_sound hs hv hw
        exact ⟨_, rfl⟩
      · cases hl
    obtain ⟨a, rfl⟩ := this
    exact ⟨x, h a w x hx, hr⟩

def Invoked (S : Seat) (recv : AV) (name : String) (args : List AV) (H : List Entry) (K : AV → List Entry → Prop) : Prop :=
  ∃ t v c R rv, recv = .iface t v ∧ Callable S c ∧ Meth S t name c H v rv ∧ ACall S c (rv :: args) H R ∧ ∀ v H', R v H' → K v H'

theorem trCall_invoke {cl : Go.Call} {f : Opd} {nm : String} {xs : List Opd} (h : trCall S cl = some (.invoke f nm xs)) : ∃ fo, cl.callee = .invoke fo nm ∧ trOpd S fo = some f ∧ trOpds S cl.args.toList = some xs := by
  unfold trCall at h
  split at h
  · exfalso
    unfold trBuiltin at h
    repeat' split at h
    all_goals first
      | (cases h; done)
      | (obtain ⟨y, _, hy⟩ := Option.map_eq_some_iff.1 h; cases hy; done)
      | skip
  · split at h
    · cases h
    · cases h
  · rename_i fo n hfo
    split at h
    · rename_i f' xs' h1 h2
      cases h
      exact ⟨fo, hfo, h1, h2⟩
    · cases h

theorem trOp_invoke {op : Go.Op} {f : Opd} {nm : String} {xs : List Opd} (h : trOp S op = some (.invoke f nm xs)) : ∃ cl fo, op = .call cl ∧ cl.callee = .invoke fo nm ∧ trOpd S fo = some f ∧ trOpds S cl.args.toList = some xs := by
  cases op
  case call cl =>
    obtain ⟨fo, h1, h2, h3⟩ := trCall_invoke h
    exact ⟨cl, fo, rfl, h1, h2, h3⟩
  all_goals
    exfalso
    simp only [trOp, trBin, trConv] at h
    (try (repeat' split at h)) <;> first
      | (cases h; done)
      | (obtain ⟨y, _, hy⟩ := Option.map_eq_some_iff.1 h; cases hy; done)
      | (rename_i hq; cases hq; done)

theorem iface_val {t : Nat} {x : AV} {v : Value} (h : Rel S m I w (.iface t x) v) : ∃ u, v = .iface (S.ty t) u ∧ Rel S m I w x u := by
  cases h with
  | iface _ _ u h => exact ⟨u, rfl, h⟩

theorem SRun.invoke {r : Option Nat} {N : Nat} {Q : St → Prop} {o : IOper} {l : List IOper} {env : Env} {f : Opd} {nm : String} {xs : List Opd} (hg : gdec env o.guard = some true)
    (ho : o.op = .invoke f nm xs) (h : Invoked S (f.ev env) nm (xs.map (Opd.ev env)) H fun v H' => SRun S r N l Q ⟨updo env o.dst v, H'⟩) : SRun S r N (o :: l) Q ⟨env, H⟩ := by
  obtain ⟨t, v0, c, R, rv0, hf, hcb, hmeth, h, k⟩ := h
  intro cops idx hm m0 I0 X0 w0 QM hQ m I X w a hfrom hs hfr
  cases idx with
  | nil => exact hm.elim
  | cons i is =>
    obtain ⟨⟨cc, hc, ht⟩, hrest⟩ := hm
    obtain ⟨p1, p2, p3, p4, p5⟩ := trOper_parts ht
    have hw := guard_sound ht hfr.env hg
    simp only [wpOpsIn, hc, hw, if_true]
    refine ⟨fun f _ => FW_fn r f, ?_⟩
    rw [FW_round, Oper.semAt_eq r _ _ (trOp_noDefer p1)]
    rw [ho] at p1
    obtain ⟨dst, oo, ty, pos, aft, grd⟩ := cc
    simp only at p1 p2
    obtain ⟨cl, fo, rfl, hfo, h1, h2⟩ := trOp_invoke p1
    have hrf := trOpd_sound hfr.env h1
    have hra := trOpds_sound hfr.env h2
    rw [hf] at hrf
    obtain ⟨u, hval, hu⟩ := iface_val hrf
    obtain ⟨rvv, hmrun, hrv⟩ := meth_sound hs hmeth hu
    have hrun : (execOp a.eval (⟨dst, .call cl, ty, pos, aft, grd⟩ : Oper)).run S.P w = .ok (.enter (S.fn c) (#[rvv] ++ cl.args.map a.eval)) w := by
      have e1 : ∀ (v : Value) (ys : Array Value), (#[v] ++ ys)[0]? = some v := fun v ys => by rw [Array.getElem?_append_left (by simp)]; rfl
      have e2 : ∀ (v : Value) (ys : Array Value), (#[v] ++ ys).extract 1 (#[v] ++ ys).size = ys := fun v ys => by
        apply Array.ext'
        simp
      simp only [execOp, resolve, hfo, Sem.run_bind, Sem.run_pure, Result.andThen_ok, Go.invoke, hval, e1, e2, callMethod, run_program, hmrun]
      exact run_callFunc hcb _
    rw [hrun]
    refine ⟨(fun hd => by rw [FW_depth] at hd; cases hd), ?_⟩
    rw [callsIn_FW]
    have hargs : Rels S m I w (rv0 :: xs.map (Opd.ev env)) (#[rvv] ++ cl.args.map a.eval) := by
      have r1 : Rels S m I w [rv0] #[rvv] := ⟨rfl, fun i x hx => by
        cases i with
        | zero => simp at hx; subst hx; exact hrv
        | succ i => simp at hx⟩
      refine r1.append (xs := [rv0]) ?_
      have e1 : cl.args.map a.eval = (cl.args.toList.map a.eval).toArray := by rw [← Array.toList_map, Array.toArray_toList]
      rw [e1]; exact hra
    refine (h m I X w _ hs hargs).mono ?_
    rintro e w' ⟨rv, H', vv, m', I', rfl, hR, hrel, hsim, hle, hI, hext⟩
    have hfr' : Fr S m' I' X w' w0.heap.size N (updo env o.dst rv) (a.put dst vv) := by
      rw [p2]; exact (hfr.mono hle hI hext).put p3 hrel
    exact k rv H' hR cops is hrest m0 I0 X0 w0 QM hQ m' I' X w' _ (hfrom.step hle hI (fun _ hb => hb) hext) hsim hfr'

end Go.Proofs.YtihhinbjhiankaaGreatDoor.Al

/- GOING THROUGH CODE BY CALCULATION: what must hold for the code to end as asked. -/
namespace Go.Proofs.YtihhinbjhiankaaGreatDoor.Al
open Go
variable {S : Seat} {m m0 : List ME} {I I0 X X0 : Nat → Prop} {w w0 : World} {H : List Entry}

def Callee (S : Seat) (f : AV) (args : List AV) (H : List Entry) (K : AV → List Entry → Prop) : Prop :=
  (∃ c first captured R, f = .func (.f c) first captured ∧ Callable S c ∧ ACall S c (first ++ args ++ captured) H R ∧ ∀ v H', R v H' → K v H') ∨
  (∃ id R, f = .func (.y id) [] [] ∧ AYield S id args H R ∧ ∀ v H', R v H' → K v H')

theorem Callee.fn {c : Nat} {first captured args : List AV} {R K : AV → List Entry → Prop} (hc : Callable S c) (h : ACall S c (first ++ args ++ captured) H R) (k : ∀ v H', R v H' → K v H') :
    Callee S (.func (.f c) first captured) args H K := .inl ⟨c, first, captured, R, rfl, hc, h, k⟩

theorem Callee.plain {c : Nat} {args : List AV} {R K : AV → List Entry → Prop} (hc : Callable S c) (h : ACall S c args H R) (k : ∀ v H', R v H' → K v H') :
    Callee S (.func (.f c) [] []) args H K := .inl ⟨c, [], [], R, rfl, hc, by simpa using h, k⟩

theorem Callee.yld {id : Nat} {args : List AV} {R K : AV → List Entry → Prop} (h : AYield S id args H R) (k : ∀ v H', R v H' → K v H') :
    Callee S (.func (.y id) [] []) args H K := .inr ⟨id, R, rfl, h, k⟩

def IOp.isCall : IOp → Bool
  | .call _ _ => true
  | .invoke _ _ _ => true
  | _ => false

inductive Said where
  | fn (v : AV)
  | own (sz : Nat) (xs : List AV)
def SaidOk (S : Seat) (c : Nat) (args : List AV) : Said → Prop
  | .fn v => Fun S c args v
  | .own sz xs => FunOwn S c args sz xs ∧ Fun S c args (.list false xs)
structure Reg (S : Seat) where
  c : Nat
  ask : List AV → Option Said
  ok : ∀ args r, ask args = some r → Callable S c ∧ SaidOk S c args r
def tab {S : Seat} : List (Reg S) → Nat → List AV → Option Said
  | [], _, _ => none
  | R :: T, c, args => if R.c = c then R.ask args else tab T c args
theorem tab_nil {c : Nat} {args : List AV} : tab (S := S) [] c args = none := rfl
theorem tab_cons {R : Reg S} {T : List (Reg S)} {c : Nat} {args : List AV} : tab (R :: T) c args = if R.c = c then R.ask args else tab T c args := rfl
theorem tab_ok : ∀ {T : List (Reg S)} {c : Nat} {args : List AV} {r : Said}, tab T c args = some r → Callable S c ∧ SaidOk S c args r
  | [], _, _, _, h => by cases h
  | R :: T, c, args, r, h => by
    rw [tab_cons] at h
    split at h
    · rename_i e; subst e; exact R.ok args r h
    · exact tab_ok h
def lendA (S : Seat) (a : Option Said) (f : AV) (xs : List AV) (H : List Entry) (K : AV → List Entry → Prop) : Prop := match a with
  | some (.fn v) => Plain v ∧ K v H
  | some (.own sz ys) => (∀ x ∈ ys, ∀ y ∈ x.cells, Plain y) ∧ K (.own H.length 0 0 ys.length) (H ++ [.arr sz 0 ys])
  | none => Callee S f xs H K
def lendW (S : Seat) (T : List (Reg S)) (c : Nat) (args : List AV) (f : AV) (xs : List AV) (H : List Entry) (K : AV → List Entry → Prop) : Prop :=
  lendA S (tab T c (args.map (canon H 2))) f xs H K
def ansW (S : Seat) (T : List (Reg S)) (c : Nat) (args : List AV) (a : Option Said) (f : AV) (xs : List AV) (H : List Entry) (K : AV → List Entry → Prop) : Prop := match a with
  | some (.fn v) => K v H
  | some (.own sz ys) => K (.own H.length 0 0 ys.length) (H ++ [.arr sz 0 ys])
  | none => lendW S T c args f xs H K
section
variable {T : List (Reg S)} {c : Nat} {args : List AV}
theorem ansW_fn {v f : AV} {xs : List AV} {K : AV → List Entry → Prop} : ansW S T c args (some (.fn v)) f xs H K = K v H := rfl
theorem ansW_own {sz : Nat} {ys : List AV} {f : AV} {xs : List AV} {K : AV → List Entry → Prop} : ansW S T c args (some (.own sz ys)) f xs H K = K (.own H.length 0 0 ys.length) (H ++ [.arr sz 0 ys]) := rfl
theorem ansW_none {f : AV} {xs : List AV} {K : AV → List Entry → Prop} : ansW S T c args none f xs H K = lendA S (tab T c (args.map (canon H 2))) f xs H K := rfl
theorem lendA_own {sz : Nat} {ys : List AV} {f : AV} {xs : List AV} {K : AV → List Entry → Prop} : lendA S (some (.own sz ys)) f xs H K = ((∀ x ∈ ys, ∀ y ∈ x.cells, Plain y) ∧ K (.own H.length 0 0 ys.length) (H ++ [.arr sz 0 ys])) := rfl
theorem lendA_none {f : AV} {xs : List AV} {K : AV → List Entry → Prop} : lendA S none f xs H K = Callee S f xs H K := rfl
end
def CalleeT (S : Seat) (T : List (Reg S)) (f : AV) (xs : List AV) (H : List Entry) (K : AV → List Entry → Prop) : Prop := match f with
  | .func (.f c) first cap => ansW S T c (first ++ xs ++ cap) (tab T c (first ++ xs ++ cap)) (.func (.f c) first cap) xs H K
  | f => Callee S f xs H K
theorem CalleeT.sound {T : List (Reg S)} {f : AV} {xs : List AV} {K : AV → List Entry → Prop} (h : CalleeT S T f xs H K) : Callee S f xs H K := by
  unfold CalleeT at h
  split at h
  · rename_i c first cap
    unfold ansW at h
    split at h
    · rename_i v hv
      obtain ⟨hc, ha⟩ := tab_ok hv
      exact .fn hc (ha H) (by rintro _ _ ⟨rfl, rfl⟩; exact h)
    · rename_i sz ys hv
      obtain ⟨hc, ha⟩ := tab_ok hv
      exact .fn hc (ha.1 H) (by rintro _ _ ⟨rfl, rfl⟩; exact h)
    · unfold lendW lendA at h
      split at h
      · rename_i v hv
        obtain ⟨hc, ha⟩ := tab_ok hv
        exact .fn hc (ACall.lend 2 ha h.1) (by rintro _ _ ⟨rfl, rfl⟩; exact h.2)
      · rename_i sz ys hv
        obtain ⟨hc, ha⟩ := tab_ok hv
        exact .fn hc (ACall.lendOwn 2 ha.1 h.1) (by rintro _ _ ⟨rfl, rfl⟩; exact h.2)
      · exact h
  · exact h
variable {T : List (Reg S)}
def runW (S : Seat) (T : List (Reg S)) : List IOper → (St → Prop) → St → Prop
  | [], Q, st => Q st
  | ⟨d, op, g, _⟩ :: l, Q, st => match gdec st.env g with
    | some true => (match op with
      | .call f xs => CalleeT S T (f.ev st.env) (xs.map (Opd.ev st.env)) st.H fun v H' => runW S T l Q ⟨updo st.env d v, H'⟩
      | .invoke f nm xs => Invoked S (f.ev st.env) nm (xs.map (Opd.ev st.env)) st.H fun v H' => runW S T l Q ⟨updo st.env d v, H'⟩
      | op => (match evalOp op st.env st.H with
        | some (v, H') => runW S T l Q ⟨updo st.env d v, H'⟩
        | none => False))
    | some false => runW S T l Q ⟨updo st.env d (.tup []), st.H⟩
    | none => False

theorem runW_sound {r : Option Nat} {N : Nat} : ∀ {l : List IOper} {Q : St → Prop} {st : St}, runW S T l Q st → SRun S r N l Q st
  | [], Q, st, h => .nil (by simpa [runW] using h)
  | ⟨d, op, g, aft⟩ :: l, Q, ⟨env, H⟩, h => by
    simp only [runW] at h
    split at h
    · rename_i hg
      split at h
      · rename_i f xs
        rcases h.sound with ⟨c, first, captured, R, h1, h2, h3, h4⟩ | ⟨id, R, h1, h3, h4⟩
        · exact .call (o := ⟨d, .call f xs, g, aft⟩) hg rfl h1 h2 h3 fun v H' hR => runW_sound (h4 v H' hR)
        · exact .yield (o := ⟨d, .call f xs, g, aft⟩) hg rfl h1 h3 fun v H' hR => runW_sound (h4 v H' hR)
      · rename_i f nm xs
        obtain ⟨t, v, c, R, rv, h1, h2, h3, h4, h5⟩ := h
        exact .invoke (o := ⟨d, .invoke f nm xs, g, aft⟩) hg rfl ⟨t, v, c, R, rv, h1, h2, h3, h4, fun v H' hR => runW_sound (h5 v H' hR)⟩
      · split at h
        · rename_i v H' he
          exact .op (o := ⟨d, op, g, aft⟩) hg he (runW_sound h)
        · exact h.elim
    · rename_i hg
      exact .skip (o := ⟨d, op, g, aft⟩) hg (runW_sound h)
    · exact h.elim

def resW (S : Seat) (T : List (Reg S)) (r : Option (AV × List Entry)) (d : Option Nat) (l : List IOper) (Q : St → Prop) (env : Env) : Prop := match r with
  | some (v, H') => runW S T l Q ⟨updo env d v, H'⟩
  | none => False

theorem resW_some (v : AV) (H' : List Entry) (d : Option Nat) (l : List IOper) (Q : St → Prop) (env : Env) : resW S T (some (v, H')) d l Q env = runW S T l Q ⟨updo env d v, H'⟩ := rfl

def callW (S : Seat) (T : List (Reg S)) (f : AV) (xs : List AV) (d : Option Nat) (l : List IOper) (Q : St → Prop) (env : Env) (H : List Entry) : Prop :=
  CalleeT S T f xs H fun v H' => runW S T l Q ⟨updo env d v, H'⟩

theorem callW_f {c : Nat} {first cap xs : List AV} {d : Option Nat} {l : List IOper} {Q : St → Prop} {env : Env} : callW S T (.func (.f c) first cap) xs d l Q env H = ansW S T c (first ++ xs ++ cap) (tab T c (first ++ xs ++ cap)) (.func (.f c) first cap) xs H fun v H' => runW S T l Q ⟨updo env d v, H'⟩ := rfl
theorem callW_y {id : Nat} {first cap xs : List AV} {d : Option Nat} {l : List IOper} {Q : St → Prop} {env : Env} : callW S T (.func (.y id) first cap) xs d l Q env H = Callee S (.func (.y id) first cap) xs H fun v H' => runW S T l Q ⟨updo env d v, H'⟩ := rfl
theorem W_nil {Q : St → Prop} {st : St} : runW S T [] Q st = Q st := by simp only [runW]

theorem W_op {d : Option Nat} {op : IOp} {a : List Nat} {l : List IOper} {Q : St → Prop} {env : Env} (h : op.isCall = false) :
    runW S T (⟨d, op, none, a⟩ :: l) Q ⟨env, H⟩ = resW S T (evalOp op env H) d l Q env := by
  simp only [runW, gdec]
  cases op <;> first
    | (cases h; done)
    | rfl

theorem W_call {d : Option Nat} {f : Opd} {xs : List Opd} {a : List Nat} {l : List IOper} {Q : St → Prop} {env : Env} :
    runW S T (⟨d, .call f xs, none, a⟩ :: l) Q ⟨env, H⟩ = callW S T (f.ev env) (xs.map (Opd.ev env)) d l Q env H := by
  simp only [runW, gdec]; rfl

def grdW (S : Seat) (T : List (Reg S)) (c : AV) (want : Bool) (d : Option Nat) (op : IOp) (g : Nat) (l : List IOper) (Q : St → Prop) (env : Env) (H : List Entry) : Prop := match c with
  | .bool v => (v = want → runW S T (⟨d, op, none, []⟩ :: l) Q ⟨upd env g (.bool want), H⟩) ∧ (v = !want → runW S T l Q ⟨updo (upd env g (.bool !want)) d (.tup []), H⟩)
  | .tup [] => runW S T l Q ⟨updo env d (.tup []), H⟩
  | _ => False

theorem upd_self {env : Env} {g : Nat} {v : AV} (h : env g = v) : upd env g v = env := by
  funext j; simp only [upd]; split
  · rename_i hj; rw [hj, h]
  · rfl

def condW (c : AV) (a b : Prop) : Prop := match c with
  | .bool t => (t = true → a) ∧ (t = false → b)
  | .anybool => a ∧ b
  | _ => False

def wpc (S : Seat) (T : List (Reg S)) (r : Option Nat) (N b : Nat) : IC → (Exit → St → Prop) → St → Prop
  | .skip, Q, st => Q .normal st
  | .region l false, Q, st => runW S T l (Q .normal) st
  | .seq x y, Q, st => wpc S T r N b x (thenQ (fun st => wpc S T r N b y Q st) Q) st
  | .cond c x y, Q, st => condW (c.ev st.env) (wpc S T r N b x Q st) (wpc S T r N b y Q st)
  | .block id x, Q, st => wpc S T r N b x (blockQ id Q) st
  | .exit id, Q, st => Q (.exit id) st
  | .label _, Q, st => Q .normal st
  | .goto l, Q, st => Q (.goto l) st
  | .ret, Q, st => Q .ret st
  | c, Q, st => WP S r N b c Q st

theorem wpc_soundT {r : Option Nat} {N b : Nat} : ∀ {ic : IC} {Q : Exit → St → Prop} {st : St}, wpc S T r N b ic Q st → WP S r N b ic Q st := by
  intro ic
  induction ic with
  | skip => exact fun h => .skip h
  | region l d =>
    intro Q st h
    cases d with
    | false => exact .region (runW_sound h)
    | true => exact h
  | seq x y iha ihb =>
    intro Q st h
    refine .seq (WP.mono (iha h) fun e st he => ?_)
    cases e with
    | normal => exact ihb he
    | _ => exact he
  | cond c x y iha ihb =>
    intro Q st h
    simp only [wpc] at h
    unfold condW at h
    split at h
    · rename_i t ht
      refine .cond ht ?_
      cases t with
      | true => exact iha (h.1 rfl)
      | false => exact ihb (h.2 rfl)
    · rename_i ht
      exact .cond_any ht (iha h.1) (ihb h.2)
    · exact h.elim
  | block id x ih => exact fun h => .block (ih h)
  | exit id => exact fun h => .exit h
  | label l => exact fun h => .label h
  | goto l => exact fun h => .goto h
  | ret => exact fun h => .ret h
  | loop x ih => exact fun h => h
  | rangeFunc g ps x y iha ihb => exact fun h => h
  | scope x ih => exact fun h => h

theorem wpc_sound {r : Option Nat} {N b : Nat} {ic : IC} {Q : Exit → St → Prop} {st : St} (h : wpc S [] r N b ic Q st) : WP S r N b ic Q st := wpc_soundT h
theorem wpc_soundR (T : List (Reg S)) {r : Option Nat} {N b : Nat} {ic : IC} {Q : Exit → St → Prop} {st : St} (h : wpc S T r N b ic Q st) : WP S r N b ic Q st := wpc_soundT h
/-! ### States told by a list of slots -/
def envL : List (Nat × AV) → Env
  | [], _ => .undef
  | (k, v) :: l, j => if j = k then v else envL l j

def setL : List (Nat × AV) → Nat → AV → List (Nat × AV)
  | [], d, v => [(d, v)]
  | (k, u) :: l, d, v => if k = d then (k, v) :: l else (k, u) :: setL l d v

theorem upd_envL (l : List (Nat × AV)) (d : Nat) (v : AV) : upd (envL l) d v = envL ((d, v) :: l) := rfl
theorem updo_envL (l : List (Nat × AV)) (d : Nat) (v : AV) : updo (envL l) (some d) v = envL ((d, v) :: l) := rfl
theorem updo_none (env : Env) (v : AV) : updo env none v = env := rfl
theorem setL_nil (d : Nat) (v : AV) : setL [] d v = [(d, v)] := rfl
theorem setL_cons (k : Nat) (u : AV) (l : List (Nat × AV)) (d : Nat) (v : AV) : setL ((k, u) :: l) d v = if k = d then (k, v) :: l else (k, u) :: setL l d v := rfl

theorem envL_cons (k : Nat) (v : AV) (l : List (Nat × AV)) (j : Nat) : envL ((k, v) :: l) j = if j = k then v else envL l j := rfl
theorem envL_nil (j : Nat) : envL [] j = .undef := rfl

def Wf (H : List Entry) : Prop := ∀ (id : Nat) (e : Entry), H[id]? = some e → EntB H.length e

theorem Idb.more {n n' : Nat} (hn : n ≤ n') {x : AV} (h : Idb n x) : Idb n' x := by
  induction h with
  | undef => exact .undef
  | bool b => exact .bool b
  | anybool => exact .anybool
  | int k i => exact .int k i
  | str s => exact .str s
  | list t xs _ ih => exact .list t xs ih
  | own id ver lo hi h => exact .own id ver lo hi (by omega)
  | agg cs _ ih => exact .agg cs ih
  | tup cs _ ih => exact .tup cs ih
  | ptr id off h => exact .ptr id off (by omega)
  | eptr id ver i off h => exact .eptr id ver i off (by omega)
  | iptr cs off _ ih => exact .iptr cs off ih
  | nilptr => exact .nilptr
  | func c a b _ _ i1 i2 => exact .func c a b i1 i2
  | yield id a b h _ _ i1 i2 => exact .yield id a b (by omega) i1 i2
  | nilfunc => exact .nilfunc
  | iface t v _ ih => exact .iface t v ih
  | nilIface => exact .nilIface
  | map id h => exact .map id (by omega)

theorem ACall.wf {c : Nat} {args : List AV} {R : AV → List Entry → Prop} (h : Wf H → (∀ x ∈ args, Idb H.length x) → ACall S c args H R) : ACall S c args H R := by
  intro m I X w vs hs hv
  refine h (fun id e he => ?_) (fun x hx => ?_) m I X w vs hs hv
  · rw [← hs.len]; exact (hs.hok id e he).entB
  · obtain ⟨i, hi⟩ := List.getElem?_of_mem hx
    rw [← hs.len]; exact (hv.2 i x hi).idb

theorem list_len {t : Bool} {xs : List AV} {v : Value} (h : Rel S m I w (.list t xs) v) : xs.length ≤ 9223372036854775807 := by
  cases h with
  | empty => simp
  | list _ _ b off n c sz rd hn hnc hcm => omega

theorem ACall.bnd {c : Nat} {args : List AV} {R : AV → List Entry → Prop} {t : Bool} {xs : List AV} (hm : .list t xs ∈ args) (h : xs.length ≤ 9223372036854775807 → ACall S c args H R) : ACall S c args H R := by
  intro m I X w vs hs hv
  obtain ⟨i, hi⟩ := List.getElem?_of_mem hm
  exact h (list_len (hv.2 i _ hi)) m I X w vs hs hv

structure Fits (st' st : St) : Prop where
  env : ∀ j, st'.env j = .undef ∨ (st'.env j = st.env j ∧ Idb st'.H.length (st'.env j))
  heap : st.H.take st'.H.length = st'.H
  wf : Wf st'.H

theorem Fr.fits {n0 N : Nat} {env env' : Env} {a : Act} {n : Nat} (h : Fr S m I X w n0 N env a) (he : ∀ j, env' j = .undef ∨ (env' j = env j ∧ Idb n (env' j))) : Fr S (m.take n) I X w n0 N env' a := by
  refine ⟨fun j => ?_, h.size, h.marks⟩
  rcases he j with e | ⟨e, hi⟩
  · rw [e]; exact .undef _
  · rw [e] at hi ⊢; exact (h.env j).take hi

theorem WP.fits {r : Option Nat} {N b : Nat} {ic : IC} {Q : Exit → St → Prop} {st st' : St} (hf : Fits st' st) (hb : b ≤ st'.H.length) (h : WP S r N b ic Q st') : WP S r N b ic Q st := by
  intro c hc m0 I0 X0 w0 m I X w a hb0 hfrom hs hfr
  have hlen : st'.H.length ≤ st.H.length := by
    have := congrArg List.length hf.heap
    simp at this; omega
  have ht := hs.take (n := st'.H.length) (fun id e hid he => hf.wf id e (by rw [← hf.heap, get_take hid]; exact he))
  rw [hf.heap] at ht
  exact h c hc m0 I0 X0 w0 (m.take st'.H.length) I X w a hb0 ⟨hfrom.le.take (by omega), hfrom.i, hfrom.x, hfrom.ext⟩ ht (hfr.fits hf.env)

theorem WP.loopF {r : Option Nat} {N b : Nat} {x : IC} {Q : Exit → St → Prop} {st : St} {α : Type} (P : α → Prop) (F : α → St) (μ : α → Nat) (a : α) (ha : P a) (hst : Fits (F a) st) (hb : ∀ a, P a → b ≤ (F a).H.length)
    (h : ∀ a, P a → WP S r N b x (thenQ (fun st' => ∃ a', P a' ∧ μ a' < μ a ∧ Fits (F a') st') Q) (F a)) : WP S r N b (.loop x) Q st := by
  refine WP.fits hst (hb a ha) ?_
  refine WP.loop (fun n st => ∃ a, P a ∧ μ a = n ∧ Fits (F a) st) (n := μ a) ⟨a, ha, rfl, ?_⟩ ?_
  · refine ⟨fun j => .inr ⟨rfl, ?_⟩, List.take_length, hst.wf⟩
    rcases hst.env j with e | e
    · rw [e]; exact .undef
    · exact e.2
  · rintro n st ⟨a, ha, rfl, hf⟩
    refine WP.fits hf (hb a ha) (WP.mono (h a ha) fun e st' hq => ?_)
    cases e with
    | normal =>
      obtain ⟨a', h1, h2, h3⟩ := hq
      exact ⟨μ a', h2, a', h1, rfl, h3⟩
    | _ => exact hq

theorem Fits.of {l : List (Nat × AV)} {H' : List Entry} {st : St} (h1 : ∀ p ∈ l, st.env p.1 = p.2) (h2 : ∀ p ∈ l, Idb H'.length p.2) (h3 : st.H.take H'.length = H') (h4 : Wf H') : Fits ⟨envL l, H'⟩ st := by
  refine ⟨fun j => ?_, h3, h4⟩
  clear h3 h4
  induction l with
  | nil => exact .inl rfl
  | cons p l ih =>
    obtain ⟨k, v⟩ := p
    simp only [envL]
    split
    · rename_i hj
      subst hj
      exact .inr ⟨(h1 (j, v) (by simp)).symm, h2 (j, v) (by simp)⟩
    · exact ih (fun p hp => h1 p (by simp [hp])) (fun p hp => h2 p (by simp [hp]))

end Go.Proofs.YtihhinbjhiankaaGreatDoor.Al

/- THE RULES OF THE CALCULATION, one by one. -/
namespace Go.Proofs.YtihhinbjhiankaaGreatDoor.Al
open Go
variable {S : Seat} {T : List (Reg S)} {m m0 : List ME} {I I0 X X0 : Nat → Prop} {w w0 : World} {H : List Entry}

theorem W_mv (x : Opd) {d : Option Nat} {aft : List Nat} {l : List IOper} {Q : St → Prop} {env : Env} : runW S T (⟨d, .mv x, none, aft⟩ :: l) Q ⟨env, H⟩ = resW S T (evalOp (.mv x) env H) d l Q env := W_op rfl
theorem W_pick (c a b : Opd) {d : Option Nat} {aft : List Nat} {l : List IOper} {Q : St → Prop} {env : Env} : runW S T (⟨d, .pick c a b, none, aft⟩ :: l) Q ⟨env, H⟩ = resW S T (evalOp (.pick c a b) env H) d l Q env := W_op rfl
theorem W_alloc (z : List AV) {d : Option Nat} {aft : List Nat} {l : List IOper} {Q : St → Prop} {env : Env} : runW S T (⟨d, .alloc z, none, aft⟩ :: l) Q ⟨env, H⟩ = resW S T (evalOp (.alloc z) env H) d l Q env := W_op rfl
theorem W_box (x : Opd) {d : Option Nat} {aft : List Nat} {l : List IOper} {Q : St → Prop} {env : Env} : runW S T (⟨d, .box x, none, aft⟩ :: l) Q ⟨env, H⟩ = resW S T (evalOp (.box x) env H) d l Q env := W_op rfl
theorem W_build (z : List AV) (parts : List (Nat × Nat × Opd)) {d : Option Nat} {aft : List Nat} {l : List IOper} {Q : St → Prop} {env : Env} : runW S T (⟨d, .build z parts, none, aft⟩ :: l) Q ⟨env, H⟩ = resW S T (evalOp (.build z parts) env H) d l Q env := W_op rfl
theorem W_bslice (esz len : Nat) (z : AV) (parts : List (Nat × Opd)) {d : Option Nat} {aft : List Nat} {l : List IOper} {Q : St → Prop} {env : Env} : runW S T (⟨d, .bslice esz len z parts, none, aft⟩ :: l) Q ⟨env, H⟩ = resW S T (evalOp (.bslice esz len z parts) env H) d l Q env := W_op rfl
theorem W_load (agg : Bool) (n : Nat) (x : Opd) {d : Option Nat} {aft : List Nat} {l : List IOper} {Q : St → Prop} {env : Env} : runW S T (⟨d, .load agg n x, none, aft⟩ :: l) Q ⟨env, H⟩ = resW S T (evalOp (.load agg n x) env H) d l Q env := W_op rfl
theorem W_store (n : Nat) (x v : Opd) {d : Option Nat} {aft : List Nat} {l : List IOper} {Q : St → Prop} {env : Env} : runW S T (⟨d, .store n x v, none, aft⟩ :: l) Q ⟨env, H⟩ = resW S T (evalOp (.store n x v) env H) d l Q env := W_op rfl
theorem W_bin (isB : Bool) (op : BinOp) (x y : Opd) {d : Option Nat} {aft : List Nat} {l : List IOper} {Q : St → Prop} {env : Env} : runW S T (⟨d, .bin isB op x y, none, aft⟩ :: l) Q ⟨env, H⟩ = resW S T (evalOp (.bin isB op x y) env H) d l Q env := W_op rfl
theorem W_isnil (k : TK) (neg : Bool) (x : Opd) {d : Option Nat} {aft : List Nat} {l : List IOper} {Q : St → Prop} {env : Env} : runW S T (⟨d, .isnil k neg x, none, aft⟩ :: l) Q ⟨env, H⟩ = resW S T (evalOp (.isnil k neg x) env H) d l Q env := W_op rfl
theorem W_un (op : UnOp) (x : Opd) {d : Option Nat} {aft : List Nat} {l : List IOper} {Q : St → Prop} {env : Env} : runW S T (⟨d, .un op x, none, aft⟩ :: l) Q ⟨env, H⟩ = resW S T (evalOp (.un op x) env H) d l Q env := W_op rfl
theorem W_convI (k : IntKind) (x : Opd) {d : Option Nat} {aft : List Nat} {l : List IOper} {Q : St → Prop} {env : Env} : runW S T (⟨d, .convI k x, none, aft⟩ :: l) Q ⟨env, H⟩ = resW S T (evalOp (.convI k x) env H) d l Q env := W_op rfl
theorem W_convS (x : Opd) {d : Option Nat} {aft : List Nat} {l : List IOper} {Q : St → Prop} {env : Env} : runW S T (⟨d, .convS x, none, aft⟩ :: l) Q ⟨env, H⟩ = resW S T (evalOp (.convS x) env H) d l Q env := W_op rfl
theorem W_mkiface (t : Nat) (x : Opd) {d : Option Nat} {aft : List Nat} {l : List IOper} {Q : St → Prop} {env : Env} : runW S T (⟨d, .mkiface t x, none, aft⟩ :: l) Q ⟨env, H⟩ = resW S T (evalOp (.mkiface t x) env H) d l Q env := W_op rfl
theorem W_mkfunc (fn : Nat) (first captured : List Opd) {d : Option Nat} {aft : List Nat} {l : List IOper} {Q : St → Prop} {env : Env} : runW S T (⟨d, .mkfunc fn first captured, none, aft⟩ :: l) Q ⟨env, H⟩ = resW S T (evalOp (.mkfunc fn first captured) env H) d l Q env := W_op rfl
theorem W_slice (esz : Nat) (x : Opd) (lo hi mx : Option Opd) {d : Option Nat} {aft : List Nat} {l : List IOper} {Q : St → Prop} {env : Env} : runW S T (⟨d, .slice esz x lo hi mx, none, aft⟩ :: l) Q ⟨env, H⟩ = resW S T (evalOp (.slice esz x lo hi mx) env H) d l Q env := W_op rfl
theorem W_faddr (off : Nat) (x : Opd) {d : Option Nat} {aft : List Nat} {l : List IOper} {Q : St → Prop} {env : Env} : runW S T (⟨d, .faddr off x, none, aft⟩ :: l) Q ⟨env, H⟩ = resW S T (evalOp (.faddr off x) env H) d l Q env := W_op rfl
theorem W_iaddr (esz : Nat) (x i : Opd) {d : Option Nat} {aft : List Nat} {l : List IOper} {Q : St → Prop} {env : Env} : runW S T (⟨d, .iaddr esz x i, none, aft⟩ :: l) Q ⟨env, H⟩ = resW S T (evalOp (.iaddr esz x i) env H) d l Q env := W_op rfl
theorem W_idxA (agg : Bool) (len esz : Nat) (x i : Opd) {d : Option Nat} {aft : List Nat} {l : List IOper} {Q : St → Prop} {env : Env} : runW S T (⟨d, .idxA agg len esz x i, none, aft⟩ :: l) Q ⟨env, H⟩ = resW S T (evalOp (.idxA agg len esz x i) env H) d l Q env := W_op rfl
theorem W_extract (x : Opd) (i : Nat) {d : Option Nat} {aft : List Nat} {l : List IOper} {Q : St → Prop} {env : Env} : runW S T (⟨d, .extract x i, none, aft⟩ :: l) Q ⟨env, H⟩ = resW S T (evalOp (.extract x i) env H) d l Q env := W_op rfl
theorem W_len (x : Opd) {d : Option Nat} {aft : List Nat} {l : List IOper} {Q : St → Prop} {env : Env} : runW S T (⟨d, .len x, none, aft⟩ :: l) Q ⟨env, H⟩ = resW S T (evalOp (.len x) env H) d l Q env := W_op rfl
theorem W_min (xs : List Opd) {d : Option Nat} {aft : List Nat} {l : List IOper} {Q : St → Prop} {env : Env} : runW S T (⟨d, .min xs, none, aft⟩ :: l) Q ⟨env, H⟩ = resW S T (evalOp (.min xs) env H) d l Q env := W_op rfl
theorem W_max (xs : List Opd) {d : Option Nat} {aft : List Nat} {l : List IOper} {Q : St → Prop} {env : Env} : runW S T (⟨d, .max xs, none, aft⟩ :: l) Q ⟨env, H⟩ = resW S T (evalOp (.max xs) env H) d l Q env := W_op rfl
theorem W_append (esz bytes : Nat) (x y : Opd) {d : Option Nat} {aft : List Nat} {l : List IOper} {Q : St → Prop} {env : Env} : runW S T (⟨d, .append esz bytes x y, none, aft⟩ :: l) Q ⟨env, H⟩ = resW S T (evalOp (.append esz bytes x y) env H) d l Q env := W_op rfl
section
variable {r : Option Nat} {N b : Nat} {Q : Exit → St → Prop} {st : St} {K : St → Prop}
theorem thenQ_normal : thenQ K Q .normal st = K st := rfl
theorem thenQ_exit {id : Nat} : thenQ K Q (.exit id) st = Q (.exit id) st := rfl
theorem thenQ_ret : thenQ K Q .ret st = Q .ret st := rfl
theorem blockQ_normal {id : Nat} : blockQ id Q .normal st = Q .normal st := rfl
theorem blockQ_ret {id : Nat} : blockQ id Q .ret st = Q .ret st := rfl
theorem blockQ_exit {id j : Nat} : blockQ id Q (.exit j) st = if j = id then Q .normal st else Q (.exit j) st := rfl
theorem wpc_skip : wpc S T r N b .skip Q st = Q .normal st := rfl
theorem wpc_region {l : List IOper} : wpc S T r N b (.region l false) Q st = runW S T l (Q .normal) st := rfl
theorem wpc_draw {l : List IOper} : wpc S T r N b (.region l true) Q st = WP S r N b (.region l true) Q st := rfl
theorem wpc_seq {x y : IC} : wpc S T r N b (.seq x y) Q st = wpc S T r N b x (thenQ (wpc S T r N b y Q) Q) st := rfl
theorem wpc_cond {c : Opd} {x y : IC} : wpc S T r N b (.cond c x y) Q st = condW (c.ev st.env) (wpc S T r N b x Q st) (wpc S T r N b y Q st) := rfl
theorem wpc_block {id : Nat} {x : IC} : wpc S T r N b (.block id x) Q st = wpc S T r N b x (blockQ id Q) st := rfl
theorem wpc_exit {id : Nat} : wpc S T r N b (.exit id) Q st = Q (.exit id) st := rfl
theorem wpc_ret : wpc S T r N b .ret Q st = Q .ret st := rfl
theorem wpc_loop {x : IC} : wpc S T r N b (.loop x) Q st = WP S r N b (.loop x) Q st := rfl
theorem wpc_range {g : Opd} {ps : List Nat} {x y : IC} : wpc S T r N b (.rangeFunc g ps x y) Q st = WP S r N b (.rangeFunc g ps x y) Q st := rfl
end

theorem condW_true {a b : Prop} : condW (.bool true) a b = a := by simp [condW]
theorem condW_false {a b : Prop} : condW (.bool false) a b = b := by simp [condW]
theorem condW_dec {p : Prop} [Decidable p] {a b : Prop} : condW (.bool (decide p)) a b = ((p → a) ∧ (¬ p → b)) := by simp [condW]
theorem condW_b {t : Bool} {a b : Prop} : condW (.bool t) a b = ((t = true → a) ∧ (t = false → b)) := rfl
theorem condW_any {a b : Prop} : condW .anybool a b = (a ∧ b) := rfl

theorem start_env (args : List AV) : (fun j => args.getD j .undef) = envL (args.zipIdx.map fun p => (p.2, p.1)) := by
  have h : ∀ (l : List AV) (k : Nat) (j : Nat), envL ((l.zipIdx k).map fun p => (p.2, p.1)) j = if k ≤ j then l.getD (j - k) .undef else .undef := by
    intro l
    induction l with
    | nil => intro k j; simp [envL]
    | cons x l ih =>
      intro k j
      rw [List.zipIdx_cons, List.map_cons, envL_cons, ih]
      by_cases hj : j = k
      · subst hj; simp
      · rw [if_neg hj]
        by_cases hk : k ≤ j
        · rw [if_pos (by omega), if_pos hk, show j - k = (j - (k + 1)) + 1 by omega]; rfl
        · rw [if_neg (by omega), if_neg hk]
  funext j
  rw [h args 0 j]; simp

end Go.Proofs.YtihhinbjhiankaaGreatDoor.Al

/- STATEMENTS WHOSE ORDER IS LEFT OPEN, where each operation leaves the heap as it is. -/
namespace Go.Proofs.YtihhinbjhiankaaGreatDoor.Al
open Go
variable {S : Seat} {m m0 : List ME} {I I0 X X0 : Nat → Prop} {w w0 : World} {H : List Entry}

def CallF (S : Seat) (f : AV) (args : List AV) (H : List Entry) (v : AV) : Prop :=
  ∃ c first captured, f = .func (.f c) first captured ∧ Callable S c ∧ ACall S c (first ++ args ++ captured) H fun v' H' => v' = v ∧ H' = H

theorem CallF.plain {c : Nat} {args : List AV} {v : AV} (hc : Callable S c) (h : ACall S c args H fun v' H' => v' = v ∧ H' = H) : CallF S (.func (.f c) [] []) args H v :=
  ⟨c, [], [], rfl, hc, by simpa using h⟩

def llendA (S : Seat) (a : Option Said) (f : AV) (xs : List AV) (H : List Entry) (K : AV → Prop) : Prop := match a with
  | some (.fn v) => Plain v ∧ K v
  | _ => ∃ v, CallF S f xs H v ∧ K v
def lansW (S : Seat) (T : List (Reg S)) (c : Nat) (args : List AV) (a : Option Said) (f : AV) (xs : List AV) (H : List Entry) (K : AV → Prop) : Prop := match a with
  | some (.fn v) => K v
  | some (.own _ ys) => K (.list false ys)
  | none => llendA S (tab T c (args.map (canon H 2))) f xs H K
section
variable {T : List (Reg S)} {c : Nat} {args : List AV}
theorem lansW_fn {v f : AV} {xs : List AV} {K : AV → Prop} : lansW S T c args (some (.fn v)) f xs H K = K v := rfl
end
def CallLT (S : Seat) (T : List (Reg S)) (f : AV) (xs : List AV) (H : List Entry) (K : AV → Prop) : Prop := match f with
  | .func (.f c) first cap => lansW S T c (first ++ xs ++ cap) (tab T c (first ++ xs ++ cap)) (.func (.f c) first cap) xs H K
  | f => ∃ v, CallF S f xs H v ∧ K v
theorem CallLT.sound {T : List (Reg S)} {f : AV} {xs : List AV} {K : AV → Prop} (h : CallLT S T f xs H K) : ∃ v, CallF S f xs H v ∧ K v := by
  unfold CallLT at h
  split at h
  · rename_i c first cap
    unfold lansW at h
    split at h
    · rename_i v hv
      obtain ⟨hc, ha⟩ := tab_ok hv
      exact ⟨v, ⟨c, first, cap, rfl, hc, ha H⟩, h⟩
    · rename_i sz ys hv
      obtain ⟨hc, ha⟩ := tab_ok hv
      exact ⟨_, ⟨c, first, cap, rfl, hc, ha.2 H⟩, h⟩
    · unfold llendA at h
      split at h
      · rename_i v hv
        obtain ⟨hc, ha⟩ := tab_ok hv
        exact ⟨v, ⟨c, first, cap, rfl, hc, ACall.lend 2 ha h.1⟩, h.2⟩
      · exact h
  · exact h

variable {T : List (Reg S)}
def lightW (S : Seat) (T : List (Reg S)) : List IOper → (St → Prop) → St → Prop
  | [], Q, st => Q st
  | ⟨d, op, g, _⟩ :: l, Q, st => match gdec st.env g with
    | some true => (match op with
      | .call f xs => CallLT S T (f.ev st.env) (xs.map (Opd.ev st.env)) st.H fun v => lightW S T l Q ⟨updo st.env d v, st.H⟩
      | op => (match evalOp op st.env st.H with
        | some (v, H') => H' = st.H ∧ lightW S T l Q ⟨updo st.env d v, st.H⟩
        | none => False))
    | some false => lightW S T l Q ⟨updo st.env d (.tup []), st.H⟩
    | none => False

theorem lightW_run : ∀ {l : List IOper} {Q : St → Prop} {env : Env}, lightW S T l Q ⟨env, H⟩ → ∃ tr E, DRun S (fun _ => H) 0 l (List.replicate l.length .l) env 0 tr E ∧ Q ⟨E, H⟩
  | [], Q, env, h => ⟨[], env, DRun.nil env, (by simpa [lightW] using h)⟩
  | ⟨d, op, g, aft⟩ :: l, Q, env, h => by
    simp only [lightW] at h
    split at h
    · rename_i hg
      split at h
      · rename_i f xs
        obtain ⟨v, ⟨c, first, captured, h1, h2, h3⟩, h4⟩ := h.sound
        obtain ⟨tr, E, h5, h6⟩ := lightW_run h4
        exact ⟨_, E, .light (o := ⟨d, .call f xs, g, aft⟩) hg (fun _ _ => .call h1 h2 h3) h5, h6⟩
      · split at h
        · rename_i v H' he
          obtain ⟨e1, h4⟩ := h
          have he' : evalOp op env H = some (v, H) := by rw [← e1] at he ⊢; exact he
          obtain ⟨tr, E, h5, h6⟩ := lightW_run h4
          exact ⟨_, E, .light (o := ⟨d, op, g, aft⟩) hg (fun _ _ => .ev he') h5, h6⟩
        · exact h.elim
    · rename_i hg
      obtain ⟨tr, E, h5, h6⟩ := lightW_run h
      exact ⟨_, E, .skip (o := ⟨d, op, g, aft⟩) hg h5, h6⟩
    · exact h.elim

theorem WP.drawR (T : List (Reg S)) {r : Option Nat} {N b : Nat} {Q : Exit → St → Prop} {l : List IOper} {env : Env} (hmx : S.P.follows .mixedOrders = true) (hchk : drawOk l (List.replicate l.length .l) = true)
    (h : lightW S T l (Q .normal) ⟨env, H⟩) : WP S r N b (.region l true) Q ⟨env, H⟩ := by
  obtain ⟨tr, E, h1, h2⟩ := lightW_run h
  exact WP.draw hmx _ hchk (fun _ => H) 0 h1 rfl h2

theorem WP.drawL {r : Option Nat} {N b : Nat} {Q : Exit → St → Prop} {l : List IOper} {env : Env} (hmx : S.P.follows .mixedOrders = true) (hchk : drawOk l (List.replicate l.length .l) = true)
    (h : lightW S [] l (Q .normal) ⟨env, H⟩) : WP S r N b (.region l true) Q ⟨env, H⟩ := WP.drawR [] hmx hchk h

def lresW (S : Seat) (T : List (Reg S)) (r : Option (AV × List Entry)) (d : Option Nat) (l : List IOper) (Q : St → Prop) (env : Env) (H : List Entry) : Prop := match r with
  | some (v, H') => H' = H ∧ lightW S T l Q ⟨updo env d v, H⟩
  | none => False

theorem lresW_some (v : AV) (d : Option Nat) (l : List IOper) (Q : St → Prop) (env : Env) : lresW S T (some (v, H)) d l Q env H = lightW S T l Q ⟨updo env d v, H⟩ := by simp [lresW]
theorem L_nil {Q : St → Prop} {st : St} : lightW S T [] Q st = Q st := by simp only [lightW]
theorem L_op {d : Option Nat} {op : IOp} {a : List Nat} {l : List IOper} {Q : St → Prop} {env : Env} (h : op.isCall = false) :
    lightW S T (⟨d, op, none, a⟩ :: l) Q ⟨env, H⟩ = lresW S T (evalOp op env H) d l Q env H := by
  simp only [lightW, gdec]
  cases op <;> first
    | (cases h; done)
    | rfl

def lcallW (S : Seat) (T : List (Reg S)) (f : AV) (xs : List AV) (d : Option Nat) (l : List IOper) (Q : St → Prop) (env : Env) (H : List Entry) : Prop :=
  CallLT S T f xs H fun v => lightW S T l Q ⟨updo env d v, H⟩
theorem L_call {d : Option Nat} {f : Opd} {xs : List Opd} {a : List Nat} {l : List IOper} {Q : St → Prop} {env : Env} :
    lightW S T (⟨d, .call f xs, none, a⟩ :: l) Q ⟨env, H⟩ = lcallW S T (f.ev env) (xs.map (Opd.ev env)) d l Q env H := by
  simp only [lightW, gdec]; rfl

theorem lcallW_f {c : Nat} {first cap xs : List AV} {d : Option Nat} {l : List IOper} {Q : St → Prop} {env : Env} : lcallW S T (.func (.f c) first cap) xs d l Q env H = lansW S T c (first ++ xs ++ cap) (tab T c (first ++ xs ++ cap)) (.func (.f c) first cap) xs H fun v => lightW S T l Q ⟨updo env d v, H⟩ := rfl
theorem W_grd' {d : Option Nat} {op : IOp} {g : Nat} {want : Bool} {a : List Nat} {l : List IOper} {Q : St → Prop} {env : Env} :
    runW S T (⟨d, op, some (g, want), a⟩ :: l) Q ⟨env, H⟩ = grdW S T (env g) want d op g l Q env H := by
  cases hv : env g
  case bool v =>
    have h0 : gdec env (some (g, want)) = some (v == want) := by simp only [gdec, hv]
    have h1 : upd env g (.bool v) = env := upd_self hv
    simp only [grdW]
    by_cases hw : v = want
    · subst hw
      rw [h1]
      simp only [runW, gdec, hv, beq_self_eq_true]
      simp
    · have hw' : v = !want := by cases v <;> cases want <;> simp_all
      have hwt : (v == want) = false := by simpa using hw
      rw [← hw', h1]
      simp only [runW, gdec, hv, hwt]
      simp [hw]
  case tup l' =>
    cases l' with
    | nil => simp only [runW, gdec, hv, grdW]
    | cons x xs => simp only [runW, gdec, hv, grdW]
  all_goals simp only [runW, gdec, hv, grdW]

section
variable {want v : Bool} {d : Option Nat} {op : IOp} {g : Nat} {l : List IOper} {Q : St → Prop} {env : Env} {p : Prop} [Decidable p]
theorem grdW_tt : grdW S T (.bool true) true d op g l Q env H = runW S T (⟨d, op, none, []⟩ :: l) Q ⟨upd env g (.bool true), H⟩ := by simp [grdW]
theorem grdW_ff : grdW S T (.bool false) false d op g l Q env H = runW S T (⟨d, op, none, []⟩ :: l) Q ⟨upd env g (.bool false), H⟩ := by simp [grdW]
theorem grdW_tf : grdW S T (.bool true) false d op g l Q env H = runW S T l Q ⟨updo (upd env g (.bool true)) d (.tup []), H⟩ := by simp [grdW]
theorem grdW_ft : grdW S T (.bool false) true d op g l Q env H = runW S T l Q ⟨updo (upd env g (.bool false)) d (.tup []), H⟩ := by simp [grdW]
theorem grdW_tup : grdW S T (.tup []) want d op g l Q env H = runW S T l Q ⟨updo env d (.tup []), H⟩ := rfl
theorem grdW_dt : grdW S T (.bool (decide p)) true d op g l Q env H = ((p → runW S T (⟨d, op, none, []⟩ :: l) Q ⟨upd env g (.bool true), H⟩) ∧ (¬ p → runW S T l Q ⟨updo (upd env g (.bool false)) d (.tup []), H⟩)) := by simp [grdW]
theorem grdW_df : grdW S T (.bool (decide p)) false d op g l Q env H = ((¬ p → runW S T (⟨d, op, none, []⟩ :: l) Q ⟨upd env g (.bool false), H⟩) ∧ (p → runW S T l Q ⟨updo (upd env g (.bool true)) d (.tup []), H⟩)) := by simp [grdW]
end

theorem L_mv (x : Opd) {d : Option Nat} {aft : List Nat} {l : List IOper} {Q : St → Prop} {env : Env} : lightW S T (⟨d, .mv x, none, aft⟩ :: l) Q ⟨env, H⟩ = lresW S T (evalOp (.mv x) env H) d l Q env H := L_op rfl
theorem L_load (agg : Bool) (n : Nat) (x : Opd) {d : Option Nat} {aft : List Nat} {l : List IOper} {Q : St → Prop} {env : Env} : lightW S T (⟨d, .load agg n x, none, aft⟩ :: l) Q ⟨env, H⟩ = lresW S T (evalOp (.load agg n x) env H) d l Q env H := L_op rfl
theorem L_bin (isB : Bool) (op : BinOp) (x y : Opd) {d : Option Nat} {aft : List Nat} {l : List IOper} {Q : St → Prop} {env : Env} : lightW S T (⟨d, .bin isB op x y, none, aft⟩ :: l) Q ⟨env, H⟩ = lresW S T (evalOp (.bin isB op x y) env H) d l Q env H := L_op rfl
theorem L_un (op : UnOp) (x : Opd) {d : Option Nat} {aft : List Nat} {l : List IOper} {Q : St → Prop} {env : Env} : lightW S T (⟨d, .un op x, none, aft⟩ :: l) Q ⟨env, H⟩ = lresW S T (evalOp (.un op x) env H) d l Q env H := L_op rfl
theorem L_faddr (off : Nat) (x : Opd) {d : Option Nat} {aft : List Nat} {l : List IOper} {Q : St → Prop} {env : Env} : lightW S T (⟨d, .faddr off x, none, aft⟩ :: l) Q ⟨env, H⟩ = lresW S T (evalOp (.faddr off x) env H) d l Q env H := L_op rfl
theorem L_iaddr (esz : Nat) (x i : Opd) {d : Option Nat} {aft : List Nat} {l : List IOper} {Q : St → Prop} {env : Env} : lightW S T (⟨d, .iaddr esz x i, none, aft⟩ :: l) Q ⟨env, H⟩ = lresW S T (evalOp (.iaddr esz x i) env H) d l Q env H := L_op rfl
end Go.Proofs.YtihhinbjhiankaaGreatDoor.Al

/- SMALL RULES that the walks lean on: numbers, lists of numbers, ends of bodies. -/
namespace Go.Proofs.YtihhinbjhiankaaGreatDoor.Al
open Go
variable {S : Seat} {H : List Entry}

theorem wrap64 (n : Int) (h1 : -9223372036854775808 ≤ n) (h2 : n ≤ 9223372036854775807) : IntKind.i64.wrap n = n := by
  simp only [IntKind.wrap, IntKind.bits, IntKind.signed]
  simp
  omega
theorem beq_dec (a b : Int) : (a == b) = decide (a = b) := by by_cases h : a = b <;> simp [h]
theorem bne_dec (a b : Int) : (a != b) = decide (a ≠ b) := by by_cases h : a = b <;> simp [h]
theorem not_dec (p : Prop) [Decidable p] : (!decide p) = decide (¬ p) := by simp

def ints (l : List Int) : AV := .list false (l.map (AV.int .i64))
theorem rowLen_ints (H : List Entry) (l : List Int) : rowLen H (ints l) = some l.length := by simp [ints, rowLen]
theorem index_ints (H : List Entry) (l : List Int) (k : Nat) (h : k < l.length) : evIndex H 1 (ints l) (.int .i64 (k : Int)) = some (.iptr [.int .i64 l[k]] 0) := by
  simp [ints, evIndex, h, AV.cells]
theorem load_iptr0 (H : List Entry) (v : AV) : evLoad H false 1 (.iptr [v] 0) = some v := rfl
theorem leaves_ret1 {R : AV → List Entry → Prop} {k : Nat} {env : Env} : leaves [.t k] R .ret ⟨env, H⟩ = R (env k) H := by
  simp [leaves, evRess, evRes]
theorem leaves_ret0 {R : AV → List Entry → Prop} {env : Env} : leaves [] R .ret ⟨env, H⟩ = R (.tup []) H := by simp [leaves, evRess]
theorem leaves_end0 {R : AV → List Entry → Prop} {env : Env} : leaves [] R .normal ⟨env, H⟩ = R (.tup []) H := by simp [leaves, evRess]
theorem idb_int (n : Nat) (k : IntKind) (i : Int) : Idb n (.int k i) = True := eq_true (.int k i)
theorem idb_bool (n : Nat) (b : Bool) : Idb n (.bool b) = True := eq_true (.bool b)
theorem idb_ints (n : Nat) (l : List Int) : Idb n (ints l) = True := eq_true (.list _ _ (by simp [AV.cells]; intro a _; exact .int _ _))
theorem idb_nil (n : Nat) (t : Bool) : Idb n (.list t []) = True := eq_true (.list _ _ (by simp))
theorem idb_own (n id ver lo hi : Nat) : Idb n (.own id ver lo hi) = (id < n) := by
  apply propext; constructor
  · intro h; cases h; assumption
  · exact .own id ver lo hi
theorem idb_ptr (n id off : Nat) : Idb n (.ptr id off) = (id < n) := by
  apply propext; constructor
  · intro h; cases h; assumption
  · exact .ptr id off

theorem Fun.of_wp {c : Nat} {f : IFn} (ht : trFn S c = some f) {args : List AV} {r : AV} (hn : args.length ≤ f.N) (hp : Pure r)
    (h : ∀ H : List Entry, Wf H → (∀ x ∈ args, Idb H.length x) → wpc S [] none f.N H.length f.body (leaves f.res fun r' H' => r' = r ∧ H'.take H.length = H) ⟨envL (args.zipIdx.map fun p => (p.2, p.1)), H⟩) : Fun S c args r := by
  intro H
  refine ACall.wf fun hwf hi => ?_
  refine ACall.out 0 (ACall.of_wp ht hn (wpc_sound (by rw [start_env]; exact h H hwf hi))) ?_
  rintro r' H' ⟨rfl, h2⟩
  exact ⟨h2, (hp.idb _), rfl, rfl⟩

theorem heap_get0 (H G : List Entry) (e : Entry) : (H ++ e :: G)[H.length]? = some e := by simp
theorem heap_get1 (H G : List Entry) (e0 e : Entry) : (H ++ e0 :: e :: G)[H.length + 1]? = some e := by
  rw [List.getElem?_append_right (by omega)]; simp
theorem heap_set0 (H G : List Entry) (e e' : Entry) : (H ++ e :: G).set H.length e' = H ++ e' :: G := by
  rw [List.set_append_right _ _ (Nat.le_refl _)]; simp
theorem heap_set1 (H G : List Entry) (e0 e e' : Entry) : (H ++ e0 :: e :: G).set (H.length + 1) e' = H ++ e0 :: e' :: G := by
  rw [List.set_append_right _ _ (by omega)]; simp
theorem heap_len1 (H : List Entry) (e : Entry) : (H ++ [e]).length = H.length + 1 := by simp
theorem heap_app (H : List Entry) (e f : Entry) : H ++ [e] ++ [f] = H ++ [e, f] := by simp
theorem bslice1 (H : List Entry) (z x : AV) (hz : z.cells = [z]) (hz1 : z.oneIn H = true) (hx : x.cells = [x]) (hx1 : x.oneIn H = true) : evBslice H 1 1 z [(0, x)] = some (.own H.length 0 0 1, H ++ [.arr 1 0 [x]]) := by
  simp [evBslice, szOk, hz, hx, hz1, hx1]
theorem bslice1_int (H : List Entry) (k k' : IntKind) (z x : Int) : evBslice H 1 1 (.int k z) [(0, .int k' x)] = some (.own H.length 0 0 1, H ++ [.arr 1 0 [.int k' x]]) := bslice1 H _ _ rfl rfl rfl rfl

theorem app_own {H : List Entry} {esz bytes id ver n : Nat} {xs ys : List AV} (h : H[id]? = some (.arr esz ver xs)) (hn : n ≤ xs.length) (hl : n + ys.length ≤ maxRow) (hb : bytes ≤ 4096) (he : 0 < esz) (hy : ys ≠ []) (hs : szOk H esz ys = true) :
    evAppend H esz bytes (.own id ver 0 n) ys = some (.own id (ver + 1) 0 (n + ys.length), H.set id (.arr esz (ver + 1) (xs.take n ++ ys))) := by
  simp [evAppend, hy, h, hb, he, hs, hn, hl]

theorem seen_own {H : List Entry} {id ver lo hi sz : Nat} {xs : List AV} (h : H[id]? = some (.arr sz ver xs)) (hl : hi ≤ xs.length) : seen H (.own id ver lo hi) = some ((xs.take hi).drop lo) := by
  simp [seen, h, hl]
theorem seen_one0 {H G : List Entry} {ver sz : Nat} {x : AV} : seen (H ++ .arr sz ver [x] :: G) (.own H.length ver 0 1) = some [x] := by
  rw [seen_own (heap_get0 H G _) (by simp)]; rfl
end Go.Proofs.YtihhinbjhiankaaGreatDoor.Al

/- A ROW THAT IS HANDED OVER, taken as a list. -/
namespace Go.Proofs.YtihhinbjhiankaaGreatDoor.Al
open Go
variable {S : Seat}

theorem WP.slots {r : Option Nat} {N b : Nat} {ic : IC} {Q : Exit → St → Prop} {st : St} {l : List (Nat × AV)} (hl : ∀ p ∈ l, st.env p.1 = p.2) (h : WP S r N b ic Q ⟨envL l, st.H⟩) : WP S r N b ic Q st := by
  refine WP.ghost ?_ h
  intro m I X w n0 a hs hfr
  refine ⟨m, I, .refl m, fun _ hb => hb, hs, fun j => ?_, hfr.size, hfr.marks⟩
  have key : ∀ l : List (Nat × AV), (∀ p ∈ l, st.env p.1 = p.2) → envL l j = .undef ∨ envL l j = st.env j := by
    intro l
    induction l with
    | nil => exact fun _ => .inl rfl
    | cons p l ih =>
      intro hl
      obtain ⟨k, v⟩ := p
      rw [envL_cons]
      split
      · rename_i hj; subst hj; exact .inr (hl (j, v) (by simp)).symm
      · exact ih fun p hp => hl p (by simp [hp])
  rcases key l hl with e | e
  · show Rel S m I w (envL l j) _
    rw [e]; exact .undef _
  · show Rel S m I w (envL l j) _
    rw [e]; exact hfr.env j

theorem WP.loopJ {r : Option Nat} {N b : Nat} {x : IC} {Q : Exit → St → Prop} {st : St} {α : Type} (L : α → List (Nat × AV)) (J : α → List Entry → Prop) (μ : α → Nat) (a : α) (ha : ∀ p ∈ L a, st.env p.1 = p.2) (hj : J a st.H)
    (h : ∀ a H, J a H → WP S r N b x (thenQ (fun st' => ∃ a', J a' st'.H ∧ μ a' < μ a ∧ ∀ p ∈ L a', st'.env p.1 = p.2) Q) ⟨envL (L a), H⟩) : WP S r N b (.loop x) Q st := by
  refine WP.loop (fun n st => ∃ a, J a st.H ∧ μ a = n ∧ ∀ p ∈ L a, st.env p.1 = p.2) (n := μ a) ⟨a, hj, rfl, ha⟩ ?_
  rintro n st ⟨a, hj, rfl, hl⟩
  refine WP.slots hl (WP.mono (h a st.H hj) fun e st' hq => ?_)
  cases e with
  | normal =>
    obtain ⟨a', h1, h2, h3⟩ := hq
    exact ⟨μ a', h2, a', h1, rfl, h3⟩
  | _ => exact hq

theorem ACall.adopt {c : Nat} {args : List AV} {H : List Entry} {R R' : AV → List Entry → Prop} (sz : Nat) (h : ACall S c args H R)
    (hR : ∀ r H', R r H' → (r = .list true [] ∧ R' (.own H'.length 0 0 0) (H' ++ [.arr sz 0 []])) ∨ R' r H') : ACall S c args H R' := by
  intro m I X w vs hs hv
  refine (h m I X w vs hs hv).mono ?_
  rintro e w' ⟨r, H', vv, m', I', h1, h2, h3, h4, h5, h6, h7⟩
  rcases hR r H' h2 with ⟨rfl, h8⟩ | h8
  · have hle := MLe.push m' ⟨0, 0, sz, 0, true⟩
    have hget : (m' ++ [(⟨0, 0, sz, 0, true⟩ : ME)])[H'.length]? = some ⟨0, 0, sz, 0, true⟩ := by
      rw [← h4.len, List.getElem?_append_right (Nat.le_refl _), Nat.sub_self]; rfl
    refine ⟨_, _, vv, m' ++ [⟨0, 0, sz, 0, true⟩], I', h1, h8, ?_, h4.push (fun _ _ => rfl) (Nat.le_refl _) (by simp) ⟨_, hget, rfl, rfl, by simp, by simp, by simp, .inl ⟨rfl, rfl⟩⟩, h5.trans hle, h6, h7⟩
    cases h3 with
    | empty _ a c ht hc =>
      have := ht rfl
      subst this
      exact .own _ _ _ _ _ _ hget (Nat.le_refl _) (fun _ => ⟨Nat.le_refl _, by simp, .inl ⟨rfl, rfl, a, rfl⟩⟩)
    | list _ _ b off n c sz rd hn hnc hcm ht hI hsz hc hr =>
      simp at hn; subst hn
      have := ht rfl
      subst this
      exact .own _ _ _ _ _ _ hget (Nat.le_refl _) (fun _ => ⟨Nat.le_refl _, by simp, .inl ⟨rfl, rfl, _, rfl⟩⟩)
  · exact ⟨r, H', vv, m', I', h1, h8, h3, h4, h5, h6, h7⟩

end Go.Proofs.YtihhinbjhiankaaGreatDoor.Al

set_option linter.unusedSimpArgs false
set_option linter.unusedVariables false
/- CLOSED CALLS: a call whose arguments name nothing that the caller made may be looked at in an empty heap. -/
namespace Go.Proofs.YtihhinbjhiankaaGreatDoor.Al
open Go
variable {S : Seat} {m m0 : List ME} {I I0 X X0 : Nat → Prop} {w w0 : World} {H : List Entry}

theorem hide_sound (hs : Sim S m I X w H) : Sim S [] I (fun b => X b ∨ Lives m H b) w [] := by
  refine ⟨rfl, fun id e he => by simp at he, fun id e g he => by simp at he, fun id id' e e' g g' he => by simp at he, fun b hb => ?_, fun b hi hx => ?_, hs.gl⟩
  · rcases hb with hb | hb | ⟨id, e, g, he, hl, hg, hn, rfl⟩
    · exact hs.lt b (.inl hb)
    · exact hs.lt b (.inr hb)
    · exact hs.blk_lt he hl hg hn
  · rcases hx with hx | ⟨id, e, g, he, hl, hg, hn, rfl⟩
    · exact hs.disj b hi hx
    · exact (hs.sep id e g he hl hg hn).1 hi

theorem unhide_sound {I' : Nat → Prop} {w' : World} {m' : List ME} {H' : List Entry} (hs : Sim S m I X w H) (hs' : Sim S m' I' (fun b => X b ∨ Lives m H b) w' H') (hI : ∀ b, I b → I' b) (hx : Ext I (fun b => X b ∨ Lives m H b) w w') : Sim S m I' X w' H := by
  refine ⟨hs.len, fun id e he => ?_, fun id e g he hl hg hn => ?_, hs.inj, fun b hb => ?_, fun b hi hb => hs'.disj b hi (.inl hb), hs'.gl⟩
  · exact (hs.hok id e he).keep (.refl m) hI (fun b hb => hx.keep b (.inl hb)) rfl (fun g hg hn hl => hx.keep _ (.inr (.inr ⟨id, e, g, he, hl, hg, hn, rfl⟩)))
  · exact ⟨fun hi => hs'.disj _ hi (.inr ⟨id, e, g, he, hl, hg, hn, rfl⟩), (hs.sep id e g he hl hg hn).2⟩
  · rcases hb with hb | hb
    · exact hs'.lt b (.inl hb)
    · exact hs'.lt b (.inr (.inl hb))

theorem Rels.closed {args : List AV} {vs : Array Value} (hv : Rels S m I w args vs) (ha : ∀ x ∈ args, Idb 0 x) : Rels S [] I w args vs :=
  ⟨hv.1, fun i x hx => by have := (hv.2 i x hx).take (ha x (List.mem_of_getElem? hx)); rwa [List.take_zero] at this⟩

theorem MLe.nil (m : List ME) : MLe [] m := fun id e he => by simp at he

theorem Fun.zero {c : Nat} {args : List AV} {r : AV} (ha : ∀ x ∈ args, Idb 0 x) (hr : Idb 0 r) (h : ACall S c args [] fun r' _ => r' = r) : Fun S c args r := by
  intro H m I X w vs hs hv
  refine (h [] I _ w vs (hide_sound hs) (hv.closed ha)).mono ?_
  rintro e w' ⟨r', H', vv, m', I', h1, rfl, h3, h4, h5, h6, h7⟩
  refine ⟨_, _, vv, m, I', h1, ⟨rfl, rfl⟩, ?_, unhide_sound hs h4 h6 h7, .refl m, h6, ⟨h7.os, h7.tape, h7.output, h7.size, fun b hb => h7.keep b (hb.imp id .inl)⟩⟩
  have := h3.take hr
  rw [List.take_zero] at this
  exact this.mono (MLe.nil m) (fun _ hb => hb) (fun _ _ => rfl)

theorem FunOwn.zero {c : Nat} {args : List AV} {sz : Nat} {xs : List AV} (ha : ∀ x ∈ args, Idb 0 x) (hx : ∀ x ∈ xs, ∀ y ∈ x.cells, Idb 0 y) (h : ACall S c args [] fun r H' => r = .own 0 0 0 xs.length ∧ H' = [.arr sz 0 xs]) : FunOwn S c args sz xs := by
  intro H m I X w vs hs hv
  refine (h [] I _ w vs (hide_sound hs) (hv.closed ha)).mono ?_
  rintro e w' ⟨r', H', vv, m', I', h1, ⟨rfl, rfl⟩, h3, h4, h5, h6, h7⟩
  have hun := unhide_sound hs h4 h6 h7
  obtain ⟨g, hg, r1, r0, r2, r3, r4, r5⟩ := h4.hok 0 (.arr sz 0 xs) rfl
  have hsep := h4.sep 0 (.arr sz 0 xs) g rfl rfl hg
  have hmg : (m ++ [g])[H.length]? = some g := by rw [← hs.len, List.getElem?_append_right (Nat.le_refl _), Nat.sub_self]; rfl
  refine ⟨_, _, vv, m ++ [g], I', h1, ⟨rfl, rfl⟩, ?_, hun.add ?_ ?_, MLe.push m g, h6, ⟨h7.os, h7.tape, h7.output, h7.size, fun b hb => h7.keep b (hb.imp id .inl)⟩⟩
  · cases h3 with
    | own _ _ _ _ e2 _ he2 hver hrel =>
      rw [hg] at he2; cases he2
      exact .own _ _ _ _ g _ hmg hver hrel
  · refine ⟨g, hmg, r1, r0, r2, r3, r4, ?_⟩
    rcases r5 with r5 | ⟨r5, arr, T, ha, hsz, hc⟩
    · exact .inl r5
    · refine .inr ⟨r5, arr, T, ha, hsz, fun i x hi j y hy => ?_⟩
      have := (hc i x hi j y hy).take (hx x (List.mem_of_getElem? hi) y (List.mem_of_getElem? hy))
      rw [List.take_zero] at this
      exact this.mono (MLe.nil _) (fun _ hb => hb) (fun _ _ => rfl)
  · intro hn
    obtain ⟨n1, n2⟩ := hsep hn
    exact ⟨n1, fun hx => n2 (.inl hx), fun hl => n2 (.inr hl)⟩

theorem fresh_zero : fresh 0 = all := by funext i; simp [fresh, all]

def bd : Nat → AV → Prop
  | 0, _ => True
  | k + 1, v => match v with
    | .list _ xs => xs.length ≤ 9223372036854775807 ∧ ∀ x ∈ xs, bd k x
    | .agg cs => ∀ x ∈ cs, bd k x
    | _ => True

theorem bd_cells {k : Nat} {x : AV} (h : ∀ y ∈ x.cells, bd (k + 1) y) : bd (k + 1) x := by
  cases x with
  | agg cs =>
    have key : ∀ (k : Nat) (y : AV), bd (k + 1) y → bd k y := by
      intro k
      induction k with
      | zero => intros; trivial
      | succ k ih =>
        intro y hy
        cases y with
        | list t xs => exact ⟨hy.1, fun x hx => ih x (hy.2 x hx)⟩
        | agg cs => exact fun x hx => ih x (hy x hx)
        | _ => trivial
    exact fun y hy => key k y (h y hy)
  | _ => exact h _ (by simp [AV.cells])

theorem Rel.bd {x : AV} {v : Value} (h : Rel S m I w x v) : ∀ k, bd k x := by
  induction h with
  | empty => intro k; cases k <;> simp [Al.bd]
  | list t xs b off n c sz rd hn hnc hcm ht hI hsz hc hr ih =>
    intro k
    cases k with
    | zero => trivial
    | succ k =>
      refine ⟨by omega, fun x hx => ?_⟩
      cases k with
      | zero => trivial
      | succ k =>
        refine bd_cells fun y hy => ?_
        obtain ⟨i, hi⟩ := List.getElem?_of_mem hx
        obtain ⟨j, hj⟩ := List.getElem?_of_mem hy
        exact ih i x hi j y hj (k + 1)
  | agg cs vs hs h ih =>
    intro k
    cases k with
    | zero => trivial
    | succ k =>
      intro x hx
      obtain ⟨i, hi⟩ := List.getElem?_of_mem hx
      exact ih i x hi k
  | _ => intro k; cases k <;> trivial

theorem ACall.bd {c : Nat} {args : List AV} {R : AV → List Entry → Prop} (h : (∀ x ∈ args, ∀ k, Al.bd k x) → ACall S c args H R) : ACall S c args H R := by
  intro m I X w vs hs hv
  refine h (fun x hx k => ?_) m I X w vs hs hv
  obtain ⟨i, hi⟩ := List.getElem?_of_mem hx
  exact (hv.2 i _ hi).bd k

theorem Fun.bd {c : Nat} {args : List AV} {r : AV} (h : (∀ x ∈ args, ∀ k, Al.bd k x) → Fun S c args r) : Fun S c args r := fun H => ACall.bd fun hb => h hb H
theorem Fun.of0 {c : Nat} {f : IFn} (ht : trFn S c = some f) {args : List AV} {r : AV} (hn : args.length ≤ f.N) (ha : ∀ x ∈ args, Idb 0 x) (hr : Idb 0 r) (k : Nat)
    (h : wpc S [] none f.N 0 f.body (leaves f.res fun r' H' => canon H' k r' = r) ⟨envL (args.zipIdx.map fun p => (p.2, p.1)), []⟩) : Fun S c args r := by
  refine Fun.zero ha hr (ACall.out k (R := fun r' H' => canon H' k r' = r) (ACall.of_wp ht hn (wpc_sound ?_)) ?_)
  · rw [start_env]; exact h
  · intro r' H' h1
    simp only [List.length_nil, fresh_zero]
    have h2 : derefN (freezeP all H') k r' = r := h1
    exact ⟨by simp, by rw [h2]; exact hr, h2⟩

theorem Fun.of0R (T : List (Reg S)) {c : Nat} {f : IFn} (ht : trFn S c = some f) {args : List AV} {r : AV} (hn : args.length ≤ f.N) (ha : ∀ x ∈ args, Idb 0 x) (hr : Idb 0 r) (k : Nat)
    (h : wpc S T none f.N 0 f.body (leaves f.res fun r' H' => canon H' k r' = r) ⟨envL (args.zipIdx.map fun p => (p.2, p.1)), []⟩) : Fun S c args r := by
  refine Fun.zero ha hr (ACall.out k (R := fun r' H' => canon H' k r' = r) (ACall.of_wp ht hn (wpc_soundR T ?_)) ?_)
  · rw [start_env]; exact h
  · intro r' H' h1
    simp only [List.length_nil, fresh_zero]
    have h2 : derefN (freezeP all H') k r' = r := h1
    exact ⟨by simp, by rw [h2]; exact hr, h2⟩

theorem FunOwn.of0 {c : Nat} {f : IFn} (ht : trFn S c = some f) {args : List AV} {sz : Nat} {xs : List AV} (hn : args.length ≤ f.N) (ha : ∀ x ∈ args, Idb 0 x) (hx : ∀ x ∈ xs, ∀ y ∈ x.cells, Idb 0 y)
    (h : wpc S [] none f.N 0 f.body (leaves f.res fun r H' => ∃ id ver, r = .own id ver 0 xs.length ∧ H'[id]? = some (.arr sz ver xs)) ⟨envL (args.zipIdx.map fun p => (p.2, p.1)), []⟩) : FunOwn S c args sz xs := by
  refine FunOwn.zero ha hx (ACall.outOwn 0 (R := fun r H' => ∃ id ver, r = .own id ver 0 xs.length ∧ H'[id]? = some (.arr sz ver xs)) (ACall.of_wp ht hn (wpc_sound ?_)) ?_)
  · rw [start_env]; exact h
  · rintro r H' ⟨id, ver, rfl, h2⟩
    have hm : ∀ G : List Entry, xs.map (derefN G 0) = xs := fun G => by
      have : derefN G 0 = fun x => x := by funext x; rfl
      rw [this]; simp
    exact ⟨by simp, id, ver, sz, xs, by simp, Nat.zero_le _, h2, fun x hx' y hy => hx x hx' y hy, by simp, by rw [hm]; rfl⟩

theorem FunOwn.of0R (T : List (Reg S)) {c : Nat} {f : IFn} (ht : trFn S c = some f) {args : List AV} {sz : Nat} {xs : List AV} (hn : args.length ≤ f.N) (ha : ∀ x ∈ args, Idb 0 x) (hx : ∀ x ∈ xs, ∀ y ∈ x.cells, Idb 0 y)
    (h : wpc S T none f.N 0 f.body (leaves f.res fun r H' => ∃ id ver, r = .own id ver 0 xs.length ∧ H'[id]? = some (.arr sz ver xs)) ⟨envL (args.zipIdx.map fun p => (p.2, p.1)), []⟩) : FunOwn S c args sz xs := by
  refine FunOwn.zero ha hx (ACall.outOwn 0 (R := fun r H' => ∃ id ver, r = .own id ver 0 xs.length ∧ H'[id]? = some (.arr sz ver xs)) (ACall.of_wp ht hn (wpc_soundR T ?_)) ?_)
  · rw [start_env]; exact h
  · rintro r H' ⟨id, ver, rfl, h2⟩
    have hm : ∀ G : List Entry, xs.map (derefN G 0) = xs := fun G => by
      have : derefN G 0 = fun x => x := by funext x; rfl
      rw [this]; simp
    exact ⟨by simp, id, ver, sz, xs, by simp, Nat.zero_le _, h2, fun x hx' y hy => hx x hx' y hy, by simp, by rw [hm]; rfl⟩

/-! ### Calls within a body -/
theorem Callee.f {c : Nat} {f : IFn} {args : List AV} {r : AV} {K : AV → List Entry → Prop} (ht : trFn S c = some f) (h : Fun S c args r) (k : K r H) : Callee S (.func (.f c) [] []) args H K :=
  Callee.plain (Callable.of ht) (h H) (by rintro _ _ ⟨rfl, rfl⟩; exact k)
theorem Callee.own {c : Nat} {f : IFn} {args : List AV} {sz : Nat} {xs : List AV} {K : AV → List Entry → Prop} (ht : trFn S c = some f) (h : FunOwn S c args sz xs) (k : K (.own H.length 0 0 xs.length) (H ++ [.arr sz 0 xs])) : Callee S (.func (.f c) [] []) args H K :=
  Callee.plain (Callable.of ht) (h H) (by rintro _ _ ⟨rfl, rfl⟩; exact k)
theorem Callee.lend {c : Nat} {f : IFn} {args : List AV} {r : AV} {K : AV → List Entry → Prop} (n : Nat) (ht : trFn S c = some f) (h : Fun S c (args.map (canon H n)) r) (hp : Plain r) (k : K r H) : Callee S (.func (.f c) [] []) args H K :=
  Callee.plain (Callable.of ht) (ACall.lend n h hp) (by rintro _ _ ⟨rfl, rfl⟩; exact k)
theorem Callee.c {c : Nat} {f : IFn} {first captured args : List AV} {r : AV} {K : AV → List Entry → Prop} (ht : trFn S c = some f) (h : Fun S c (first ++ args ++ captured) r) (k : K r H) : Callee S (.func (.f c) first captured) args H K :=
  Callee.fn (Callable.of ht) (h H) (by rintro _ _ ⟨rfl, rfl⟩; exact k)

/-! ### A box that is written no more -/
theorem Sim.sealB (hs : Sim S m I X w H) {id : Nat} {cs : List AV} {e : ME} (hH : H[id]? = some (.box cs)) (h1 : m[id]? = some e) :
    Sim S m (fun b => I b ∨ b = e.blk) X w (H.set id .dead) ∧ ∃ rd : Nat → Value, (∀ j y, cs[j]? = some y → w.cell? ⟨e.blk, 0 + j, none⟩ = some (rd j)) ∧ ∀ j y, cs[j]? = some y → Rel S m (fun b => I b ∨ b = e.blk) w y (rd j) := by
  obtain ⟨e', arr, T, h1', h2, h3, h4, h5⟩ := hs.hok id _ hH
  rw [h1] at h1'; cases h1'
  have hlt := heap_lt h4
  have hsep := hs.sep id _ e hH rfl h1 h3
  have hget : ∀ {j : Nat} {x : Entry}, (H.set id .dead)[j]? = some x → x.live = true → j ≠ id ∧ H[j]? = some x := by
    intro j x hj hl
    by_cases h : j = id
    · subst h
      rw [List.getElem?_set_self (lt_of_get hH)] at hj
      cases hj; cases hl
    · rw [List.getElem?_set_ne (Ne.symm h)] at hj; exact ⟨h, hj⟩
  refine ⟨⟨by simp [hs.len], fun j x hj => ?_, fun j x g hj hl hg hn => ?_, fun j j' x x' g g' hj hl hj' hl' hg hg' hn hn' hb => ?_, fun b hb => ?_, fun b hi hx => ?_, hs.gl.mono (fun _ hb => .inl hb) fun _ _ => rfl⟩, fun j => arr.getD j undef, fun j y hy => ?_, fun j y hy => ?_⟩
  · by_cases h : j = id
    · subst h
      rw [List.getElem?_set_self (lt_of_get hH)] at hj
      cases hj; trivial
    · rw [List.getElem?_set_ne (Ne.symm h)] at hj
      exact (hs.hok j x hj).keep (.refl m) (fun _ hb => .inl hb) (fun _ _ => rfl) rfl (fun _ _ _ _ => rfl)
  · obtain ⟨hne, hj'⟩ := hget hj hl
    refine ⟨?_, (hs.sep j x g hj' hl hg hn).2⟩
    rintro (hi | hb)
    · exact (hs.sep j x g hj' hl hg hn).1 hi
    · exact hne (hs.inj j id x _ g e hj' hl hH rfl hg h1 hn h3 hb)
  · exact hs.inj j j' x x' g g' (hget hj hl).2 hl (hget hj' hl').2 hl' hg hg' hn hn' hb
  · rcases hb with (hb | rfl) | hb
    · exact hs.lt b (.inl hb)
    · exact hlt
    · exact hs.lt b (.inr hb)
  · rcases hi with hi | rfl
    · exact hs.disj b hi hx
    · exact hsep.2 hx
  · have hj : j < arr.size := by rw [h5.1]; exact lt_of_get hy
    simp [World.cell?, h4, hj]
  · exact (h5.2 j y hy).mono (.refl m) (fun _ hb => .inl hb) (fun _ _ => rfl)

theorem WP.sealB {r : Option Nat} {N b : Nat} {ic : IC} {Q : Exit → St → Prop} {env : Env} (d id : Nat) {cs : List AV} (hd : env d = .ptr id 0) (hH : H[id]? = some (.box cs))
    (h : WP S r N b ic Q ⟨upd env d (.iptr cs 0), H.set id .dead⟩) : WP S r N b ic Q ⟨env, H⟩ := by
  refine WP.ghost ?_ h
  intro m I X w n0 a hs hfr
  have hrel : Rel S m I w (env d) (a.tmps.getD d undef) := hfr.env d
  rw [hd] at hrel
  generalize hv : a.tmps.getD d undef = v at hrel
  cases hrel with
  | ptr _ _ e _ he h0 =>
    obtain ⟨e', arr, T, h1, h2, h3, h4, h5⟩ := hs.hok id _ hH
    rw [he] at h1; cases h1
    obtain ⟨hs', rd, hc, hr⟩ := hs.sealB hH he
    have := h0 h2
    subst this
    refine ⟨m, _, .refl m, fun _ hb => .inl hb, hs', (hfr.mono (.refl m) (fun _ hb => .inl hb) (.refl I X w)).upd_rel ?_⟩
    rw [hv]
    have := Rel.iptr (S := S) (m := m) (I := fun b => I b ∨ b = e.blk) (w := w) cs 0 e.blk 0 rd (.inr rfl) hc hr
    exact this

end Go.Proofs.YtihhinbjhiankaaGreatDoor.Al

/- ROWS OF ONE KIND: elements that are told by Lean values; what the operations answer of such rows. -/
namespace Go.Proofs.YtihhinbjhiankaaGreatDoor.Al
open Go

structure Enc (α : Type) where
  f : α → AV
  sz : Nat
  pos : 0 < sz
  cells : ∀ a, (f a).cells.length = sz
  one : ∀ a H, (f a).cells.all (AV.oneIn H) = true
  idb : ∀ a, ∀ y ∈ (f a).cells, Idb 0 y
  norm : ∀ H k a, derefN H k (f a) = f a

variable {α : Type} (E : Enc α)

def Enc.row (l : List α) : AV := .list false (l.map E.f)

theorem Enc.idbE (a : α) : Idb 0 (E.f a) := by
  have h := E.idb a
  generalize E.f a = x at h
  cases x with
  | agg cs => exact .agg cs h
  | _ => exact h _ (by simp [AV.cells])

theorem Enc.idb_row (n : Nat) (l : List α) : Idb n (E.row l) := by
  refine .list _ _ fun x hx y hy => ?_
  obtain ⟨z, _, rfl⟩ := List.mem_map.1 hx
  exact (E.idb z y hy).more (Nat.zero_le _)
theorem Enc.entB (n ver sz : Nat) (l : List α) : EntB n (.arr sz ver (l.map E.f)) := by
  intro x hx y hy
  obtain ⟨z, _, rfl⟩ := List.mem_map.1 hx
  exact (E.idb z y hy).more (Nat.zero_le _)
theorem Enc.xs_idb (l : List α) : ∀ x ∈ l.map E.f, ∀ y ∈ x.cells, Idb 0 y := by
  intro x hx y hy
  obtain ⟨z, _, rfl⟩ := List.mem_map.1 hx
  exact E.idb z y hy
theorem Enc.szOk (H : List Entry) (l : List α) : szOk H E.sz (l.map E.f) = true := by
  simp only [Al.szOk, List.all_map, List.all_eq_true, Function.comp, Bool.and_eq_true, beq_iff_eq]
  intro x _
  exact ⟨E.cells x, by have := E.one x H; rw [List.all_eq_true] at this; exact this⟩
theorem Enc.szOk1 (H : List Entry) (x : α) : Al.szOk H E.sz [E.f x] = true := E.szOk H [x]
theorem Enc.lenOk (l : List α) : lenOk E.sz (l.map E.f) = true := by
  simp only [Al.lenOk, List.all_map, List.all_eq_true, Function.comp, beq_iff_eq]
  intro x _; exact E.cells x
theorem Enc.rowLen (H : List Entry) (l : List α) : rowLen H (E.row l) = some l.length := by simp [Enc.row, Al.rowLen]
theorem Enc.index (H : List Entry) (l : List α) (k : Nat) (h : k < l.length) : evIndex H E.sz (E.row l) (.int .i64 (k : Int)) = some (.iptr (E.f l[k]).cells 0) := by
  simp [Enc.row, evIndex, h, E.cells]
theorem Enc.sliceF (H : List Entry) (l : List α) (a : Int) (h0 : 0 ≤ a) (h : a.toNat ≤ l.length) : evSlice H E.sz (E.row l) (some (.int .i64 a)) none none = some (E.row (l.drop a.toNat)) := by
  simp [Enc.row, evSlice, evBound, h0, h, E.lenOk, List.map_drop, List.take_of_length_le]
theorem Enc.sliceT (H : List Entry) (l : List α) (b : Int) (h0 : 0 ≤ b) (h : b.toNat ≤ l.length) : evSlice H E.sz (E.row l) none (some (.int .i64 b)) none = some (E.row (l.take b.toNat)) := by
  simp [Enc.row, evSlice, evBound, h0, h, E.lenOk, List.map_take]
theorem Enc.sliceFT (H : List Entry) (l : List α) (a b : Int) (h0 : 0 ≤ a) (h1 : a ≤ b) (h : b.toNat ≤ l.length) : evSlice H E.sz (E.row l) (some (.int .i64 a)) (some (.int .i64 b)) none = some (E.row ((l.take b.toNat).drop a.toNat)) := by
  have hb : 0 ≤ b := by omega
  have hab : a.toNat ≤ b.toNat := by omega
  simp [Enc.row, evSlice, evBound, h0, h, hb, hab, E.lenOk, List.map_take, List.map_drop]
theorem Enc.sliceTT (H : List Entry) (l : List α) (b : Int) (h0 : 0 ≤ b) (h : b.toNat ≤ l.length) : evSlice H E.sz (E.row l) none (some (.int .i64 b)) (some (.int .i64 b)) = some (.list true ((l.take b.toNat).map E.f)) := by
  simp [Enc.row, evSlice, evBound, h0, h, E.lenOk, List.map_take]
theorem Enc.norm_row (H : List Entry) (k : Nat) (l : List α) : derefN H k (E.row l) = E.row l := by
  cases k with
  | zero => rfl
  | succ k =>
    simp only [Enc.row, derefN, List.map_map]
    congr 1
    apply List.map_congr_left
    intro a _
    exact E.norm H k a
theorem Enc.norm_tight (H : List Entry) (k : Nat) (t : Bool) (l : List α) : derefN H (k + 1) (.list t (l.map E.f)) = E.row l := by
  simp only [Enc.row, derefN, List.map_map]
  congr 1
  apply List.map_congr_left
  intro a _
  exact E.norm H k a
theorem Enc.canon_row (H : List Entry) (k : Nat) (l : List α) : canon H k (E.row l) = E.row l := E.norm_row _ k l
theorem Enc.canon_tight (H : List Entry) (k : Nat) (t : Bool) (l : List α) : canon H (k + 1) (.list t (l.map E.f)) = E.row l := E.norm_tight _ k t l
theorem Enc.canon_own {H : List Entry} {id sz ver lo hi : Nat} {l : List α} (h : H[id]? = some (.arr sz ver (l.map E.f))) (hhi : hi ≤ l.length) (k : Nat) : canon H (k + 1) (.own id ver lo hi) = E.row ((l.take hi).drop lo) := by
  simp only [canon, derefN, freezeP_get, h, Option.map_some, all, if_true, Entry.frzE]
  rw [if_pos ⟨trivial, by simpa using hhi⟩, ← List.map_take, ← List.map_drop, List.map_map, Enc.row]
  congr 1
  apply List.map_congr_left
  intro a _
  exact E.norm _ k a
theorem Enc.canon_own_all {H : List Entry} {id sz ver : Nat} {l : List α} (h : H[id]? = some (.arr sz ver (l.map E.f))) (k : Nat) : canon H (k + 1) (.own id ver 0 l.length) = E.row l := by
  rw [E.canon_own h (Nat.le_refl _)]; simp
theorem Enc.rowLen_own {H : List Entry} {id sz ver lo hi : Nat} {l : List α} (h : H[id]? = some (.arr sz ver (l.map E.f))) : Al.rowLen H (.own id ver lo hi) = some (hi - lo) := by
  simp [Al.rowLen, AV.oneIn, h]
theorem Enc.index_own {H : List Entry} {id ver k : Nat} {l : List α} (h : H[id]? = some (.arr E.sz ver (l.map E.f))) (hk : k < l.length) : evIndex H E.sz (.own id ver 0 l.length) (.int .i64 (k : Int)) = some (.eptr id ver k 0) := by
  simp [evIndex, h, hk]
theorem Enc.app_own {H : List Entry} {id ver bytes : Nat} {l : List α} {x : α} (h : H[id]? = some (.arr E.sz ver (l.map E.f))) (hl : l.length + 1 ≤ maxRow) (hb : bytes ≤ 4096) :
    evAppend H E.sz bytes (.own id ver 0 l.length) [E.f x] = some (.own id (ver + 1) 0 (l ++ [x]).length, H.set id (.arr E.sz (ver + 1) ((l ++ [x]).map E.f))) := by
  rw [Al.app_own h (by simp) (by simpa using hl) hb E.pos (by simp) (E.szOk1 H x), List.take_of_length_le (by simp)]
  simp
theorem Enc.app_owns {H : List Entry} {id ver bytes : Nat} {l ys : List α} (h : H[id]? = some (.arr E.sz ver (l.map E.f))) (hl : l.length + ys.length ≤ maxRow) (hb : bytes ≤ 4096) (hy : ys ≠ []) :
    evAppend H E.sz bytes (.own id ver 0 l.length) (ys.map E.f) = some (.own id (ver + 1) 0 (l ++ ys).length, H.set id (.arr E.sz (ver + 1) ((l ++ ys).map E.f))) := by
  rw [Al.app_own h (by simp) (by simpa using hl) hb E.pos (by simpa using hy) (E.szOk H ys)]
  rw [List.take_of_length_le (by simp)]
  simp
theorem Enc.app_any {H : List Entry} {id ver bytes : Nat} {l ys : List α} (h : H[id]? = some (.arr E.sz ver (l.map E.f))) (hl : l.length + ys.length ≤ maxRow) (hb : bytes ≤ 4096) :
    ∃ v, evAppend H E.sz bytes (.own id ver 0 l.length) (ys.map E.f) = some (.own id v 0 (l ++ ys).length, H.set id (.arr E.sz v ((l ++ ys).map E.f))) := by
  by_cases hy : ys = []
  · subst hy
    refine ⟨ver, ?_⟩
    have hs : H.set id (.arr E.sz ver (l.map E.f)) = H := by
      apply List.ext_getElem?
      intro i
      by_cases hi : i = id
      · subst hi; rw [List.getElem?_set_self (lt_of_get h), h]
      · rw [List.getElem?_set_ne (Ne.symm hi)]
    simp [evAppend, AV.oneIn, h, hs]
  · exact ⟨_, E.app_owns h hl hb hy⟩
theorem Enc.bd_len {l : List α} {t : Bool} {args : List AV} (hb : ∀ x ∈ args, ∀ k, bd k x) (h : AV.list t (l.map E.f) ∈ args) : l.length ≤ 9223372036854775807 := by
  have := (hb _ h 1).1
  simpa using this

/-! ### Loops, states told by slots and a heap -/
theorem WP.loopG {S : Seat} {r : Option Nat} {N b : Nat} {x : IC} {Q : Exit → St → Prop} {st : St} {α : Type} (P : α → Prop) (L : α → List (Nat × AV)) (G : α → List Entry) (μ : α → Nat) (a : α) (ha : P a)
    (hc : ∀ a, P a → b ≤ (G a).length ∧ (∀ p ∈ L a, Idb (G a).length p.2) ∧ ∀ e ∈ G a, EntB (G a).length e)
    (hst : (∀ p ∈ L a, st.env p.1 = p.2) ∧ st.H.take (G a).length = G a)
    (h : ∀ a, P a → WP S r N b x (thenQ (fun st' => ∃ a', P a' ∧ μ a' < μ a ∧ (∀ p ∈ L a', st'.env p.1 = p.2) ∧ st'.H.take (G a').length = G a') Q) ⟨envL (L a), G a⟩) : WP S r N b (.loop x) Q st := by
  have wf : ∀ a, P a → Wf (G a) := fun a ha id e he => (hc a ha).2.2 e (List.mem_of_getElem? he)
  refine WP.loopF P (fun a => ⟨envL (L a), G a⟩) μ a ha (Fits.of hst.1 (hc a ha).2.1 hst.2 (wf a ha)) (fun a ha => (hc a ha).1) fun a ha => (h a ha).mono fun e st' hq => ?_
  cases e with
  | normal =>
    obtain ⟨a', h1, h2, h3, h4⟩ := hq
    exact ⟨a', h1, h2, Fits.of h3 (hc a' h1).2.1 h4 (wf a' h1)⟩
  | _ => exact hq

theorem WP.loop0 {S : Seat} {r : Option Nat} {N : Nat} {x : IC} {Q : Exit → St → Prop} {st : St} {α : Type} (P : α → Prop) (L : α → List (Nat × AV)) (μ : α → Nat) (a : α) (ha : P a)
    (hc : ∀ a, P a → ∀ p ∈ L a, Idb 0 p.2) (hst : ∀ p ∈ L a, st.env p.1 = p.2)
    (h : ∀ a, P a → WP S r N 0 x (thenQ (fun st' => ∃ a', P a' ∧ μ a' < μ a ∧ ∀ p ∈ L a', st'.env p.1 = p.2) Q) ⟨envL (L a), []⟩) : WP S r N 0 (.loop x) Q st := by
  refine WP.loopG P L (fun _ => []) μ a ha (fun a ha => ⟨Nat.le_refl _, hc a ha, by simp⟩) ⟨hst, by simp⟩ fun a ha => (h a ha).mono fun e st' hq => ?_
  cases e with
  | normal =>
    obtain ⟨a', h1, h2, h3⟩ := hq
    exact ⟨a', h1, h2, h3, by simp⟩
  | _ => exact hq

end Go.Proofs.YtihhinbjhiankaaGreatDoor.Al

/- ROWS OF NUMBERS, OCTETS, NODES: the rules by their names. Printed by wip/tools/enc.py. -/
namespace Go.Proofs.YtihhinbjhiankaaGreatDoor.Al
open Go

def octs (l : List Int) : AV := .list false (l.map (AV.int .u8))
structure Leaf where
  enc : List Int
  cred : List Int
  source : Int
  parent : List Int
deriving DecidableEq
structure Inner where
  enc : List Int
  hash : List Int
  unmerged : List Int
deriving DecidableEq
structure Node where
  kind : Int
  leaf : Leaf
  inner : Inner
deriving DecidableEq

def Leaf.cells (l : Leaf) : List AV := [octs l.enc, octs l.cred, .int .i64 l.source, octs l.parent]
def Inner.cells (n : Inner) : List AV := [octs n.enc, octs n.hash, ints n.unmerged]
def Node.cells (n : Node) : List AV := [.int .i64 n.kind, octs n.leaf.enc, octs n.leaf.cred, .int .i64 n.leaf.source, octs n.leaf.parent, octs n.inner.enc, octs n.inner.hash, ints n.inner.unmerged]
def leafA (l : Leaf) : AV := .agg l.cells
def innerA (l : Inner) : AV := .agg l.cells
def nodeA (l : Node) : AV := .agg l.cells
def nodes (l : List Node) : AV := .list false (l.map nodeA)

def encI64 : Enc Int where
  f := AV.int .i64
  sz := 1
  pos := by decide
  cells := fun _ => rfl
  one := fun _ _ => rfl
  idb := fun a y hy => by simp [AV.cells] at hy; subst hy; exact .int _ _
  norm := fun H k a => by cases k <;> rfl
def encU8 : Enc Int where
  f := AV.int .u8
  sz := 1
  pos := by decide
  cells := fun _ => rfl
  one := fun _ _ => rfl
  idb := fun a y hy => by simp [AV.cells] at hy; subst hy; exact .int _ _
  norm := fun H k a => by cases k <;> rfl
theorem idb_octs (n : Nat) (l : List Int) : Idb n (octs l) = True := eq_true (encU8.idb_row n l)
def encOcts : Enc (List Int) where
  f := octs
  sz := 1
  pos := by decide
  cells := fun _ => rfl
  one := fun _ _ => rfl
  idb := fun a y hy => by simp [AV.cells, octs] at hy; subst hy; exact encU8.idb_row 0 a
  norm := fun H k a => encU8.norm_row H k a
theorem norm_ints (H : List Entry) (k : Nat) (l : List Int) : derefN H k (ints l) = ints l := encI64.norm_row H k l
theorem norm_octs (H : List Entry) (k : Nat) (l : List Int) : derefN H k (octs l) = octs l := encU8.norm_row H k l
theorem norm_int (H : List Entry) (k : Nat) (t : IntKind) (l : Int) : derefN H k (.int t l) = .int t l := by cases k <;> rfl
theorem norm_bool (H : List Entry) (k : Nat) (b : Bool) : derefN H k (.bool b) = .bool b := by cases k <;> rfl
def encNode : Enc Node where
  f := nodeA
  sz := 8
  pos := by decide
  cells := fun _ => rfl
  one := fun _ _ => rfl
  idb := fun a y hy => by
    simp only [nodeA, AV.cells, Node.cells, List.mem_cons, List.not_mem_nil, or_false] at hy
    rcases hy with rfl | rfl | rfl | rfl | rfl | rfl | rfl | rfl <;> first | exact .int _ _ | exact encU8.idb_row _ _ | exact encI64.idb_row _ _
  norm := fun H k a => by cases k <;> simp [nodeA, Node.cells, derefN, norm_ints, norm_octs, norm_int]
theorem idb_leafA (n : Nat) (l : Leaf) : Idb n (leafA l) = True := by
  refine eq_true (.agg _ fun x hx => ?_)
  simp only [Leaf.cells, List.mem_cons, List.not_mem_nil, or_false] at hx
  rcases hx with rfl | rfl | rfl | rfl <;> first | exact .int _ _ | exact encU8.idb_row _ _ | exact encI64.idb_row _ _
theorem idb_innerA (n : Nat) (l : Inner) : Idb n (innerA l) = True := by
  refine eq_true (.agg _ fun x hx => ?_)
  simp only [Inner.cells, List.mem_cons, List.not_mem_nil, or_false] at hx
  rcases hx with rfl | rfl | rfl <;> first | exact .int _ _ | exact encU8.idb_row _ _ | exact encI64.idb_row _ _
theorem idb_nodeA (n : Nat) (l : Node) : Idb n (nodeA l) = True := eq_true ((encNode.idbE l).more (Nat.zero_le _))
theorem idb_agg (n : Nat) (cs : List AV) : Idb n (.agg cs) = ∀ x ∈ cs, Idb n x := propext ⟨fun h => by cases h; assumption, fun h => .agg _ h⟩
theorem idb_tup (n : Nat) (cs : List AV) : Idb n (.tup cs) = ∀ x ∈ cs, Idb n x := propext ⟨fun h => by cases h; assumption, fun h => .tup _ h⟩
theorem idb_iptr (n : Nat) (cs : List AV) (o : Nat) : Idb n (.iptr cs o) = ∀ x ∈ cs, Idb n x := propext ⟨fun h => by cases h; assumption, fun h => .iptr _ _ h⟩
theorem idb_fn (n c : Nat) (a b : List AV) : Idb n (.func (.f c) a b) = ((∀ x ∈ a, Idb n x) ∧ ∀ x ∈ b, Idb n x) := propext ⟨fun h => by cases h; exact ⟨by assumption, by assumption⟩, fun h => .func _ _ _ h.1 h.2⟩
theorem entB_dead (n : Nat) : EntB n .dead = True := rfl
theorem entB_box (n : Nat) (cs : List AV) : EntB n (.box cs) = ∀ x ∈ cs, Idb n x := rfl
theorem canon_ptrI (H : List Entry) (k : Nat) (t : IntKind) (i : Int) : canon H k (.int t i) = .int t i := norm_int _ k t i
theorem canon_bool (H : List Entry) (k : Nat) (i : Bool) : canon H k (.bool i) = .bool i := norm_bool _ k i
theorem canon_tup (H : List Entry) (k : Nat) (vs : List AV) : canon H (k + 1) (.tup vs) = .tup (vs.map (canon H k)) := rfl
theorem canon_agg (H : List Entry) (k : Nat) (vs : List AV) : canon H (k + 1) (.agg vs) = .agg (vs.map (canon H k)) := rfl
theorem canon_ints' (H : List Entry) (k : Nat) (l : List (Int)) : canon H k (ints l) = ints l := encI64.canon_row H k l
theorem canon_ints0 {G : List Entry} {ver : Nat} {l : List (Int)} {k : Nat} : canon (.arr 1 ver (l.map (AV.int .i64)) :: G) (k + 1) (.own 0 ver 0 l.length) = ints l := encI64.canon_own_all rfl k
theorem rowLen_octs (H : List Entry) (l : List (Int)) : rowLen H (octs l) = some l.length := encU8.rowLen H l
theorem index_octs (H : List Entry) (l : List (Int)) (k : Nat) (h : k < l.length) : evIndex H 1 (octs l) (.int .i64 (k : Int)) = some (.iptr [.int .u8 l[k]] 0) := encU8.index H l k h
theorem seen_octs (H : List Entry) (l : List (Int)) : seen H (octs l) = some (l.map (AV.int .u8)) := rfl
theorem sliceF_octs (H : List Entry) (l : List (Int)) (a : Int) (h0 : 0 ≤ a) (h : a.toNat ≤ l.length) : evSlice H 1 (octs l) (some (.int .i64 a)) none none = some (octs (l.drop a.toNat)) := encU8.sliceF H l a h0 h
theorem sliceT_octs (H : List Entry) (l : List (Int)) (b : Int) (h0 : 0 ≤ b) (h : b.toNat ≤ l.length) : evSlice H 1 (octs l) none (some (.int .i64 b)) none = some (octs (l.take b.toNat)) := encU8.sliceT H l b h0 h
theorem sliceFT_octs (H : List Entry) (l : List (Int)) (a b : Int) (h0 : 0 ≤ a) (h1 : a ≤ b) (h : b.toNat ≤ l.length) : evSlice H 1 (octs l) (some (.int .i64 a)) (some (.int .i64 b)) none = some (octs ((l.take b.toNat).drop a.toNat)) := encU8.sliceFT H l a b h0 h1 h
theorem sliceTT_octs (H : List Entry) (l : List (Int)) (b : Int) (h0 : 0 ≤ b) (h : b.toNat ≤ l.length) : evSlice H 1 (octs l) none (some (.int .i64 b)) (some (.int .i64 b)) = some (.list true ((l.take b.toNat).map (AV.int .u8))) := encU8.sliceTT H l b h0 h
theorem canon_octs' (H : List Entry) (k : Nat) (l : List (Int)) : canon H k (octs l) = octs l := encU8.canon_row H k l
theorem rowLen_nodes (H : List Entry) (l : List (Node)) : rowLen H (nodes l) = some l.length := encNode.rowLen H l
theorem idb_nodes (n : Nat) (l : List (Node)) : Idb n (nodes l) = True := eq_true (encNode.idb_row n l)
theorem sliceT_nodes (H : List Entry) (l : List (Node)) (b : Int) (h0 : 0 ≤ b) (h : b.toNat ≤ l.length) : evSlice H 8 (nodes l) none (some (.int .i64 b)) none = some (nodes (l.take b.toNat)) := encNode.sliceT H l b h0 h
theorem canon_nodes' (H : List Entry) (k : Nat) (l : List (Node)) : canon H k (nodes l) = nodes l := encNode.canon_row H k l
theorem rowLen_nodes0 {G : List Entry} {ver : Nat} {l : List (Node)} {lo hi : Nat} : rowLen (.arr 8 ver (l.map (nodeA)) :: G) (.own 0 ver lo hi) = some (hi - lo) := encNode.rowLen_own rfl
theorem index_nodes0 {G : List Entry} {ver : Nat} {l : List (Node)} {k : Nat} (hk : k < l.length) : evIndex (.arr 8 ver (l.map (nodeA)) :: G) 8 (.own 0 ver 0 l.length) (.int .i64 (k : Int)) = some (.eptr 0 ver k 0) := encNode.index_own rfl hk
theorem rowLen_nodes3 {G : List Entry} {e0 e1 e2 : Entry} {ver : Nat} {l : List (Node)} {lo hi : Nat} : rowLen (e0 :: e1 :: e2 :: .arr 8 ver (l.map (nodeA)) :: G) (.own 3 ver lo hi) = some (hi - lo) := encNode.rowLen_own rfl
theorem index_nodes3 {G : List Entry} {e0 e1 e2 : Entry} {ver : Nat} {l : List (Node)} {k : Nat} (hk : k < l.length) : evIndex (e0 :: e1 :: e2 :: .arr 8 ver (l.map (nodeA)) :: G) 8 (.own 3 ver 0 l.length) (.int .i64 (k : Int)) = some (.eptr 3 ver k 0) := encNode.index_own rfl hk
theorem cells_int (k : IntKind) (i : Int) : AV.cells (.int k i) = [(.int k i)] := rfl
theorem oneIn_int (H : List Entry) (k : IntKind) (i : Int) : AV.oneIn H (.int k i) = true := rfl
theorem cells_bool (b : Bool) : AV.cells (.bool b) = [(.bool b)] := rfl
theorem oneIn_bool (H : List Entry) (b : Bool) : AV.oneIn H (.bool b) = true := rfl
theorem cells_list (t : Bool) (xs : List AV) : AV.cells (.list t xs) = [(.list t xs)] := rfl
theorem oneIn_list (H : List Entry) (t : Bool) (xs : List AV) : AV.oneIn H (.list t xs) = true := rfl
theorem cells_func (f : AFn) (a b : List AV) : AV.cells (.func f a b) = [(.func f a b)] := rfl
theorem oneIn_func (H : List Entry) (f : AFn) (a b : List AV) : AV.oneIn H (.func f a b) = true := rfl
theorem cells_own (i v a b : Nat) : AV.cells (.own i v a b) = [(.own i v a b)] := rfl
theorem cells_ptr (i o : Nat) : AV.cells (.ptr i o) = [(.ptr i o)] := rfl
theorem cells_agg (cs : List AV) : AV.cells (.agg cs) = cs := rfl
theorem oneIn_own0 {G : List Entry}  {sz ver a b : Nat} {xs : List AV} : AV.oneIn (.arr sz ver xs :: G) (.own 0 ver a b) = true := by simp [AV.oneIn]
theorem oneIn_own1 {G : List Entry} {e0 : Entry}  {sz ver a b : Nat} {xs : List AV} : AV.oneIn (e0 :: .arr sz ver xs :: G) (.own 1 ver a b) = true := by simp [AV.oneIn]
theorem seenL1 {G : List Entry} {e0 : Entry}  {sz ver : Nat} {x : AV} : seen (e0 :: .arr sz ver [x] :: G) (.own 1 ver 0 1) = some [x] := by simp [seen]
theorem seenM1 {G : List Entry} {e0 : Entry}  {sz ver : Nat} {x y : AV} : seen (e0 :: .arr sz ver [x, y] :: G) (.own 1 ver 0 2) = some [x, y] := by simp [seen]
theorem oneIn_ptr2 {G : List Entry} {e0 e1 : Entry}  {o : Nat} {xs : List AV} : AV.oneIn (e0 :: e1 :: .box xs :: G) (.ptr 2 o) = true := by simp [AV.oneIn]
theorem seenL2 {G : List Entry} {e0 e1 : Entry}  {sz ver : Nat} {x : AV} : seen (e0 :: e1 :: .arr sz ver [x] :: G) (.own 2 ver 0 1) = some [x] := by simp [seen]
theorem oneIn_own3 {G : List Entry} {e0 e1 e2 : Entry}  {sz ver a b : Nat} {xs : List AV} : AV.oneIn (e0 :: e1 :: e2 :: .arr sz ver xs :: G) (.own 3 ver a b) = true := by simp [AV.oneIn]
theorem seenL3 {G : List Entry} {e0 e1 e2 : Entry}  {sz ver : Nat} {x : AV} : seen (e0 :: e1 :: e2 :: .arr sz ver [x] :: G) (.own 3 ver 0 1) = some [x] := by simp [seen]
theorem seen_list (H : List Entry) (t : Bool) (l : List AV) : seen H (.list t l) = some l := rfl
theorem cells_ints (l : List (Int)) : (ints l).cells = [ints l] := rfl
theorem oneIn_ints (H : List Entry) (l : List (Int)) : (ints l).oneIn H = true := rfl
theorem cells_octs (l : List (Int)) : (octs l).cells = [octs l] := rfl
theorem oneIn_octs (H : List Entry) (l : List (Int)) : (octs l).oneIn H = true := rfl
theorem cells_nodes (l : List (Node)) : (nodes l).cells = [nodes l] := rfl
theorem oneIn_nodes (H : List Entry) (l : List (Node)) : (nodes l).oneIn H = true := rfl
theorem ldB0 {G : List Entry} {cs : List AV} {n off : Nat} : evLoad (.box cs :: G) false n (.ptr 0 off) = cs[off]? := rfl
theorem ldA0 {G : List Entry} {cs : List AV} {n off : Nat} : evLoad (.box cs :: G) true n (.ptr 0 off) = if off + n ≤ cs.length then some (.agg ((cs.drop off).take n)) else none := rfl
theorem adB0 {G : List Entry} {cs : List AV} {k off : Nat} : evAddr (.box cs :: G) k (.ptr 0 off) = some (.ptr 0 (off + k)) := rfl
theorem stB0 {G : List Entry} {cs : List AV} {n off : Nat} {v : AV} : evStore (.box cs :: G) n (.ptr 0 off) v = if v.cells.length = n ∧ 0 < n ∧ v.cells.all (AV.oneIn (.box cs :: G)) = true then (if off + n ≤ cs.length then some (((.box cs :: G) : List Entry).set 0 (.box (splice cs off v.cells))) else none) else none := rfl
theorem ldB1 {G : List Entry} {e0 : Entry} {cs : List AV} {n off : Nat} : evLoad (e0 :: .box cs :: G) false n (.ptr 1 off) = cs[off]? := rfl
theorem ldA1 {G : List Entry} {e0 : Entry} {cs : List AV} {n off : Nat} : evLoad (e0 :: .box cs :: G) true n (.ptr 1 off) = if off + n ≤ cs.length then some (.agg ((cs.drop off).take n)) else none := rfl
theorem adB1 {G : List Entry} {e0 : Entry} {cs : List AV} {k off : Nat} : evAddr (e0 :: .box cs :: G) k (.ptr 1 off) = some (.ptr 1 (off + k)) := rfl
theorem stB1 {G : List Entry} {e0 : Entry} {cs : List AV} {n off : Nat} {v : AV} : evStore (e0 :: .box cs :: G) n (.ptr 1 off) v = if v.cells.length = n ∧ 0 < n ∧ v.cells.all (AV.oneIn (e0 :: .box cs :: G)) = true then (if off + n ≤ cs.length then some (((e0 :: .box cs :: G) : List Entry).set 1 (.box (splice cs off v.cells))) else none) else none := rfl
theorem ldB2 {G : List Entry} {e0 e1 : Entry} {cs : List AV} {n off : Nat} : evLoad (e0 :: e1 :: .box cs :: G) false n (.ptr 2 off) = cs[off]? := rfl
theorem ldA2 {G : List Entry} {e0 e1 : Entry} {cs : List AV} {n off : Nat} : evLoad (e0 :: e1 :: .box cs :: G) true n (.ptr 2 off) = if off + n ≤ cs.length then some (.agg ((cs.drop off).take n)) else none := rfl
theorem adB2 {G : List Entry} {e0 e1 : Entry} {cs : List AV} {k off : Nat} : evAddr (e0 :: e1 :: .box cs :: G) k (.ptr 2 off) = some (.ptr 2 (off + k)) := rfl
theorem stB2 {G : List Entry} {e0 e1 : Entry} {cs : List AV} {n off : Nat} {v : AV} : evStore (e0 :: e1 :: .box cs :: G) n (.ptr 2 off) v = if v.cells.length = n ∧ 0 < n ∧ v.cells.all (AV.oneIn (e0 :: e1 :: .box cs :: G)) = true then (if off + n ≤ cs.length then some (((e0 :: e1 :: .box cs :: G) : List Entry).set 2 (.box (splice cs off v.cells))) else none) else none := rfl
theorem ldB3 {G : List Entry} {e0 e1 e2 : Entry} {cs : List AV} {n off : Nat} : evLoad (e0 :: e1 :: e2 :: .box cs :: G) false n (.ptr 3 off) = cs[off]? := rfl
theorem stB3 {G : List Entry} {e0 e1 e2 : Entry} {cs : List AV} {n off : Nat} {v : AV} : evStore (e0 :: e1 :: e2 :: .box cs :: G) n (.ptr 3 off) v = if v.cells.length = n ∧ 0 < n ∧ v.cells.all (AV.oneIn (e0 :: e1 :: e2 :: .box cs :: G)) = true then (if off + n ≤ cs.length then some (((e0 :: e1 :: e2 :: .box cs :: G) : List Entry).set 3 (.box (splice cs off v.cells))) else none) else none := rfl
end Go.Proofs.YtihhinbjhiankaaGreatDoor.Al

/- WHAT THE LIBRARY's CONTRACTS SAY OF ROWS, told of one's own rows. -/
namespace Go.Proofs.YtihhinbjhiankaaGreatDoor.Al
open Go
variable {S : Seat} {m : List ME} {I X : Nat → Prop} {w : World} {H : List Entry}

theorem grow_heap_lt (w : World) (os : Array Obj) {k : Nat} (h : k < w.heap.size) : (Sort.grow w os).heap[k]? = w.heap[k]? := Sort.heap_grow_old w os h

theorem putRow_other {α : Type} [Inhabited α] (enc : α → Value) (w : World) (blk off : Nat) (d : Array α) {k : Nat} (h : k ≠ blk) : (Sort.putRow enc w blk off d).heap[k]? = w.heap[k]? := by
  simp [Sort.putRow, Sort.mapBlock, Array.getElem?_modify, Ne.symm h]

theorem putRow_self {α : Type} [Inhabited α] (enc : α → Value) (w : World) (blk off : Nat) (d : Array α) {arr : Array Value} {T : Nat} {fr : Nat × Nat} (h : w.heap[blk]? = some (.cells arr T fr)) :
    (Sort.putRow enc w blk off d).heap[blk]? = some (.cells (Sort.putCells enc off d arr) T fr) := by
  simp [Sort.putRow, Sort.mapBlock, Array.getElem?_modify, h, Sort.onCells]

theorem putCells_get {α : Type} [Inhabited α] (enc : α → Value) (off : Nat) (d : Array α) (arr : Array Value) (k : Nat) (hk : k < arr.size) : (Sort.putCells enc off d arr).getD k undef = if off ≤ k ∧ k < off + d.size then enc d[k - off]! else arr.getD k undef := by
  simp [Sort.putCells, Array.getD_eq_getD_getElem?, hk]

theorem own_ints {id ver : Nat} {l : List Int} {v : Value} (hs : Sim S m I X w H) (hH : H[id]? = some (.arr 1 ver (l.map (AV.int .i64)))) (hv : Rel S m I w (.own id ver 0 l.length) v) :
    ∃ e, m[id]? = some e ∧ e.sz = 1 ∧ e.ver = ver ∧ ((l = [] ∧ ∃ a c, v = .slice a 0 c) ∨ (e.nilrow = false ∧ 0 < l.length ∧ l.length ≤ e.cap ∧ v = .slice (some ⟨e.blk, 0, none⟩) l.length e.cap ∧ Sort.Holds (Value.int .i64) w e.blk 0 l.toArray ∧ e.blk < w.heap.size ∧
      ∃ arr T, w.heap[e.blk]? = some (.cells arr T (0, 0)) ∧ arr.size = e.cap)) := by
  obtain ⟨e, h1, hrow⟩ := hs.hok id _ hH
  refine ⟨e, h1, hrow.2.1, hrow.1, ?_⟩
  rcases Nat.eq_zero_or_pos l.length with h0 | h0
  · left
    obtain ⟨a, c, hv', _⟩ := own_len h1 hrow hv
    rw [h0] at hv'
    exact ⟨List.eq_nil_of_length_eq_zero h0, a, c, hv'⟩
  · right
    obtain ⟨hn, hv'⟩ := own_val h1 hrow hv h0
    obtain ⟨r1, r0, r2, r3, r4, r5⟩ := hrow
    rcases r5 with ⟨q1, q2⟩ | ⟨q1, arr, T, ha, hsz, hc⟩
    · rw [hn] at q1; cases q1
    · rw [r0, Nat.mul_one] at hsz
      have hcap : l.length ≤ e.cap := by simpa using r2
      refine ⟨hn, h0, hcap, by simpa using hv', fun j hj => ?_, heap_lt ha, arr, T, ha, hsz⟩
      have hj' : j < l.length := by simpa using hj
      have := hc j (.int .i64 l[j]) (by simp [hj']) 0 (.int .i64 l[j]) (by simp [AV.cells])
      rw [r0, Nat.mul_one, Nat.add_zero] at this
      have hja : j < arr.size := by omega
      have hx : arr.getD j undef = .int .i64 l[j] := by
        generalize arr.getD j undef = u at this
        cases this; rfl
      constructor
      · have : arr[j]? = some (.int .i64 l[j]) := by
          rw [Array.getD_eq_getD_getElem?, Array.getElem?_eq_getElem hja] at hx
          rw [Array.getElem?_eq_getElem hja]; simpa using hx
        simp [World.cell?, ha, this, hj']
      · simp [World.frozen?, ha]

theorem Sim.putInts (hs : Sim S m I X w H) {id ver n : Nat} {l l' : List Int} {e : ME} {os : Array Obj} {arr : Array Value} {T : Nat} (hH : H[id]? = some (.arr 1 ver (l.map (AV.int .i64)))) (h1 : m[id]? = some e) (hn : e.nilrow = false) (hsz : e.sz = 1) (hver : e.ver = ver)
    (ha : w.heap[e.blk]? = some (.cells arr T (0, 0))) (hasz : arr.size = e.cap) (hl : l'.length = l.length) (hcap : l.length ≤ e.cap) :
    Went S m I X w m (Sort.grow (Sort.putRow (Value.int .i64) (Sort.ahead w n) e.blk 0 l'.toArray) os) (H.set id (.arr 1 ver (l'.map (AV.int .i64)))) := by
  have hlt := heap_lt ha
  have hw : ∀ k : Nat, k < w.heap.size → (e.nilrow = false → k ≠ e.blk) → (Sort.grow (Sort.putRow (Value.int .i64) (Sort.ahead w n) e.blk 0 l'.toArray) os).heap[k]? = w.heap[k]? := fun k hk hne => by
    rw [grow_heap_lt _ _ (by simpa using hk), putRow_other _ _ _ _ _ (hne hn)]; rfl
  have hself : (Sort.grow (Sort.putRow (Value.int .i64) (Sort.ahead w n) e.blk 0 l'.toArray) os).heap[e.blk]? = some (.cells (Sort.putCells (Value.int .i64) 0 l'.toArray arr) T (0, 0)) := by
    rw [grow_heap_lt _ _ (by simpa using hlt)]; exact putRow_self _ _ _ _ _ ha
  obtain ⟨e', h1', hrow⟩ := hs.hok id _ hH
  rw [h1] at h1'; cases h1'
  have := hs.write (e := .arr 1 ver (l'.map (AV.int .i64))) hH rfl h1 (.inl rfl) hw (by simp) (fun _ => .inl ⟨hn, rfl⟩) (by
    rw [set_self h1]
    refine ⟨e, h1, hver, hsz, by simpa [hl] using hcap, hrow.2.2.2.1, fun x hx => ?_, .inr ⟨hn, _, T, hself, by simpa [Sort.putCells, hsz] using hasz, fun i x hx j y hy => ?_⟩⟩
    · obtain ⟨z, _, rfl⟩ := List.mem_map.1 hx
      rw [hsz]; rfl
    · rw [List.getElem?_map] at hx
      cases hz : l'[i]? with
      | none => rw [hz] at hx; cases hx
      | some z =>
        rw [hz] at hx; cases hx
        have hj : j = 0 := by
          have := lt_of_get hy
          simp [AV.cells] at this; exact this
        subst hj
        simp only [AV.cells, List.getElem?_cons_zero, Option.some.injEq] at hy
        subst hy
        have hi := lt_of_get hz
        rw [hsz, Nat.mul_one, Nat.add_zero, putCells_get _ _ _ _ _ (by omega), if_pos ⟨Nat.zero_le _, by simpa using hi⟩]
        have : l'.toArray[i - 0]! = z := by
          have h2 := (List.getElem?_eq_some_iff.1 hz).2
          simp [hi, h2]
        rw [this]
        exact .int _ _)
  rw [set_self h1] at this
  exact ⟨this, .refl m, hs.ext_write hH rfl h1 hw (by simp) rfl rfl rfl⟩

theorem Sim.shrink (hs : Sim S m I X w H) {id sz ver : Nat} {xs : List AV} (n : Nat) (hH : H[id]? = some (.arr sz ver xs)) : Sim S m I X w (H.set id (.arr sz ver (xs.take n))) := by
  have hid := lt_of_get hH
  have live : ∀ {j : Nat} {e : Entry}, (H.set id (.arr sz ver (xs.take n)))[j]? = some e → e.live = true → ∃ e', H[j]? = some e' ∧ e'.live = true := by
    intro j e hj hl
    by_cases h : j = id
    · subst h; exact ⟨_, hH, rfl⟩
    · rw [List.getElem?_set_ne (Ne.symm h)] at hj; exact ⟨e, hj, hl⟩
  refine ⟨by simp [hs.len], fun j e hj => ?_, fun j e g hj hl hg hn => ?_, fun j j' e e' g g' hj hl hj' hl' hg hg' hn hn' hb => ?_, hs.lt, hs.disj, hs.gl⟩
  · by_cases h : j = id
    · subst h
      rw [List.getElem?_set_self hid] at hj; cases hj
      obtain ⟨e, h1, r1, r0, r2, r3, r4, r5⟩ := hs.hok j _ hH
      refine ⟨e, h1, r1, r0, by rw [List.length_take]; omega, r3, fun x hx => r4 x (List.mem_of_mem_take hx), ?_⟩
      rcases r5 with r5 | ⟨r5, arr, T, ha, hsz, hc⟩
      · exact .inl r5
      · refine .inr ⟨r5, arr, T, ha, hsz, fun i x hx j y hy => hc i x ?_ j y hy⟩
        rw [List.getElem?_take] at hx
        split at hx
        · exact hx
        · cases hx
    · rw [List.getElem?_set_ne (Ne.symm h)] at hj
      exact hs.hok j e hj
  · obtain ⟨e', h1, h2⟩ := live hj hl
    exact hs.sep j e' g h1 h2 hg hn
  · obtain ⟨e1, h1, h2⟩ := live hj hl
    obtain ⟨e2, h3, h4⟩ := live hj' hl'
    exact hs.inj j j' e1 e2 g g' h1 h2 h3 h4 hg hg' hn hn' hb

theorem ACall.shrink {c : Nat} {args : List AV} {R R' : AV → List Entry → Prop} (h : ACall S c args H R)
    (hR : ∀ r H', R r H' → ∃ id sz ver xs n, H'[id]? = some (.arr sz ver xs) ∧ R' r (H'.set id (.arr sz ver (xs.take n)))) : ACall S c args H R' := by
  intro m I X w vs hs hv
  refine (h m I X w vs hs hv).mono ?_
  rintro e w' ⟨r, H', vv, m', I', h1, h2, h3, h4, h5, h6, h7⟩
  obtain ⟨id, sz, ver, xs, n, k1, k2⟩ := hR r H' h2
  exact ⟨r, _, vv, m', I', h1, k2, h3, h4.shrink n k1, h5, h6, h7⟩

end Go.Proofs.YtihhinbjhiankaaGreatDoor.Al

/- BODIES IN PARTS; what an iterator gives. -/
namespace Go.Proofs.YtihhinbjhiankaaGreatDoor.Al
open Go
variable {S : Seat}

theorem WP.seqK {r : Option Nat} {N b : Nat} {x y : IC} {Q : Exit → St → Prop} {st : St} (K : St → Prop) (h1 : WP S r N b x (thenQ K Q) st) (h2 : ∀ st', K st' → WP S r N b y Q st') : WP S r N b (.seq x y) Q st :=
  WP.seq (h1.mono fun e st' hq => by
    cases e with
    | normal => exact h2 st' hq
    | _ => exact hq)

theorem WP.seqS {r : Option Nat} {N b : Nat} {x y : IC} {Q : Exit → St → Prop} {st : St} (L : List (Nat × AV)) (H1 : List Entry) (h1 : wpc S [] r N b x (thenQ (fun st' => (∀ p ∈ L, st'.env p.1 = p.2) ∧ st'.H = H1) Q) st) (h2 : WP S r N b y Q ⟨envL L, H1⟩) : WP S r N b (.seq x y) Q st :=
  WP.seqK (fun st' => (∀ p ∈ L, st'.env p.1 = p.2) ∧ st'.H = H1) (wpc_sound h1) (fun st' h => WP.slots h.1 (by rw [h.2]; exact h2))

theorem WP.seqR (T : List (Reg S)) {r : Option Nat} {N b : Nat} {x y : IC} {Q : Exit → St → Prop} {st : St} (h : ∀ K : St → Prop, (∀ st', WP S r N b y Q st' → K st') → wpc S T r N b x (thenQ K Q) st) : WP S r N b (.seq x y) Q st :=
  WP.seqK (WP S r N b y Q) (wpc_soundR T (h _ fun _ h => h)) fun _ h => h
theorem Fun.of0W {c : Nat} {f : IFn} (ht : trFn S c = some f) {args : List AV} {r : AV} (hn : args.length ≤ f.N) (ha : ∀ x ∈ args, Idb 0 x) (hr : Idb 0 r) (k : Nat)
    (h : WP S none f.N 0 f.body (leaves f.res fun r' H' => canon H' k r' = r) ⟨envL (args.zipIdx.map fun p => (p.2, p.1)), []⟩) : Fun S c args r := by
  refine Fun.zero ha hr (ACall.out k (R := fun r' H' => canon H' k r' = r) (ACall.of_wp ht hn ?_) ?_)
  · rw [start_env]; exact h
  · intro r' H' h1
    simp only [List.length_nil, fresh_zero]
    have h2 : derefN (freezeP all H') k r' = r := h1
    exact ⟨by simp, by rw [h2]; exact hr, h2⟩

theorem FunOwn.of0W {c : Nat} {f : IFn} (ht : trFn S c = some f) {args : List AV} {sz : Nat} {xs : List AV} (hn : args.length ≤ f.N) (ha : ∀ x ∈ args, Idb 0 x) (hx : ∀ x ∈ xs, ∀ y ∈ x.cells, Idb 0 y)
    (h : WP S none f.N 0 f.body (leaves f.res fun r H' => (∃ id ver, r = .own id ver 0 xs.length ∧ H'[id]? = some (.arr sz ver xs)) ∨ (r = .list true [] ∧ xs = [])) ⟨envL (args.zipIdx.map fun p => (p.2, p.1)), []⟩) : FunOwn S c args sz xs := by
  refine FunOwn.zero ha hx (ACall.outOwn 0 (R := fun r H' => ∃ id ver, r = .own id ver 0 xs.length ∧ H'[id]? = some (.arr sz ver xs)) (ACall.adopt sz (ACall.of_wp ht hn (by rw [start_env]; exact h)) ?_) ?_)
  · rintro r H' (h1 | ⟨rfl, rfl⟩)
    · exact .inr h1
    · exact .inl ⟨rfl, H'.length, 0, rfl, by simp⟩
  · rintro r H' ⟨id, ver, rfl, h2⟩
    have hm : ∀ G : List Entry, xs.map (derefN G 0) = xs := fun G => by
      have : derefN G 0 = fun x => x := by funext x; rfl
      rw [this]; simp
    exact ⟨by simp, id, ver, sz, xs, by simp, Nat.zero_le _, h2, fun x hx' y hy => hx x hx' y hy, by simp, by rw [hm]; rfl⟩

theorem FunOwn.val {c : Nat} {args : List AV} {sz : Nat} {xs : List AV} (h : FunOwn S c args sz xs) (hx : ∀ x ∈ xs, ∀ y ∈ x.cells, Idb 0 y) : Fun S c args (.list false xs) := by
  intro H
  refine ACall.out 1 (h H) ?_
  rintro r H' ⟨rfl, rfl⟩
  have e : derefN (freezeP (fresh H.length) (H ++ [.arr sz 0 xs])) 1 (.own H.length 0 0 xs.length) = .list false xs := by
    simp only [derefN, freezeP_get, heap_get0, Option.map_some, fresh, Nat.le_refl, decide_true, if_true, Entry.frzE]
    simp [derefN]
  rw [e]
  exact ⟨by simp, .list _ _ fun x hx' y hy => (hx x hx' y hy).more (Nat.zero_le _), rfl, rfl⟩

def Gives (S : Seat) (c : Nat) (cap : List AV) (xs : List AV) : Prop :=
  ∀ (id : Nat) (H0 : List Entry) (J : Nat → List Entry → Prop) (Jx : List Entry → Prop), J 0 H0 →
    (∀ k (hk : k < xs.length) H1, J k H1 → AYield S id [xs[k]] H1 (fun r H2 => (r = .bool true ∧ J (k + 1) H2) ∨ (r = .bool false ∧ Jx H2))) →
    ACall S c ([.func (.y id) [] []] ++ cap) H0 (fun _ H' => J xs.length H' ∨ Jx H')

theorem load_box {H : List Entry} {id : Nat} {v : AV} (h : H[id]? = some (.box [v])) : evLoad H false 1 (.ptr id 0) = some v := by
  simp [evLoad, window, h]
theorem store_box {H : List Entry} {id : Nat} {u v : AV} (h : H[id]? = some (.box [u])) (hv : v.cells = [v]) (h1 : v.oneIn H = true) : evStore H 1 (.ptr id 0) v = some (H.set id (.box [v])) := by
  simp [evStore, hv, h1, h, splice]
theorem own_one {H : List Entry} {id ver lo hi sz : Nat} {xs : List AV} (h : H[id]? = some (.arr sz ver xs)) : (AV.own id ver lo hi).oneIn H = true := by
  simp [AV.oneIn, h]
theorem evMin_int (k k' : IntKind) (a b : Int) : evMin (.int k a) (.int k' b) = some (.int k (if b < a then b else a)) := rfl
theorem evMax_int (k k' : IntKind) (a b : Int) : evMax (.int k a) (.int k' b) = some (.int k (if b > a then b else a)) := rfl
def DR (S : Seat) (Hs : Nat → List Entry) (K : Nat) (l : List IOper) (labs : List Lab) (env : Env) (k : Nat) (E : Env) : Prop := ∃ tr, DRun S Hs K l labs env k tr E
theorem DR.nil {Hs : Nat → List Entry} {K : Nat} {env : Env} : DR S Hs K [] [] env K env := ⟨_, .nil _⟩
theorem DR.light {Hs : Nat → List Entry} {K : Nat} {o : IOper} {l : List IOper} {labs : List Lab} {env E : Env} {k : Nat} {b : Lab} {v : AV} (hg : gdec env o.guard = some true) (hd : ∀ j, j ≤ K → evalOp o.op env (Hs j) = some (v, Hs j)) (h : DR S Hs K l labs (updo env o.dst v) k E) : DR S Hs K (o :: l) (b :: labs) env k E :=
  let ⟨_, h⟩ := h; ⟨_, .light hg (fun j hj => .ev (hd j hj)) h⟩
theorem DR.heavy {Hs : Nat → List Entry} {K : Nat} {o : IOper} {l : List IOper} {labs : List Lab} {env E : Env} {k : Nat} {v : AV} (hg : gdec env o.guard = some true) (hd : evalOp o.op env (Hs k) = some (v, Hs (k + 1))) (h : DR S Hs K l labs (updo env o.dst v) (k + 1) E) : DR S Hs K (o :: l) (.h k :: labs) env k E :=
  let ⟨_, h⟩ := h; ⟨_, .heavy hg (.ev hd) h⟩
theorem DR.fixed {Hs : Nat → List Entry} {K : Nat} {o : IOper} {l : List IOper} {labs : List Lab} {env E : Env} {k lo hi : Nat} {v : AV} (hg : gdec env o.guard = some true) (h1 : lo ≤ k) (h2 : k ≤ hi) (hd : ∀ j, lo ≤ j → j ≤ hi → evalOp o.op env (Hs j) = some (v, Hs j)) (h : DR S Hs K l labs (updo env o.dst v) k E) : DR S Hs K (o :: l) (.g lo hi :: labs) env k E :=
  let ⟨_, h⟩ := h; ⟨_, .fixed hg h1 h2 (fun j a b _ => .ev (hd j a b)) h⟩
theorem WP.drawE {r : Option Nat} {N b : Nat} {Q : Exit → St → Prop} {l : List IOper} {H : List Entry} (hmx : S.P.follows .mixedOrders = true) (labs : List Lab) (hchk : drawOk l labs = true) (Hs : Nat → List Entry) (K : Nat) {env E : Env}
    (hH : Hs 0 = H) (hq : Q .normal ⟨E, Hs K⟩) (hd : DR S Hs K l labs env 0 E) : WP S r N b (.region l true) Q ⟨env, H⟩ :=
  let ⟨_, hd⟩ := hd; WP.draw hmx labs hchk Hs K hd hH hq
theorem freezeP_all_nil : freezeP all [] = [] := rfl
theorem freezeP_all_cons (e : Entry) (H : List Entry) : freezeP all (e :: H) = e.frzE :: freezeP all H := by
  simp [freezeP, all, List.mapIdx_cons]
theorem frzE_box (cs : List AV) : (Entry.box cs).frzE = .box cs := rfl
theorem frzE_arr (s v : Nat) (xs : List AV) : (Entry.arr s v xs).frzE = .frz s v xs := rfl
theorem CallF.f {H : List Entry} {c : Nat} {f : IFn} {args : List AV} {r : AV} (ht : trFn S c = some f) (h : Fun S c args r) : CallF S (.func (.f c) [] []) args H r := CallF.plain (Callable.of ht) (h H)
theorem Callee.frz {H : List Entry} {c : Nat} {f : IFn} {args : List AV} {r : AV} {K : AV → List Entry → Prop} (n : Nat) (ht : trFn S c = some f) (h : Fun S c (args.map (canon H n)) r) (k : K r (freezeP all H)) : Callee S (.func (.f c) [] []) args H K :=
  Callee.plain (Callable.of ht) (ACall.frzN all n (h (freezeP all H))) (by rintro _ _ ⟨rfl, rfl⟩; exact k)
theorem wrapS {k : Nat} (h : k < 9223372036854775807) : IntKind.i64.wrap ((k : Int) + 1) = ((k + 1 : Nat) : Int) := wrap64 _ (by omega) (by omega)

end Go.Proofs.YtihhinbjhiankaaGreatDoor.Al

set_option linter.unusedSimpArgs false
set_option linter.unusedVariables false
namespace Go.Proofs.YtihhinbjhiankaaGreatDoor.Al
open Go Go.RowKit Go.ChangeShapes Go.WideShapes Go.ChangeAt

def Tells (S : Seat) (w : World) (xs : List AV) (cs : List Value) : Prop := cs.length = xs.length ∧ ∀ j y, xs[j]? = some y → Rel S [] (fun b => b < w.heap.size) w y (cs.getD j undef)

def Shape (S : Seat) (t : TypeId) {α : Type} (E : α → AV) (W : α → Prop) : Prop :=
  ∀ {H : Type} {enc : TypeId × Value → H} {w : World} {base : Nat} {sp : Nat → Bool} {held : Bool} {fuel : Nat} {cs : List Value} {x : DataW H × List MemPlace},
    DataW.trod enc S.P w base sp held fuel t cs = some x → (x.1.weights S.P t).all (· ≤ reachBytes) = true → ∃ a, W a ∧ Tells S w (E a).cells cs

variable {S : Seat}

theorem weightsAll_mem {H : Type} {P : Program} {e : TypeId} : ∀ {ds : List (DataW H)} {d : DataW H}, d ∈ ds → ∀ n ∈ d.weights P e, n ∈ DataW.weightsAll P e ds
  | d0 :: ds, d, h, n, hn => by
    simp only [DataW.weightsAll, List.mem_append]
    rcases List.mem_cons.1 h with rfl | h
    · exact .inl hn
    · exact .inr (weightsAll_mem h n hn)
theorem sized_at {H : Type} {P : Program} {ts : List TypeId} {ds : List (DataW H)} (h : (DataW.weightsEach P ts ds).all (· ≤ reachBytes) = true) {j : Nat} {t : TypeId} {d : DataW H} (ht : ts[j]? = some t) (hd : ds[j]? = some d) : (d.weights P t).all (· ≤ reachBytes) = true :=
  List.all_eq_true.2 fun n hn => List.all_eq_true.1 h n (DataW.weights_mem_each ht hd n hn)

theorem Tells.one {w : World} {x : AV} {v : Value} (h : Rel S [] (fun b => b < w.heap.size) w x v) : Tells S w [x] [v] := ⟨rfl, fun j y hy => by
  cases j with
  | zero => simp only [List.getElem?_cons_zero, Option.some.injEq] at hy; subst hy; exact h
  | succ j => simp at hy⟩

theorem Shape.int {t : TypeId} {k : IntKind} (ht : S.P.underlying t = some (.int k)) : Shape S t (fun n => .int k n) (fun n => k.min ≤ n ∧ n ≤ k.max) := by
  intro H enc w base sp held fuel cs x h hsz
  cases fuel with
  | zero => simp [DataW.trod] at h
  | succ fuel =>
    unfold DataW.trod at h
    rw [ht] at h
    split at h
    all_goals (rename_i heq; first | (cases h; done) | (exfalso; cases heq; done) | skip)
    rename_i k1 k' n
    cases heq
    split at h
    · rename_i hk
      obtain ⟨rfl, hw⟩ := hk
      simp only [Lit.wf, Bool.and_eq_true, decide_eq_true_eq] at hw
      exact ⟨n, hw, Tells.one (.int _ _)⟩
    · cases h

theorem mapM_range {α : Type} {f : Nat → Option α} : ∀ {n : Nat} {xs : List α}, (List.range n).mapM f = some xs → xs.length = n ∧ ∀ i, i < n → ∃ x, f i = some x ∧ xs[i]? = some x := by
  intro n xs h
  obtain ⟨h1, h2⟩ := mapM_get h
  simp at h1
  refine ⟨h1, fun i hi => ?_⟩
  obtain ⟨x, hx, hy⟩ := h2 i i (by simp [hi])
  exact ⟨x, hx, hy⟩

theorem cells?_get {w : World} {base : Nat} {a : Addr} {n : Nat} {cs : List Value} (h : w.cells? base a n = some cs) : cs.length = n ∧ ∀ j, j < n → ∃ v, w.cell? (a.add j) = some v ∧ cs[j]? = some v := by
  unfold World.cells? at h
  split at h
  · exact mapM_range h
  · cases h

theorem cell_lt {w : World} {a : Addr} {v : Value} (h : w.cell? a = some v) : a.block < w.heap.size ∧ a.spot = none := by
  unfold World.cell? at h
  split at h
  · rename_i c x y hb
    refine ⟨heap_lt hb, ?_⟩
    split at h
    · cases h
    · rename_i hs; simpa using hs
  · cases h

theorem Shape.slice {t e : TypeId} {α : Type} {E : α → AV} {W : α → Prop} {sz : Nat} (ht : S.P.underlying t = some (.slice e)) (hz : S.P.cellsOf e = sz) (hpos : 0 < sz) (hE : ∀ a, (E a).cells.length = sz) (he : Shape S e E W) (hby : decide (0 < S.P.bytesOf e) = true := by kernel_rfl) :
    Shape S t (fun l : List α => .list false (l.map E)) (fun l => l.length ≤ 140737488355328 ∧ ∀ x ∈ l, W x) := by
  intro H enc w base sp held fuel cs x h hsz
  cases fuel with
  | zero => simp [DataW.trod] at h
  | succ fuel =>
    unfold DataW.trod at h
    rw [ht] at h
    split at h
    all_goals (rename_i heq; first | (cases h; done) | (exfalso; cases heq; done) | skip)
    · exact ⟨[], ⟨Nat.zero_le _, by simp⟩, Tells.one (.empty _ _ _ (by simp) (by simp))⟩
    · rename_i e' a len cap
      cases heq
      simp only at h
      split at h
      · rename_i hc
        obtain ⟨hb, hlc, hcm⟩ := hc
        obtain ⟨els, h1, h2⟩ := Option.bind_eq_some_iff.1 h
        obtain ⟨rest, _, rfl⟩ := Option.map_eq_some_iff.1 h2
        obtain ⟨hlen, hel⟩ := mapM_range h1
        rw [hz] at hel
        simp only [DataW.weights, ht, List.all_cons, List.all_append, Bool.and_eq_true, decide_eq_true_eq, List.length_map] at hsz
        obtain ⟨hs1, hs2, _⟩ := hsz
        have hsm : len ≤ 140737488355328 := by
          have h3 : (els.length + rest.length) * 1 ≤ (els.length + rest.length) * S.P.bytesOf e := Nat.mul_le_mul_left _ (of_decide_eq_true hby)
          have h4 : reachBytes = 140737488351232 := rfl
          omega
        have key : ∀ i, i < len → ∃ y : α, W y ∧ ∃ cs', w.cells? base (a.add (i * sz)) sz = some cs' ∧ Tells S w (E y).cells cs' := by
          intro i hi
          obtain ⟨z, hz', hzm⟩ := hel i hi
          obtain ⟨cs', h3, h4⟩ := Option.bind_eq_some_iff.1 hz'
          obtain ⟨y, hy, hty⟩ := he h4 (List.all_eq_true.2 fun n hn => List.all_eq_true.1 hs2 n (weightsAll_mem (List.mem_map.2 ⟨z, List.mem_of_getElem? hzm, rfl⟩) n hn))
          exact ⟨y, hy, cs', h3, hty⟩
        have hex : ∀ n, n ≤ len → ∃ l : List α, l.length = n ∧ ∀ i y, l[i]? = some y → W y ∧ ∃ cs', w.cells? base (a.add (i * sz)) sz = some cs' ∧ Tells S w (E y).cells cs' := by
          intro n
          induction n with
          | zero => intro _; exact ⟨[], rfl, fun i y h => by simp at h⟩
          | succ n ih =>
            intro hn
            obtain ⟨l, hl, hi⟩ := ih (by omega)
            obtain ⟨y, hy⟩ := key n (by omega)
            refine ⟨l ++ [y], by simp [hl], fun i z hz => ?_⟩
            rcases getElem?_push_cases hz with ⟨hz, _⟩ | ⟨rfl, rfl⟩
            · exact hi i z hz
            · rw [hl]; exact hy
        obtain ⟨l, hl, hi⟩ := hex len (Nat.le_refl _)
        refine ⟨l, ⟨by omega, fun x hx => ?_⟩, Tells.one ?_⟩
        · obtain ⟨i, hi'⟩ := List.getElem?_of_mem hx
          exact (hi i x hi').1
        · have hcm' : cap ≤ 9223372036854775807 := hcm
          rcases Nat.eq_zero_or_pos len with h0 | h0
          · have : l = [] := List.eq_nil_of_length_eq_zero (by omega)
            subst this
            rw [h0]
            exact .empty _ _ _ (by simp) hcm'
          · have first : a.spot = none ∧ a.block < w.heap.size := by
              obtain ⟨_, cs', h3, _⟩ := hi 0 l[0] (List.getElem?_eq_getElem (by omega))
              obtain ⟨_, h5⟩ := cells?_get h3
              obtain ⟨v, hv, _⟩ := h5 0 hpos
              have := cell_lt hv
              obtain ⟨b, off, spot⟩ := a
              cases spot with
              | none => exact ⟨rfl, by have h9 := this.1; rw [addr_add, addr_add] at h9; exact h9⟩
              | some sp => exact absurd this.2 (by simp [Addr.add])
            obtain ⟨b, off, spot⟩ := a
            obtain ⟨rfl, hblk⟩ := first
            have cellAt : ∀ i x, (l.map E)[i]? = some x → ∀ j y, x.cells[j]? = some y → ∃ v, w.cell? ⟨b, off + i * sz + j, none⟩ = some v ∧ Rel S [] (fun b => b < w.heap.size) w y v := by
              intro i x hx j y hy
              rw [List.getElem?_map] at hx
              cases hli : l[i]? with
              | none => rw [hli] at hx; cases hx
              | some z =>
                rw [hli] at hx; cases hx
                obtain ⟨_, cs', h3, h4⟩ := hi i z hli
                obtain ⟨h5, h6⟩ := cells?_get h3
                have hj : j < sz := by have := lt_of_get hy; rw [hE] at this; exact this
                obtain ⟨v, hv, hcv⟩ := h6 j hj
                rw [addr_add, addr_add] at hv
                refine ⟨v, hv, ?_⟩
                have := h4.2 j y hy
                rwa [List.getD_eq_getElem?_getD, hcv] at this
            refine .list false (l.map E) b off len cap sz (fun i j => (w.cell? ⟨b, off + i * sz + j, none⟩).getD undef) (by simpa using hl) hlc hcm' (by simp) hblk (fun x hx => ?_) (fun i x hx j y hy => ?_) (fun i x hx j y hy => ?_)
            · obtain ⟨z, _, rfl⟩ := List.mem_map.1 hx
              exact hE z
            · obtain ⟨v, hv, _⟩ := cellAt i x hx j y hy
              rw [hv]; rfl
            · obtain ⟨v, hv, hr⟩ := cellAt i x hx j y hy
              rw [hv]; exact hr
      · cases h

inductive Fields (S : Seat) : List Field → Nat → {α : Type} → (α → List AV) → (α → Prop) → Prop
  | nil (off : Nat) : Fields S [] off (fun _ : Unit => []) (fun _ => True)
  | cons {f : Field} {fs : List Field} {off sz : Nat} {α β : Type} {E : α → AV} {W : α → Prop} {F : β → List AV} {V : β → Prop} (ho : f.offset = off) (hz : S.P.cellsOf f.type = sz) (hE : ∀ a, (E a).cells.length = sz) (he : Shape S f.type E W)
      (h : Fields S fs (off + sz) F V) : Fields S (f :: fs) off (fun p : α × β => (E p.1).cells ++ F p.2) (fun p => W p.1 ∧ V p.2)

theorem Fields.open {fs : List Field} {off : Nat} {β : Type} {F : β → List AV} {V : β → Prop} (hf : Fields S fs off F V) :
    ∀ {H : Type} {enc : TypeId × Value → H} {w : World} {base : Nat} {sp : Nat → Bool} {held : Bool} {fuel : Nat} {cs : List Value} {xs : List (DataW H × List MemPlace)},
      (fs.mapM fun f => DataW.trod enc S.P w base sp held fuel f.type ((cs.drop f.offset).take (S.P.cellsOf f.type))) = some xs → (DataW.weightsEach S.P (fs.map (·.type)) (xs.map (·.1))).all (· ≤ reachBytes) = true → ∃ b, V b ∧ ∀ j y, (F b)[j]? = some y → Rel S [] (fun b => b < w.heap.size) w y (cs.getD (off + j) undef) := by
  induction hf with
  | nil off => intros; exact ⟨(), trivial, fun j y h => by simp at h⟩
  | @cons f fs off sz α β E W F V ho hz hE he h ih =>
    intro H enc w base sp held fuel cs xs hm hsz
    rw [List.mapM_cons] at hm
    obtain ⟨x, hx, hm⟩ := Option.bind_eq_some_iff.1 hm
    obtain ⟨ys, hys, hxs⟩ := Option.bind_eq_some_iff.1 hm
    cases hxs
    simp only [List.map_cons, DataW.weightsEach, List.all_append, Bool.and_eq_true] at hsz
    obtain ⟨a, ha, hta⟩ := he hx hsz.1
    obtain ⟨b, hb, htb⟩ := ih hys hsz.2
    refine ⟨(a, b), ⟨ha, hb⟩, fun j y hj => ?_⟩
    rcases Nat.lt_or_ge j sz with hlt | hge
    · rw [List.getElem?_append_left (by rw [hE]; exact hlt)] at hj
      have := hta.2 j y hj
      rw [List.getD_eq_getElem?_getD, List.getElem?_take, ho, hz, if_pos hlt, List.getElem?_drop] at this
      rw [List.getD_eq_getElem?_getD]; exact this
    · rw [List.getElem?_append_right (by rw [hE]; exact hge), hE] at hj
      have := htb (j - sz) y hj
      rwa [show off + sz + (j - sz) = off + j by omega] at this

theorem Shape.struct {t : TypeId} {fs : Array Field} {β : Type} {F : β → List AV} {V : β → Prop} {n : Nat} (ht : S.P.underlying t = some (.struct fs)) (hn : S.P.cellsOf t = n) (hF : ∀ b, (F b).length = n) (hf : Fields S fs.toList 0 F V) :
    Shape S t (fun b => .agg (F b)) V := by
  intro H enc w base sp held fuel cs x h hsz
  cases fuel with
  | zero => simp [DataW.trod] at h
  | succ fuel =>
    have step : (if cs.length = S.P.cellsOf t then (fs.toList.mapM fun f => DataW.trod enc S.P w base sp held fuel f.type ((cs.drop f.offset).take (S.P.cellsOf f.type))).map (fun xs => ((DataW.agg (xs.map (·.1)) : DataW H), xs.flatMap (·.2))) else none) = some x →
        ∃ a, V a ∧ Tells S w (AV.agg (F a)).cells cs := by
      intro h
      split at h
      · rename_i hl
        obtain ⟨xs, hxs, rfl⟩ := Option.map_eq_some_iff.1 h
        simp only [DataW.weights, ht] at hsz
        obtain ⟨b, hb, hr⟩ := hf.open hxs hsz
        refine ⟨b, hb, by rw [hl, hn]; exact (hF b).symm, fun j y hj => ?_⟩
        have := hr j y hj
        rwa [Nat.zero_add] at this
      · cases h
    unfold DataW.trod at h
    rw [ht] at h
    split at h
    all_goals (rename_i heq; first | (cases h; done) | (exfalso; cases heq; done) | exact step h | (cases heq; exact step h))

def Handed (S : Seat) (w : World) (xs : List AV) (vs : List Value) : Prop := vs.length = xs.length ∧ ∀ i x, xs[i]? = some x → Rel S [] (fun b => b < w.heap.size) w x (vs.getD i undef)

theorem Handed.nil (S : Seat) (w : World) : Handed S w [] [] := ⟨rfl, fun i x h => by simp at h⟩
theorem Handed.cons {w : World} {x : AV} {v : Value} {xs : List AV} {vs : List Value} (h : Rel S [] (fun b => b < w.heap.size) w x v) (k : Handed S w xs vs) : Handed S w (x :: xs) (v :: vs) :=
  ⟨by simp [k.1], fun i y hy => by
    cases i with
    | zero => simp only [List.getElem?_cons_zero, Option.some.injEq] at hy; subst hy; exact h
    | succ i => simpa using k.2 i y (by simpa using hy)⟩

theorem Shape.one {t : TypeId} {α : Type} {E : α → AV} {W : α → Prop} (he : Shape S t E W) (h1 : ∀ a, (E a).cells = [E a]) {H : Type} {enc : TypeId × Value → H} {w : World} {base : Nat} {sp : Nat → Bool} {held : Bool} {v : Value} {d : DataW H} {ps : List MemPlace}
    (h : DataW.Trod enc S.P w base sp held t v d ps) (hsz : (d.weights S.P t).all (· ≤ reachBytes) = true) (hv : ∀ cs, v ≠ .agg cs) : ∃ a, W a ∧ Rel S [] (fun b => b < w.heap.size) w (E a) v := by
  obtain ⟨fuel, hf⟩ := h
  obtain ⟨a, ha, ht⟩ := he hf hsz
  refine ⟨a, ha, ?_⟩
  have hc : v.cells = #[v] := by cases v <;> first | rfl | (exact absurd rfl (hv _))
  rw [hc] at ht
  have := ht.2 0 (E a) (by rw [h1]; rfl)
  simpa using this
theorem law_calls {c : Nat} {xs : List AV} {b : Bool} (h : Fun S c xs (.bool b)) {w : World} {vs : List Value} (hv : Handed S w xs vs) (hg : GlOk S (fun b => b < w.heap.size) w) : Calls S.P (S.fn c) vs.toArray w fun e w' => e = .returned (.bool b) ∧ Below w.heap.size w w' := by
  have hs : Sim S [] (fun b => b < w.heap.size) (fun _ => False) w [] := ⟨rfl, fun id e he => by simp at he, fun id e g he => by simp at he, fun id id' e e' g g' he => by simp at he, fun b hb => by rcases hb with hb | hb; exact hb; exact hb.elim, fun _ _ hx => hx, hg⟩
  refine (h [] [] _ _ w vs.toArray hs ⟨by simpa using hv.1, fun i x hx => ?_⟩).mono ?_
  · have := hv.2 i x hx
    simpa [List.getD_eq_getElem?_getD, Array.getD_eq_getD_getElem?] using this
  · rintro e w' ⟨r, H', vv, m', I', rfl, ⟨rfl, rfl⟩, h3, h4, h5, h6, h7⟩
    cases h3
    exact ⟨rfl, h7.os, h7.tape, h7.output, h7.size, fun k hk => h7.keep k (.inl hk)⟩

theorem handed_back {H : Type} {enc : TypeId × Value → H} {P : Program} (hl : laidOutB P = true) {W W' : World} (hb : Below W.heap.size W W') : ∀ {ts : List TypeId} {vs : List Value} {ds : List (DataW H)} {ps : List MemPlace},
    ts.all (fun t => P.readableRec t && decide (t < P.types.size)) = true → DataW.TrodAll enc P W 0 (fun _ => true) true ts vs ds ps → DataW.TrodAll enc P W' 0 (fun b => decide (b < W.heap.size)) true ts vs ds ps := by
  intro ts
  induction ts with
  | nil => intro vs ds ps _ h; cases vs <;> cases ds <;> simp [DataW.TrodAll] at h ⊢; exact h
  | cons t ts ih =>
    intro vs ds ps ht h
    simp only [List.all_cons, Bool.and_eq_true, decide_eq_true_eq] at ht
    obtain ⟨v, vs', d, ds', p, q, rfl, rfl, rfl, h1, h2⟩ := trodAll_cons h
    refine trodAll_cons_mk (Below.trod hl ht.1.1 ht.1.2 h1 hb ?_) (ih ht.2 h2)
    obtain ⟨n, hn⟩ := h1
    exact DataW.trod_lt n _ _ _ hn

end Go.Proofs.YtihhinbjhiankaaGreatDoor.Al

set_option linter.unusedSimpArgs false
set_option linter.unusedVariables false
/- PLAIN LAWS: rising lists of numbers. -/
namespace Go.Proofs.YtihhinbjhiankaaGreatDoor.Al

def Rises (l : List Int) : Prop := l.Pairwise (· < ·)

theorem rises_ext : ∀ {a b : List Int}, Rises a → Rises b → (∀ x, x ∈ a ↔ x ∈ b) → a = b
  | [], [], _, _, _ => rfl
  | [], y :: b, _, _, h => absurd ((h y).2 (by simp)) (by simp)
  | x :: a, [], _, _, h => absurd ((h x).1 (by simp)) (by simp)
  | x :: a, y :: b, ha, hb, h => by
    have ha' := List.pairwise_cons.1 ha
    have hb' := List.pairwise_cons.1 hb
    have hxy : x = y := by
      have h1 := (h x).1 (by simp)
      have h2 := (h y).2 (by simp)
      rcases List.mem_cons.1 h1 with e | e
      · exact e
      · rcases List.mem_cons.1 h2 with e2 | e2
        · exact e2.symm
        · have := hb'.1 x e; have := ha'.1 y e2; omega
    subst hxy
    rw [rises_ext ha'.2 hb'.2 fun z => ?_]
    constructor
    · intro hz
      rcases List.mem_cons.1 ((h z).1 (by simp [hz])) with e | e
      · have := ha'.1 z hz; omega
      · exact e
    · intro hz
      rcases List.mem_cons.1 ((h z).2 (by simp [hz])) with e | e
      · have := hb'.1 z hz; omega
      · exact e

def ins (x : Int) : List Int → List Int
  | [] => [x]
  | y :: l => if x < y then x :: y :: l else if x = y then y :: l else y :: ins x l

theorem mem_ins {x z : Int} : ∀ {l : List Int}, z ∈ ins x l ↔ z = x ∨ z ∈ l
  | [] => by simp [ins]
  | y :: l => by
    simp only [ins]
    split
    · simp
    · split
      · rename_i h; subst h; simp
      · simp only [List.mem_cons, mem_ins (l := l)]
        constructor
        · rintro (h | h | h) <;> simp [h]
        · rintro (h | h | h) <;> simp [h]

theorem rises_ins {x : Int} : ∀ {l : List Int}, Rises l → Rises (ins x l)
  | [], _ => List.pairwise_singleton _ _
  | y :: l, h => by
    have h' := List.pairwise_cons.1 h
    simp only [ins]
    split
    · rename_i hlt
      exact List.pairwise_cons.2 ⟨fun z hz => by
        rcases List.mem_cons.1 hz with e | e
        · omega
        · have := h'.1 z e; omega, h⟩
    · split
      · exact h
      · refine List.pairwise_cons.2 ⟨fun z hz => ?_, rises_ins h'.2⟩
        rcases mem_ins.1 hz with e | e
        · omega
        · exact h'.1 z e

def rise (l : List Int) : List Int := l.foldr ins []

theorem mem_rise {z : Int} : ∀ {l : List Int}, z ∈ rise l ↔ z ∈ l
  | [] => by simp [rise]
  | x :: l => by
    have ih := mem_rise (z := z) (l := l)
    simp only [rise, List.foldr_cons] at ih ⊢
    rw [mem_ins, ih]; simp

theorem rises_rise : ∀ (l : List Int), Rises (rise l)
  | [] => List.Pairwise.nil
  | _ :: l => rises_ins (rises_rise l)

theorem rise_eq {l r : List Int} (h : Rises r) (hm : ∀ x, x ∈ r ↔ x ∈ l) : r = rise l := rises_ext h (rises_rise l) fun x => by rw [mem_rise]; exact hm x
theorem rise_of_rises {l : List Int} (h : Rises l) : rise l = l := (rise_eq h fun _ => Iff.rfl).symm
theorem rises_snoc {l : List Int} {x : Int} (h : Rises l) (hx : ∀ y ∈ l, y < x) : Rises (l ++ [x]) := by
  refine List.pairwise_append.2 ⟨h, List.pairwise_singleton _ _, fun a ha b hb => ?_⟩
  rw [List.mem_singleton] at hb; subst hb; exact hx a ha
end Go.Proofs.YtihhinbjhiankaaGreatDoor.Al

/- PLAIN LAWS: what is sorted and thinned rises. -/
namespace Go.Proofs.YtihhinbjhiankaaGreatDoor.Al

def sorted (l : List Int) : List Int := l.mergeSort fun x y => decide (x ≤ y)

theorem sorted_perm (l : List Int) : (sorted l).Perm l := List.mergeSort_perm l _
theorem sorted_length (l : List Int) : (sorted l).length = l.length := (sorted_perm l).length_eq
theorem mem_sorted {l : List Int} {x : Int} : x ∈ sorted l ↔ x ∈ l := (sorted_perm l).mem_iff
theorem sorted_le (l : List Int) : (sorted l).Pairwise (· ≤ ·) := by
  have := List.pairwise_mergeSort (le := fun x y : Int => decide (x ≤ y)) (fun a b c h1 h2 => by simp at *; omega) (fun a b => by simp; omega) l
  exact List.Pairwise.imp (fun h => by simpa using h) this

theorem compact_of_le {s : List Int} (hs : s.Pairwise (· ≤ ·)) : ∀ m, m ≤ s.length → Rises (Lib.compactUpTo s.toArray m) ∧ ∀ x, x ∈ Lib.compactUpTo s.toArray m ↔ ∃ j, ∃ h : j < s.length, j < m ∧ s[j] = x := by
  have hle : ∀ (i j : Nat) (hi : i < s.length) (hj : j < s.length), i ≤ j → s[i] ≤ s[j] := by
    intro i j hi hj hij
    rcases Nat.lt_or_eq_of_le hij with h | h
    · exact List.pairwise_iff_getElem.1 hs i j hi hj h
    · subst h; exact Int.le_refl _
  intro m
  induction m with
  | zero => intro _; exact ⟨by simp [Lib.compactUpTo, Rises], fun x => by simp [Lib.compactUpTo]⟩
  | succ m ih =>
    intro hm
    obtain ⟨h1, h2⟩ := ih (by omega)
    have hml : m < s.length := by omega
    have hg : s.toArray[m]! = s[m] := by simp [hml]
    rw [Lib.compactUpTo_succ]
    by_cases hk : Lib.keeps s.toArray m = true
    · rw [if_pos hk, hg]
      have hlt : ∀ y ∈ Lib.compactUpTo s.toArray m, y < s[m] := by
        intro y hy
        obtain ⟨j, hj, hjm, rfl⟩ := (h2 y).1 hy
        have hm1 : m - 1 < s.length := by omega
        have a := hle j (m - 1) hj hm1 (by omega)
        have b := hle (m - 1) m hm1 hml (by omega)
        have c : s[m] ≠ s[m - 1] := by
          simp only [Lib.keeps, decide_eq_true_eq] at hk
          rcases hk with hk | hk
          · omega
          · simpa [hml, hm1] using hk
        omega
      refine ⟨rises_snoc h1 hlt, fun x => ?_⟩
      rw [List.mem_append, h2]
      constructor
      · rintro (⟨j, hj, hjm, rfl⟩ | hx)
        · exact ⟨j, hj, by omega, rfl⟩
        · simp at hx; subst hx; exact ⟨m, hml, by omega, rfl⟩
      · rintro ⟨j, hj, hjm, rfl⟩
        rcases Nat.lt_or_ge j m with h | h
        · exact .inl ⟨j, hj, h, rfl⟩
        · have : j = m := by omega
          subst this; exact .inr (by simp)
    · rw [if_neg hk]
      simp only [Lib.keeps, decide_eq_true_eq, not_or, Classical.not_not] at hk
      have hm1 : m - 1 < s.length := by omega
      have he : s[m] = s[m - 1] := by simpa [hml, hm1] using hk.2
      refine ⟨by simpa using h1, fun x => ?_⟩
      rw [List.append_nil, h2]
      constructor
      · rintro ⟨j, hj, hjm, rfl⟩
        exact ⟨j, hj, by omega, rfl⟩
      · rintro ⟨j, hj, hjm, rfl⟩
        rcases Nat.lt_or_ge j m with h | h
        · exact ⟨j, hj, h, rfl⟩
        · have : j = m := by omega
          subst this; exact ⟨j - 1, hm1, by omega, he.symm⟩

theorem compact_sorted (l : List Int) : Lib.compact (sorted l) = rise l := by
  obtain ⟨h1, h2⟩ := compact_of_le (sorted_le l) (sorted l).length (Nat.le_refl _)
  refine rise_eq h1 fun x => ?_
  rw [← mem_sorted (l := l)]
  refine (h2 x).trans ⟨?_, fun hx => ?_⟩
  · rintro ⟨j, hj, _, rfl⟩; exact List.getElem_mem _
  · obtain ⟨j, hj, e⟩ := List.getElem_of_mem hx
    exact ⟨j, hj, hj, e⟩

end Go.Proofs.YtihhinbjhiankaaGreatDoor.Al

/- PLAIN LAWS: binary heaps in lists. -/
namespace Go.Proofs.YtihhinbjhiankaaGreatDoor.Al

end Go.Proofs.YtihhinbjhiankaaGreatDoor.Al

/- PLAIN LAWS: numbers that are kept as a heap, and which they are. -/
namespace Go.Proofs.YtihhinbjhiankaaGreatDoor.Al

end Go.Proofs.YtihhinbjhiankaaGreatDoor.Al
