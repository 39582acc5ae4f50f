/-
  A WINDOW OF AN OWNED ROW: what is laid behind it; functions that hand one over.
-/
import Derived.Test.YtihhinbjhiankaaGreatDoorAlD11
set_option linter.unusedSimpArgs false
set_option linter.unusedVariables false
namespace Go.Proofs.YtihhinbjhiankaaGreatDoor.Al
open Go
variable {S : Seat} {m : List ME} {I X : Nat → Prop} {w : World} {H : List Entry}

theorem trBuiltin_append {b : Builtin} {ts : List Nat} {args : List Operand} {esz bytes : Nat} {x y : Opd} (ht : trBuiltin S b ts args = some (.append esz bytes x y)) :
    ∃ (t u : Nat) (p q : Operand) (te : TE) (d : Nat), b = .append ∧ ts = [t, u] ∧ args = [p, q] ∧ telem S t = some te ∧ S.P.underlying u = some (.slice d) ∧ trOpd S p = some x ∧ trOpd S q = some y ∧ esz = te.i.size ∧ bytes = te.i.bytes := by
  unfold trBuiltin at ht
  split at ht
  all_goals (try (simp only [Option.map_eq_some_iff] at ht; obtain ⟨_, _, h⟩ := ht; cases h; done))
  all_goals (try ((repeat' split at ht) <;> (cases ht; done)))
  rename_i t u p q
  split at ht
  · rename_i te d x' y' h1 h2 h3 h4
    cases ht
    exact ⟨t, u, p, q, te, d, rfl, rfl, rfl, h1, h2, h3, h4, rfl, rfl⟩
  · cases ht
  · cases ht
theorem trOp_append {op : Go.Op} {esz bytes : Nat} {x y : Opd} (ht : trOp S op = some (.append esz bytes x y)) : ∃ (c : Go.Call) (b : Builtin), op = .call c ∧ c.callee = .builtin b ∧ trBuiltin S b c.argTypes.toList c.args.toList = some (.append esz bytes x y) := by
  cases op <;> simp only [trOp] at ht <;> (try (cases ht; done)) <;> (try (simp only [Option.map_eq_some_iff] at ht; obtain ⟨_, _, h⟩ := ht; cases h; done)) <;> (try ((repeat' split at ht) <;> (cases ht; done)))
  case call c =>
    unfold trCall at ht
    split at ht
    · rename_i b hb
      exact ⟨c, b, rfl, hb, ht⟩
    · split at ht <;> cases ht
    · split at ht <;> cases ht
  case makeFunc fn a b =>
    cases fn <;> simp only [trOp] at ht <;> (try (cases ht; done)) <;> ((repeat' split at ht) <;> (cases ht; done))
  case typeAssert a b c k =>
    cases k <;> simp only [trOp] at ht <;> (try (simp only [Option.map_eq_some_iff] at ht; obtain ⟨_, _, h⟩ := ht; cases h; done)) <;> (try (cases ht; done)) <;> ((repeat' split at ht) <;> (cases ht; done))
  all_goals (try unfold trBin at ht) <;> (try unfold trConv at ht)
  all_goals (try ((repeat' (first | split at ht | (simp only [Option.map_eq_some_iff] at ht; obtain ⟨_, _, ht⟩ := ht))) <;> (cases ht; done)))

theorem appOp_lo (hs : Sim S m I X w H) {env : Env} {a : Act} (he : EnvR S m I w env a.tmps) {o : Oper} {bytes : Nat} {x y : Opd} (ht : trOp S o.op = some (.append 1 bytes x y)) {id ver lo hi : Nat} {l ks : List Int}
    (hx : x.ev env = .own id ver lo hi) (hH : H[id]? = some (.arr 1 ver (l.map (AV.int .i64)))) (hy : seen H (y.ev env) = some (ks.map (AV.int .i64))) (hk : ks ≠ []) (hby : bytes ≤ 4096) (hlo : lo ≤ hi) (hhi : hi ≤ l.length)
    (hfit : hi + ks.length ≤ maxRow) : ∃ vv w', (execOp a.eval o).run S.P w = .ok (.value vv) w' ∧ Left1 S m I X w H id ((l.take hi).drop lo ++ ks) vv w' := by
  obtain ⟨dst, oo, ty, pos, aft, grd⟩ := o
  simp only at ht
  obtain ⟨c, b, rfl, hb, ht⟩ := trOp_append ht
  obtain ⟨t, u, p, q, te, d, rfl, hts, has, h1, h2, h3, h4, hz, hbb⟩ := trBuiltin_append ht
  obtain ⟨hel, hza, hpos, hz1⟩ := telem_ok h1
  have hxr := trOpd_sound he h3
  have hyr := trOpd_sound he h4
  rw [hx] at hxr
  have hszk : szOk H te.i.size (ks.map (AV.int .i64)) = true := by
    rw [← hz]
    simp [szOk, AV.cells, AV.oneIn]
  obtain ⟨ao, cc, vs, hval, hc, hcy, hcell⟩ := seen_cells hs hyr hy (szOk_len hszk)
  rw [List.length_map] at hval
  have hfc : ∀ w' : World, w'.heap = w.heap → (Builtin.firstCells te.i.size ks.length (a.eval q)).run S.P w' = .ok vs.toArray w' := by
    intro w' hw'
    rw [hval]
    obtain ⟨b0, off, rfl, hcells⟩ := hcell (by simpa using hk)
    exact run_firstCells_some w' _ _ _ _ _ vs (by rw [hcy.1]; simp) (fun k u hk => by rw [cell_of_heap (w := w) (by rw [hw'])]; exact hcells k u hk)
  have hln : (Builtin.lenOf (a.eval q)).run S.P w = .ok ks.length w := by simp [hval, Builtin.lenOf]
  have h1c : ∀ v ∈ vs, v.oneCell' = true := hcy.one hs (szOk_one hszk)
  have hA : Appends S.P w te.e te.i te.z (fun s => (Builtin.append_ #[t, u] ty #[s, a.eval q]).run S.P w) ks.length vs :=
    appends_of hel h2 (.inl ⟨_, rfl⟩) hln hfc (fun h0 => absurd (List.eq_nil_of_length_eq_zero h0) hk) h1c
  obtain ⟨vv, w', hrun, hleft⟩ := append_lo hs hxr hel hA (fun g o l c cur T hg hroom hfit => append_room_off hel h2 (.inl ⟨_, rfl⟩) hln (hfc w rfl) hg h1c hroom hfit) hcy hz.symm (by rw [← hbb]; exact hby) hH hlo hhi hfit hk
  refine ⟨vv, w', ?_, hleft⟩
  obtain ⟨callee, args, argTypes⟩ := c
  obtain ⟨args⟩ := args
  obtain ⟨argTypes⟩ := argTypes
  simp only at hb hts has
  subst hb; subst hts; subst has
  simp only [execOp, resolve, Sem.run_bind, Sem.run_pure, Result.andThen_ok, invoke]
  simp [builtin, hrun]

theorem SRun.appLo {r : Option Nat} {N : Nat} {Q : St → Prop} {o : IOper} {l : List IOper} {env : Env} {bytes : Nat} {x y : Opd} {id ver lo hi : Nat} {xs ks : List Int} (hg : gdec env o.guard = some true) (ho : o.op = .append 1 bytes x y)
    (hx : x.ev env = .own id ver lo hi) (hH : H[id]? = some (.arr 1 ver (xs.map (AV.int .i64)))) (hy : seen H (y.ev env) = some (ks.map (AV.int .i64))) (hk : ks ≠ []) (hby : bytes ≤ 4096) (hlo : lo ≤ hi) (hhi : hi ≤ xs.length)
    (hfit : hi + ks.length ≤ maxRow) (k : SRun S r N l Q ⟨updo env o.dst (ints ((xs.take hi).drop lo ++ ks)), H.set id .dead⟩) : SRun S r N (o :: l) Q ⟨env, H⟩ := by
  intro cops idx hm m0 I0 X0 w0 QM hQ m I X w a hf hs hfr
  cases idx with
  | nil => exact hm.elim
  | cons i is =>
    obtain ⟨⟨c, hc, ht⟩, hrest⟩ := hm
    obtain ⟨p1, p2, p3, p4, p5⟩ := trOper_parts ht
    have hw := guard_sound ht hfr.env hg
    simp only [wpOpsIn, hc, hw, if_true]
    refine ⟨fun f _ => FW_fn r f, ?_⟩
    rw [FW_round, Oper.semAt_eq r _ _ (trOp_noDefer p1)]
    rw [ho] at p1
    obtain ⟨vv, w', hrun, m', I', hI, hs', hle, hext, hrel⟩ := appOp_lo hs hfr.env p1 hx hH hy hk hby hlo hhi hfit
    rw [hrun]
    have hfr' : Fr S m' I' X w' w0.heap.size N (updo env o.dst (ints ((xs.take hi).drop lo ++ ks))) (a.put c.dst vv) := by
      rw [p2]; exact (hfr.mono hle hI hext).put p3 hrel
    exact k cops is hrest m0 I0 X0 w0 QM hQ m' I' X w' _ (hf.step hle hI (fun _ hb => hb) hext) hs' hfr'
/-- Some operations, then others by themselves. -/
theorem runW_then {T : List (Reg S)} {r : Option Nat} {N : Nat} {l2 : List IOper} {Q : St → Prop} : ∀ {l : List IOper} {st : St}, runW S T l (fun st => SRun S r N l2 Q st) st → SRun S r N (l ++ l2) Q st
  | [], st, h => by simpa [runW] using h
  | ⟨d, op, g, aft⟩ :: l, ⟨env, H⟩, h => by
    simp only [runW] at h
    split at h
    · rename_i hg
      split at h
      · rename_i f xs
        rcases h.sound with ⟨c, first, captured, R, h1, h2, h3, h4⟩ | ⟨id, R, h1, h3, h4⟩
        · exact .call (o := ⟨d, .call f xs, g, aft⟩) hg rfl h1 h2 h3 fun v H' hR => runW_then (h4 v H' hR)
        · exact .yield (o := ⟨d, .call f xs, g, aft⟩) hg rfl h1 h3 fun v H' hR => runW_then (h4 v H' hR)
      · rename_i f nm xs
        obtain ⟨t, v, c, R, rv, h1, h2, h3, h4, h5⟩ := h
        exact .invoke (o := ⟨d, .invoke f nm xs, g, aft⟩) hg rfl ⟨t, v, c, R, rv, h1, h2, h3, h4, fun v H' hR => runW_then (h5 v H' hR)⟩
      · split at h
        · rename_i v H' he
          exact .op (o := ⟨d, op, g, aft⟩) hg he (runW_then h)
        · exact h.elim
    · rename_i hg
      exact .skip (o := ⟨d, op, g, aft⟩) hg (runW_then h)
    · exact h.elim
theorem WP.regionAt (T : List (Reg S)) (n : Nat) {r : Option Nat} {N b : Nat} {l : List IOper} {Q : Exit → St → Prop} {st : St} (h : runW S T (l.take n) (fun st => SRun S r N (l.drop n) (Q .normal) st) st) : WP S r N b (.region l false) Q st :=
  WP.region (by have := runW_then h; rwa [List.take_append_drop] at this)

/-- A function that hands over a window of a row of its own, from lo to its end. -/
def FunWin (S : Seat) (c : Nat) (args : List AV) (sz lo : Nat) (xs : List AV) : Prop := ∀ H, ACall S c args H fun r H' => r = .own H.length 0 lo xs.length ∧ H' = H ++ [.arr sz 0 xs]

theorem ACall.outWin {c : Nat} {args : List AV} {R R' : AV → List Entry → Prop} (k lo : Nat) (h : ACall S c args H R)
    (hR : ∀ r H', R r H' → H'.take H.length = H ∧ ∃ id ver sz xs, r = .own id ver lo xs.length ∧ H.length ≤ id ∧ H'[id]? = some (.arr sz ver xs) ∧
      (∀ x ∈ xs, ∀ y ∈ (derefN (freezeP (fun i => decide (H.length ≤ i) && i != id) H') k x).cells, Idb H.length y) ∧
      R' (.own H.length 0 lo xs.length) (H ++ [.arr sz 0 (xs.map (derefN (freezeP (fun i => decide (H.length ≤ i) && i != id) H') k))])) : ACall S c args H R' := by
  intro m I X w vs hs hv
  refine (h m I X w vs hs hv).mono ?_
  rintro e w' ⟨r, H', vv, m', I', h1, h2, h3, h4, h5, h6, h7⟩
  obtain ⟨p1, id, ver, sz, xs, rfl, p3, p4, p5, p6⟩ := hR r H' h2
  obtain ⟨I2, hs2, hI2⟩ := h4.freezeP (fun i => decide (H.length ≤ i) && i != id)
  have hH2 : (freezeP (fun i => decide (H.length ≤ i) && i != id) H')[id]? = some (.arr sz ver xs) := by rw [freezeP_get, p4]; simp
  have htk : (freezeP (fun i => decide (H.length ≤ i) && i != id) H').take H.length = H := by
    refine Eq.trans ?_ p1
    apply List.ext_getElem?
    intro i
    rw [List.getElem?_take, List.getElem?_take]
    split
    · rename_i hi
      rw [freezeP_get]
      have : decide (H.length ≤ i) = false := by simp; omega
      cases H'[i]? <;> simp [this]
    · rfl
  generalize hHf : freezeP (fun i => decide (H.length ≤ i) && i != id) H' = Hf at *
  obtain ⟨g, hg, hrow⟩ := hs2.hok id _ hH2
  have hbig : m'.take H.length = m'.take H.length := rfl
  have ht := hs2.take (n := H.length) (fun j e hj he => by
    have e1 : H[j]? = some e := by rw [← htk, get_take hj]; exact he
    have := (hs.hok j e e1).entB
    rwa [hs.len] at this)
  rw [htk] at ht
  have hlen : (m'.take H.length).length = H.length := ht.len
  let g' : ME := { g with ver := 0 }
  have hrel := h3.mono (.refl m') hI2 (fun _ _ => rfl)
  obtain ⟨r1, r0, r2, r3, r4, r5⟩ := hrow
  have hmg : (m'.take H.length ++ [g'])[H.length]? = some g' := by
    rw [List.getElem?_append_right (by omega), hlen, Nat.sub_self]; rfl
  have hle : MLe (m'.take H.length) (m'.take H.length ++ [g']) := MLe.push _ _
  have hcont : ∀ (i : Nat) (x : AV), (xs.map (derefN Hf k))[i]? = some x → ∀ (j : Nat) (y : AV), x.cells[j]? = some y → ∃ x0 y0 k', xs[i]? = some x0 ∧ x0.cells[j]? = some y0 ∧ y = derefN Hf k' y0 ∧ Idb H.length y := by
    intro i x hx j y hy
    rw [List.getElem?_map] at hx
    cases hx0 : xs[i]? with
    | none => rw [hx0] at hx; cases hx
    | some x0 =>
      rw [hx0] at hx; cases hx
      obtain ⟨y0, k'', hy0, _, hyy⟩ := (derefN_cells Hf k x0).2 j y hy
      exact ⟨x0, y0, k'', rfl, hy0, hyy, p5 x0 (List.mem_of_getElem? hx0) y (List.mem_of_getElem? hy)⟩
  have hrow' : RowOk S (m'.take H.length ++ [g']) I2 w' g' sz 0 (xs.map (derefN Hf k)) := by
    refine ⟨rfl, r0, by simpa using r2, r3, fun x hx => ?_, ?_⟩
    · obtain ⟨x0, hx0, rfl⟩ := List.mem_map.1 hx
      rw [(derefN_cells Hf k x0).1]; exact r4 x0 hx0
    · rcases r5 with r5 | ⟨r5, arr, T, ha, hsz, hc⟩
      · exact .inl r5
      · refine .inr ⟨r5, arr, T, ha, hsz, fun i x hx j y hy => ?_⟩
        obtain ⟨x0, y0, k', hx0, hy0, rfl, hidb⟩ := hcont i x hx j y hy
        exact ((derefN_sound hs2 k' (hc i x0 hx0 j y0 hy0)).take hidb).mono hle (fun _ hb => hb) (fun _ _ => rfl)
  have hsim : Sim S (m'.take H.length ++ [g']) I2 X w' (H ++ [.arr sz 0 (xs.map (derefN Hf k))]) := by
    have keyH : ∀ {j : Nat} {e : Entry}, H[j]? = some e → Hf[j]? = some e ∧ j < H.length := by
      intro j e hj
      have hlt := lt_of_get hj
      rw [← htk, get_take hlt] at hj; exact ⟨hj, hlt⟩
    have keym : ∀ {j : Nat} {g1 : ME}, j < H.length → (m'.take H.length ++ [g'])[j]? = some g1 → m'[j]? = some g1 := by
      intro j g1 hj hg1
      rw [List.getElem?_append_left (by omega), get_take hj] at hg1; exact hg1
    refine ⟨by simp [hlen], fun j e he => ?_, fun j e g1 he hl hg1 hn => ?_, fun j j' e e' g1 g2 he hl he' hl' hg1 hg2 hn1 hn2 hb => ?_, ht.lt, ht.disj, ht.gl⟩
    · rcases getElem?_push_cases he with ⟨he, hlt⟩ | ⟨rfl, rfl⟩
      · exact (ht.hok j e he).keep hle (fun _ hb => hb) (fun _ _ => rfl) (List.getElem?_append_left (by omega)) (fun _ _ _ _ => rfl)
      · exact ⟨g', hmg, hrow'⟩
    · rcases getElem?_push_cases he with ⟨he, hlt⟩ | ⟨rfl, rfl⟩
      · exact hs2.sep j e g1 (keyH he).1 hl (keym hlt hg1) hn
      · rw [hmg] at hg1; cases hg1
        exact hs2.sep id _ g hH2 rfl hg hn
    · rcases getElem?_push_cases he with ⟨k1, l1⟩ | ⟨i1, x1⟩
      · rcases getElem?_push_cases he' with ⟨k2, l2⟩ | ⟨i2, x2⟩
        · exact hs2.inj j j' e e' g1 g2 (keyH k1).1 hl (keyH k2).1 hl' (keym l1 hg1) (keym l2 hg2) hn1 hn2 hb
        · subst i2
          rw [hmg] at hg2; cases hg2
          have := hs2.inj j id e _ g1 g (keyH k1).1 hl hH2 rfl (keym l1 hg1) hg hn1 hn2 hb
          omega
      · subst i1
        rw [hmg] at hg1; cases hg1
        rcases getElem?_push_cases he' with ⟨k2, l2⟩ | ⟨i2, x2⟩
        · have := hs2.inj id j' _ e' g g2 hH2 rfl (keyH k2).1 hl' hg (keym l2 hg2) hn1 hn2 hb
          omega
        · exact i2.symm
  refine ⟨_, _, vv, _, I2, h1, p6, ?_, hsim, (h5.take (by rw [hs.len]; exact Nat.le_refl _)).trans hle, fun b hb => hI2 b (h6 b hb), h7⟩
  cases hrel with
  | own _ _ _ _ e2 _ he2 hver hrel =>
    rw [hg] at he2; cases he2
    exact .own _ _ _ _ g' _ hmg (Nat.le_refl _) (fun _ => hrel r1.symm)

theorem FunWin.zero {c : Nat} {args : List AV} {sz lo : Nat} {xs : List AV} (ha : ∀ x ∈ args, Idb 0 x) (hx : ∀ x ∈ xs, ∀ y ∈ x.cells, Idb 0 y) (h : ACall S c args [] fun r H' => r = .own 0 0 lo xs.length ∧ H' = [.arr sz 0 xs]) : FunWin S c args sz lo xs := by
  intro H m I X w vs hs hv
  refine (h [] I _ w vs (hide_sound hs) (hv.closed ha)).mono ?_
  rintro e w' ⟨r', H', vv, m', I', h1, ⟨rfl, rfl⟩, h3, h4, h5, h6, h7⟩
  have hun := unhide_sound hs h4 h6 h7
  obtain ⟨g, hg, r1, r0, r2, r3, r4, r5⟩ := h4.hok 0 (.arr sz 0 xs) rfl
  have hsep := h4.sep 0 (.arr sz 0 xs) g rfl rfl hg
  have hmg : (m ++ [g])[H.length]? = some g := by rw [← hs.len, List.getElem?_append_right (Nat.le_refl _), Nat.sub_self]; rfl
  refine ⟨_, _, vv, m ++ [g], I', h1, ⟨rfl, rfl⟩, ?_, hun.add ?_ ?_, MLe.push m g, h6, ⟨h7.os, h7.tape, h7.output, h7.size, fun b hb => h7.keep b (hb.imp id .inl)⟩⟩
  · cases h3 with
    | own _ _ _ _ e2 _ he2 hver hrel =>
      rw [hg] at he2; cases he2
      exact .own _ _ _ _ g _ hmg hver hrel
  · refine ⟨g, hmg, r1, r0, r2, r3, r4, ?_⟩
    rcases r5 with r5 | ⟨r5, arr, T, ha, hsz, hc⟩
    · exact .inl r5
    · refine .inr ⟨r5, arr, T, ha, hsz, fun i x hi j y hy => ?_⟩
      have := (hc i x hi j y hy).take (hx x (List.mem_of_getElem? hi) y (List.mem_of_getElem? hy))
      rw [List.take_zero] at this
      exact this.mono (MLe.nil _) (fun _ hb => hb) (fun _ _ => rfl)
  · intro hn
    obtain ⟨n1, n2⟩ := hsep hn
    exact ⟨n1, fun hx => n2 (.inl hx), fun hl => n2 (.inr hl)⟩

theorem FunWin.of0W {c : Nat} {f : IFn} (ht : trFn S c = some f) {args : List AV} {sz lo : Nat} {xs : List AV} (hn : args.length ≤ f.N) (ha : ∀ x ∈ args, Idb 0 x) (hx : ∀ x ∈ xs, ∀ y ∈ x.cells, Idb 0 y)
    (h : WP S none f.N 0 f.body (leaves f.res fun r H' => ∃ id ver, r = .own id ver lo xs.length ∧ H'[id]? = some (.arr sz ver xs)) ⟨envL (args.zipIdx.map fun p => (p.2, p.1)), []⟩) : FunWin S c args sz lo xs := by
  refine FunWin.zero ha hx (ACall.outWin 0 lo (R := fun r H' => ∃ id ver, r = .own id ver lo xs.length ∧ H'[id]? = some (.arr sz ver xs)) (ACall.of_wp ht hn (by rw [start_env]; exact h)) ?_)
  rintro r H' ⟨id, ver, rfl, h2⟩
  have hm : ∀ G : List Entry, xs.map (derefN G 0) = xs := fun G => by
    have : derefN G 0 = fun x => x := by funext x; rfl
    rw [this]; simp
  exact ⟨by simp, id, ver, sz, xs, by simp, Nat.zero_le _, h2, fun x hx' y hy => hx x hx' y hy, by simp, by rw [hm]; rfl⟩
end Go.Proofs.YtihhinbjhiankaaGreatDoor.Al
