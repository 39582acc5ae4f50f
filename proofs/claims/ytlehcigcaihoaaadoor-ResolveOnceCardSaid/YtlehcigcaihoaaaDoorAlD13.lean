/-
  ITERATORS THAT GO OVER ITERATORS: while they run, their own loops stand behind the caller's heap.
-/
import Derived.Test.YtlehcigcaihoaaaDoorAlD7
set_option linter.unusedSimpArgs false
set_option linter.unusedVariables false
namespace Go.Proofs.YtlehcigcaihoaaaDoor.Al
open Go
variable {S : Seat} {m : List ME} {I X : Nat → Prop} {w : World} {H : List Entry}

/-- A loop over a function: as in C, and that its record is one. -/
theorem WP.rangeX {N b : Nat} {Q : Exit → St → Prop} {env : Env} {g : Opd} {ps : List Nat} {assign body : IC} {c : Nat} {first captured : List AV} (hg : g.ev env = .func (.f c) first captured) (hcb : Callable S c)
    (h : ∀ L : LSt → Entry, (∀ s, ∃ E, L s = .loop E) → (∀ z H1 R, Round S N env ps assign body H.length L z H1 R → AYield S H.length z H1 R) →
      ACall S c (first ++ [.func (.y H.length) [] []] ++ captured) (H ++ [L .ready]) (fun _ H' => (H'[H.length]? = some (L .ready) ∧ Q .normal ⟨env, H'.set H.length .dead⟩) ∨
        ∃ j, H'[H.length]? = some (L (.done j)) ∧ Q j.leave ⟨env, H'.set H.length .dead⟩)) : WP S none N b (.rangeFunc g ps assign body) Q ⟨env, H⟩ := by
  intro cc hc m0 I0 X0 w0 m I X w a _ hf hs hfr
  cases cc <;> simp only [trCode] at hc <;> (try (cases hc; done)) <;> (try (obtain ⟨y, _, hy⟩ := Option.map_eq_some_iff.1 hc; cases hy; done)) <;> (try ((repeat' split at hc) <;> cases hc; done))
  rename_i go ps' ca cb
  split at hc
  · rename_i g' a' b' t0 t1 t2
    split at hc
    · rename_i hall
      cases hc
      have hps : ∀ p ∈ ps'.toList, p < N := by
        intro p hp
        have := Array.all_eq_true'.1 hall p (by simpa using hp)
        simpa using this
      have hr := trOpd_sound hfr.env t0
      rw [hg] at hr
      obtain ⟨fs, cs, hval, r1, r2⟩ := func_val hr
      have ha := hfr.env
      refine wpIn_rangeFunc fun fn _ => ?_
      obtain ⟨w1, hw1⟩ : ∃ w1, ((w.alloc (.deferred (some []))).alloc (.loop { state := .ready, pending := none, fn := fn, tmps := a.tmps, params := ps', assign := ca, body := cb, defers := w.heap.size })) = w1 := ⟨_, rfl⟩
      have hcall : ∀ (l : Nat) (w : World), (invoke (.fn (.func (S.fn c)) cs) (fs ++ #[.func (.yield l) #[] #[]])).run S.P w = .ok (.enter (S.fn c) (fs ++ #[.func (.yield l) #[] #[]] ++ cs)) w := fun l w => run_callFunc hcb _
      refine ⟨w.heap.size + 1, [{ target := .collected w.heap.size, args := #[] }], w1, { target := .fn (.func (S.fn c)) cs, args := fs ++ #[.func (.yield (w.heap.size + 1)) #[] #[]] }, w1, S.fn c, fs ++ #[.func (.yield (w.heap.size + 1)) #[] #[]] ++ cs, w1,
        by rw [FW_round, ← hw1]; exact run_enterLoop_outer fn a.tmps ps' ca cb, ?_, fun _ _ => FW_fn _ _, hcall _ _, (fun hd => by rw [FW_depth] at hd; cases hd), ?_⟩
      · have hm : ∀ v : Value, #[Operand.const v].map a.eval = #[v] := fun v => by simp [Act.eval]
        simp only [resolve, hval, Deferred.ofValue, hm]
        rfl
      rw [callsIn_FW]
      have hold : ∀ k : Nat, k < w.heap.size → w1.heap[k]? = w.heap[k]? := by
        intro k hk
        rw [← hw1, heap_alloc_old _ _ (by rw [World.size_alloc]; omega), heap_alloc_old _ _ hk]
      have hd : w1.heap[w.heap.size]? = some (.deferred (some [])) := by
        rw [← hw1, heap_alloc_old _ _ (by rw [World.size_alloc]; omega), heap_alloc_new]
      have hlp : w1.heap[w.heap.size + 1]? = some (.loop { state := .ready, pending := none, fn := fn, tmps := a.tmps, params := ps', assign := ca, body := cb, defers := w.heap.size }) := by
        rw [← hw1, show w.heap.size + 1 = (w.alloc (.deferred (some []))).heap.size by rw [World.size_alloc], heap_alloc_new]
      have hsz1 : w1.heap.size = w.heap.size + 2 := by rw [← hw1, World.size_alloc, World.size_alloc]
      have hle : MLe m (m ++ [⟨0, w.heap.size + 1, 0, 0, false⟩]) := MLe.push _ _
      have hext : Ext I X w w1 := ⟨by rw [← hw1]; rfl, by rw [← hw1]; rfl, by rw [← hw1]; rfl, by omega, fun b hb => hold b (hs.lt b hb)⟩
      have hIw : ∀ b, I b → w1.heap[b]? = w.heap[b]? := fun b hb => hold b (hs.lt b (.inl hb))
      have hmg : (m ++ [(⟨0, w.heap.size + 1, 0, 0, false⟩ : ME)])[H.length]? = some ⟨0, w.heap.size + 1, 0, 0, false⟩ := by
        rw [← hs.len, List.getElem?_append_right (Nat.le_refl _), Nat.sub_self]; rfl
      let L : LSt → Entry := fun st => .loop ⟨N, env, ps'.toList, ca, cb, w.heap.size, st⟩
      have hs1 : Sim S (m ++ [⟨0, w.heap.size + 1, 0, 0, false⟩]) I X w1 (H ++ [L .ready]) := by
        refine hs.push hold (by omega) (fun _ => by simp) ?_
        refine ⟨_, a.tmps, fn, hmg, rfl, rfl, hfr.size, fun j => (ha j).mono hle (fun _ hb => hb) hIw, ?_⟩
        simpa [LSt.state, LSt.pend] using hlp
      have hnl : ¬ Lives (m ++ [⟨0, w.heap.size + 1, 0, 0, false⟩]) (H ++ [L .ready]) w.heap.size := by
        rintro ⟨id, e, g1, he, hl, hg1, hn, hbk⟩
        rcases getElem?_push_cases he with ⟨he, hlt⟩ | ⟨rfl, rfl⟩
        · rw [List.getElem?_append_left (by rw [hs.len]; exact hlt)] at hg1
          have := hs.blk_lt he hl hg1 hn
          omega
        · rw [hmg] at hg1; cases hg1
          simp at hbk
      have hs2 := hs1.more (b := w.heap.size) (by omega) (fun hi => by have := hs.lt _ (.inl hi); omega) hnl
      have hargs : Rels S (m ++ [⟨0, w.heap.size + 1, 0, 0, false⟩]) I w1 (first ++ [.func (.y H.length) [] []] ++ captured) (fs ++ #[.func (.yield (w.heap.size + 1)) #[] #[]] ++ cs) := by
        refine ((r1.mono hle (fun _ hb => hb) hIw).append ⟨rfl, fun i x hx => ?_⟩).append (r2.mono hle (fun _ hb => hb) hIw)
        cases i with
        | zero => cases hx; exact .func _ _ _ _ _ _ ⟨_, hmg, fun _ => rfl⟩ rfl rfl (by simp) (by simp)
        | succ i => simp at hx
      have hyield : ∀ z H1 R, Round S N env ps'.toList assign body H.length L z H1 R → AYield S H.length z H1 R := fun z H1 R hR => AYield.of_round t1 t2 hps hR
      refine (h L (fun s => ⟨_, rfl⟩) hyield _ I _ w1 _ hs2 hargs).mono ?_
      rintro e w3 ⟨rv, H', vv, m', I', rfl, hR, hrel, hsim, hle3, hI3, hext3⟩
      obtain ⟨rs, hdf, hnd, hmk⟩ := hfr.marks
      have hfr3 : ∀ w4 : World, Ext I' (fun k => X k ∨ k = w.heap.size) w3 w4 → Fr S m' I' (fun k => X k ∨ k = w.heap.size) w4 w0.heap.size N env { a with defers := [{ target := .collected w.heap.size, args := #[] }] ++ a.defers } := by
        intro w4 hx4
        refine ⟨?_, hfr.size, w.heap.size :: rs, by rw [hdf]; rfl, List.nodup_cons.2 ⟨fun hm => by have := heap_lt (hmk _ hm).2.2; omega, hnd⟩, fun r hr => ?_⟩
        · have := (EnvR.mono (S := S) ha (hle.trans hle3) hI3 (fun b hb => by rw [hext3.keep b (.inl hb)]; exact hIw b hb))
          exact this.mono (.refl m') (fun _ hb => hb) (fun b hb => hx4.keep b (.inl hb))
        · have hXr : X r ∨ r = w.heap.size := by
            rcases List.mem_cons.1 hr with rfl | hr
            · exact .inr rfl
            · exact .inl (hmk r hr).1
          refine ⟨hXr, ?_, ?_⟩
          · rcases List.mem_cons.1 hr with rfl | hr
            · exact hf.ext.size
            · exact (hmk r hr).2.1
          · rw [hx4.keep r (.inr hXr), hext3.keep r (.inr hXr)]
            rcases List.mem_cons.1 hr with rfl | hr
            · exact hd
            · rw [hold r (heap_lt (hmk r hr).2.2)]; exact (hmk r hr).2.2
      have hentry : ∀ st : LSt, H'[H.length]? = some (L st) → ∃ lp : Loop, m'[H.length]? = some ⟨0, w.heap.size + 1, 0, 0, false⟩ ∧ w3.heap[w.heap.size + 1]? = some (.loop lp) ∧ lp.state = st.state ∧ lp.pending = st.pend := by
        intro st hst
        obtain ⟨e', hme, hmle⟩ := hle3 _ _ hmg
        obtain ⟨e2, t2, f2, g1, g2, g3, g4, g5, g6⟩ := hsim.hok _ _ hst
        rw [hme] at g1; cases g1
        rcases hmle with h1 | h1
        · subst h1
          exact ⟨_, hme, g6, rfl, rfl⟩
        · simp at h1; omega
      have hfrom : From m0 I0 X0 w0 m' I' (fun k => X k ∨ k = w.heap.size) w3 := by
        have hfr1 : From m0 I0 X0 w0 (m ++ [⟨0, w.heap.size + 1, 0, 0, false⟩]) I (fun k => X k ∨ k = w.heap.size) w1 := hf.step hle (fun _ hb => hb) (fun _ hb => .inl hb) hext
        exact hfr1.step hle3 hI3 (fun _ hb => hb) hext3
      rcases hR with ⟨hst, hQ⟩ | ⟨j, hst, hQ⟩
      · obtain ⟨lp, hme, hl3, hstt, hpd⟩ := hentry _ hst
        obtain ⟨hs4, hx4⟩ := loop_end hsim hst hme (.loop { lp with state := .exhausted })
        refine ⟨none, _, (run_endLoop (P := S.P) hl3 (by rw [hstt]; exact fun h => by cases h)).trans (congrArg (fun x => Result.ok x _) hpd), ?_⟩
        exact ⟨_, m', I', _, hQ, trivial, hfrom.step (.refl m') (fun _ hb => hb) (fun _ hb => hb) hx4, hs4, hfr3 _ hx4⟩
      · obtain ⟨lp, hme, hl3, hstt, hpd⟩ := hentry _ hst
        obtain ⟨hs4, hx4⟩ := loop_end hsim hst hme (.loop { lp with state := .exhausted })
        refine ⟨some j.code, _, (run_endLoop (P := S.P) hl3 (by rw [hstt]; exact fun h => by cases h)).trans (congrArg (fun x => Result.ok x _) hpd), ?_⟩
        have hpost : Post S m0 I0 X0 w0 N Q j.leave { a with defers := [{ target := .collected w.heap.size, args := #[] }] ++ a.defers } (w3.putObj (w.heap.size + 1) (.loop { lp with state := .exhausted })) :=
          ⟨_, m', I', _, hQ, by cases j <;> trivial, hfrom.step (.refl m') (fun _ hb => hb) (fun _ hb => hb) hx4, hs4, hfr3 _ hx4⟩
        cases j with
        | ret => exact wpIn_ret hpost
        | exit id => exact wpIn_exit hpost
        | goto l => exact wpIn_goto hpost
    · cases hc
  · cases hc

/-- What a loop's record turns into does not matter, and what is pushed does not. -/
structure Calm (n : Nat) (J : List Entry → Prop) : Prop where
  push : ∀ (H : List Entry) (e : Entry), J H → J (H ++ [e])
  loop : ∀ (H : List Entry) (j : Nat) (L : LoopE) (e : Entry), n ≤ j → H[j]? = some (.loop L) → J H → J (H.set j e)
/-- The records of loops, from n on, are left alone. -/
def Leaves (n : Nat) (H1 H2 : List Entry) : Prop := ∀ (j : Nat) (L : LoopE), n ≤ j → H1[j]? = some (.loop L) → H2[j]? = some (.loop L)

/-- An iterator yields some rows of values, one by one, to whatever loop. -/
def GivesB (S : Seat) (c : Nat) (cap : List AV) (xs : List (List AV)) : Prop :=
  ∀ (id : Nat) (H0 : List Entry) (J : Nat → List Entry → Prop) (Jx : List Entry → Prop), (∀ k, Calm H0.length (J k)) → Calm H0.length Jx → (∀ k H, J k H → H0.length ≤ H.length) → J 0 H0 →
    (∀ k (hk : k < xs.length) H1, J k H1 → AYield S id xs[k] H1 (fun r H2 => Leaves H0.length H1 H2 ∧ ((r = .bool true ∧ J (k + 1) H2) ∨ (r = .bool false ∧ Jx H2)))) →
    ACall S c ([.func (.y id) [] []] ++ cap) H0 (fun _ H' => J xs.length H' ∨ Jx H')

/-- A loop over such an iterator. -/
theorem WP.rangeB {N b : Nat} {Q : Exit → St → Prop} {H : List Entry} {env : Env} {g : Opd} {ps : List Nat} {assign body : IC} {c : Nat} {cap : List AV} (xs : List (List AV)) (hg : g.ev env = .func (.f c) [] cap) (hcb : Callable S c) (hG : GivesB S c cap xs)
    (hps : ∀ x ∈ xs, x.length = ps.length) (G : Nat → List Entry) (P : Nat → Prop) (hlen : ∀ k, (G k).length = H.length) (hP : P 0) (h0 : G 0 = H)
    (hround : ∀ k (hk : k < xs.length), P k → ∀ (l : Nat) (T : List Entry) (b : Nat), b = H.length + T.length → WP S (some l) N b assign (fun e st => e = .normal ∧ ∃ X, st.H = G k ++ (T ++ X) ∧
      ∀ T', T'.length = T.length → WP S (some l) N b body (RoundQ G P H.length Q env k T') ⟨st.env, G k ++ (T' ++ X)⟩) ⟨setPs env ps xs[k], G k ++ T⟩)
    (hend : P xs.length → ∀ T, Q .normal ⟨env, G xs.length ++ T⟩) : WP S none N b (.rangeFunc g ps assign body) Q ⟨env, H⟩ := by
  refine WP.range (first := []) hg hcb fun L hy => ?_
  have getT : ∀ (A T : List Entry), A.length = H.length → (A ++ T)[H.length]? = T[0]? := fun A T h => by
    rw [List.getElem?_append_right (by omega), h, Nat.sub_self]
  have setT : ∀ (A T : List Entry) (x : Entry), A.length = H.length → (A ++ T).set H.length x = A ++ T.set 0 x := fun A T x h => by
    rw [List.set_append_right _ _ (by omega), h, Nat.sub_self]
  have hn : (H ++ [L .ready]).length = H.length + 1 := by simp
  have pushT : ∀ {A T : List Entry} {x : Entry} (e : Entry), T[0]? = some x → (T ++ [e])[0]? = some x := fun e h => by
    rw [List.getElem?_append_left (lt_of_get h)]; exact h
  have setL : ∀ {A T : List Entry} {x e : Entry} {j : Nat}, A.length = H.length → H.length + 1 ≤ j → T[0]? = some x → (A ++ T).set j e = A ++ T.set (j - H.length) e ∧ (T.set (j - H.length) e)[0]? = some x := by
    intro A T x e j hA hj hT
    refine ⟨by rw [List.set_append_right _ _ (by omega), hA], ?_⟩
    rw [List.getElem?_set_ne (by omega)]; exact hT
  refine (hG H.length _ (fun k H1 => P k ∧ ∃ T, H1 = G k ++ T ∧ T[0]? = some (L .ready)) (fun H1 => ∃ j H2 T, H1 = H2 ++ T ∧ H2.length = H.length ∧ T[0]? = some (L (.done j)) ∧ ∀ T3, Q j.leave ⟨env, H2 ++ T3⟩) ?_ ?_ ?_ ⟨hP, [L .ready], by rw [h0], rfl⟩ ?_).mono ?_
  · intro k
    refine ⟨?_, ?_⟩
    · rintro H1 e ⟨hp, T, rfl, hT⟩
      exact ⟨hp, T ++ [e], by rw [List.append_assoc], pushT (A := G k) e hT⟩
    · rintro H1 j L' e hj _ ⟨hp, T, rfl, hT⟩
      rw [hn] at hj
      obtain ⟨h1, h2⟩ := setL (e := e) (hlen k) hj hT
      exact ⟨hp, _, h1, h2⟩
  · refine ⟨?_, ?_⟩
    · rintro H1 e ⟨j, H2, T, rfl, h2, hT, hq⟩
      exact ⟨j, H2, T ++ [e], by rw [List.append_assoc], h2, pushT (A := H2) e hT, hq⟩
    · rintro H1 j L' e hj _ ⟨j', H2, T, rfl, h2, hT, hq⟩
      rw [hn] at hj
      obtain ⟨h3, h4⟩ := setL (e := e) h2 hj hT
      exact ⟨j', H2, _, h3, h2, h4, hq⟩
  · rintro k H1 ⟨_, T, rfl, hT⟩
    have := lt_of_get hT
    simp [hlen]; omega
  · rintro k hk H1 ⟨hp, T, rfl, hT⟩
    have hT0 : 0 < T.length := lt_of_get hT
    refine hy _ _ _ ⟨by rw [getT _ _ (hlen k)]; exact hT, hps _ (List.getElem_mem hk), fun l => ?_⟩
    refine WP.mono (hround k hk hp l T _ (by simp [hlen])) ?_
    rintro e st ⟨rfl, X, hH, hbody⟩
    have hTX : (T ++ X)[0]? = T[0]? := List.getElem?_append_left hT0
    have hTS : ∀ x, (T ++ X).set 0 x = T.set 0 x ++ X := fun x => by rw [List.set_append_left _ _ hT0]
    refine ⟨rfl, by rw [hH, getT _ _ (hlen k), hTX]; exact hT, ?_⟩
    rw [hH, setT _ _ _ (hlen k), hTS]
    have hb := hbody (T.set 0 (L .busy)) (by simp)
    refine WP.mono hb ?_
    rintro e' st' ⟨H2, T2, h1, h2, h3, h4⟩
    have hbz : T2[0]? = some (L .busy) := by
      rw [h3 0 (by simpa using hT0), List.getElem?_set_self hT0]
    refine ⟨by rw [h1, getT _ _ h2]; exact hbz, ?_⟩
    have hl2 := lt_of_get hbz
    have keep : ∀ x, Leaves (H ++ [L .ready]).length (G k ++ T) (H2 ++ T2.set 0 x) := by
      intro x j L' hj hL'
      rw [hn] at hj
      have h1 := hlen k
      rw [List.getElem?_append_right (by omega), h1] at hL'
      have hlt := lt_of_get hL'
      rw [List.getElem?_append_right (by omega), h2, List.getElem?_set_ne (by omega), h3 _ (by simpa using hlt), List.getElem?_set_ne (by omega)]
      exact hL'
    cases e' with
    | normal =>
      obtain ⟨h5, rfl⟩ := h4
      exact ⟨by rw [h1, setT _ _ _ h2]; exact keep _, .inl ⟨rfl, h5, T2.set 0 (L .ready), by rw [h1, setT _ _ _ h2], List.getElem?_set_self hl2⟩⟩
    | _ =>
      obtain ⟨j, h5, h6⟩ := h4
      exact ⟨j, h5, by rw [h1, setT _ _ _ h2]; exact keep _, .inr ⟨rfl, j, H2, T2.set 0 (L (.done j)), by rw [h1, setT _ _ _ h2], h2, List.getElem?_set_self hl2, h6⟩⟩
  · rintro r H' (⟨hp, T, rfl, hT⟩ | ⟨j, H2, T, rfl, h2, hT, hq⟩)
    · refine .inl ⟨by rw [getT _ _ (hlen _)]; exact hT, ?_⟩
      rw [setT _ _ _ (hlen _)]
      exact hend hp _
    · refine .inr ⟨j, by rw [getT _ _ h2]; exact hT, ?_⟩
      rw [setT _ _ _ h2]
      exact hq _

end Go.Proofs.YtlehcigcaihoaaaDoor.Al
