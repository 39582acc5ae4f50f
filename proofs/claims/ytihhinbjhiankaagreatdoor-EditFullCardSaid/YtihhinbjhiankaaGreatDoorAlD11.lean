/-
  WHAT IS LAID BEHIND A WINDOW OF AN OWNED ROW, AND LOOKED AT ALONE.
-/
import Derived.Test.YtihhinbjhiankaaGreatDoorAlD10
set_option linter.unusedSimpArgs false
set_option linter.unusedVariables false
namespace Go.Proofs.YtihhinbjhiankaaGreatDoor.Al
open Go
variable {S : Seat} {m : List ME} {I X : Nat → Prop} {w : World} {H : List Entry}

theorem append_room_off {P : Program} {t u ty e : Nat} {inf : TypeInfo} {z : Value} (ht : ElOk P t e inf z) {d : TypeDesc} (hu : P.underlying u = some d) (hd : Rowish d)
    {g o sLen sCap n : Nat} {x : Value} {cur : Array Value} {news : List Value} {T : Nat} (hn : (Builtin.lenOf x).run P w = .ok n w) (hf : (Builtin.firstCells inf.size n x).run P w = .ok news.toArray w)
    (hg : w.heap[g]? = some (.cells cur T (0, 0))) (h1 : ∀ v ∈ news, v.oneCell' = true) (hroom : sLen + n ≤ sCap) (hfit : o + sLen * inf.size + news.length ≤ cur.size) :
    (Builtin.append_ #[t, u] ty #[.slice (some ⟨g, o, none⟩) sLen sCap, x]).run P w =
      .ok (.slice (some ⟨g, o, none⟩) (sLen + n) sCap) (w.setRow g (splice cur.toList (o + sLen * inf.size) news).toArray) := by
  have hst : (storeCells ⟨g, o + sLen * inf.size, none⟩ news 0).run P w = .ok () (w.setRow g (splice cur.toList (o + sLen * inf.size) news).toArray) :=
    run_storeCells_at P g (o + sLen * inf.size) T news 0 cur w hg (by simpa using hfit) h1
  rcases hd with ⟨e', rfl⟩ | rfl <;>
    (simp [Builtin.append_, run_underlying ht.und, run_underlying hu, sizeOf, typeInfo, ht.ti, hn, hroom, hf, Addr.add_lit, hst])

/-- What such an append leaves: the numbers, looked at alone. -/
def Left1 (S : Seat) (m : List ME) (I X : Nat → Prop) (w : World) (H : List Entry) (id : Nat) (zs : List Int) (vv : Value) (w' : World) : Prop :=
  ∃ (m' : List ME) (I' : Nat → Prop), (∀ b, I b → I' b) ∧ Sim S m' I' X w' (H.set id .dead) ∧ MLe m m' ∧ Ext I X w w' ∧ Rel S m' I' w' (ints zs) vv

theorem left1_end {w' : World} {m' : List ME} {id ver a : Nat} {zs : List Int} {vv : Value} (hid : id < H.length) (hs : Sim S m' I X w' (H.set id (.arr 1 ver (zs.map (AV.int .i64))))) (hm : MLe m m') (hx : Ext I X w w')
    (hv : Rel S m' I w' (.own id ver a zs.length) vv) : Left1 S m I X w H id (zs.drop a) vv w' := by
  obtain ⟨I2, hs2, hI2⟩ := freeze1_sound hs id
  have hg : (H.set id (.arr 1 ver (zs.map (AV.int .i64))))[id]? = some (.arr 1 ver (zs.map (AV.int .i64))) := List.getElem?_set_self hid
  have hf : freeze1 (H.set id (.arr 1 ver (zs.map (AV.int .i64)))) id = H.set id (.frz 1 ver (zs.map (AV.int .i64))) := by
    simp only [freeze1, hg, List.set_set]
  rw [hf] at hs2
  have hg2 : (H.set id (.frz 1 ver (zs.map (AV.int .i64))))[id]? = some (.frz 1 ver (zs.map (AV.int .i64))) := List.getElem?_set_self hid
  have h1 := derefN_sound hs2 2 (hv.mono (.refl m') hI2 fun _ _ => rfl)
  have e : derefN (H.set id (.frz 1 ver (zs.map (AV.int .i64)))) 2 (.own id ver a zs.length) = ints (zs.drop a) := by
    simp only [derefN, hg2, List.length_map, Nat.le_refl, and_self, if_true, ints]
    rw [List.take_of_length_le (by simp), ← List.map_drop, List.map_map]
    rfl
  rw [e] at h1
  have hs3 := hs2.retell (e1 := .dead) hg2 rfl trivial
  rw [List.set_set] at hs3
  exact ⟨m', I2, hI2, hs3, hm, hx, h1⟩

theorem append_lo (hs : Sim S m I X w H) {id ver lo hi : Nat} {xv : Value} (hx : Rel S m I w (.own id ver lo hi) xv) {t e : Nat} {inf : TypeInfo} {z : Value} (ht : ElOk S.P t e inf z)
    {run : Value → Result Value} {ks : List Int} {news : List Value} (hA : Appends S.P w e inf z run ks.length news)
    (hA2 : ∀ (g o l c : Nat) (cur : Array Value) (T : Nat), w.heap[g]? = some (.cells cur T (0, 0)) → l + ks.length ≤ c → o + l * inf.size + news.length ≤ cur.size →
      run (.slice (some ⟨g, o, none⟩) l c) = .ok (.slice (some ⟨g, o, none⟩) (l + ks.length) c) (w.setRow g (splice cur.toList (o + l * inf.size) news).toArray))
    (hcy : Cells S m I w inf.size (ks.map (AV.int .i64)) news) (h1z : inf.size = 1) (hby : inf.bytes ≤ 4096) {l : List Int} (hH : H[id]? = some (.arr 1 ver (l.map (AV.int .i64)))) (hlo : lo ≤ hi) (hhi : hi ≤ l.length)
    (hfit : hi + ks.length ≤ maxRow) (hk : ks ≠ []) : ∃ vv w', run xv = .ok vv w' ∧ Left1 S m I X w H id ((l.take hi).drop lo ++ ks) vv w' := by
  have hpos : 0 < ks.length := List.length_pos_iff.2 hk
  have hidl := lt_of_get hH
  obtain ⟨e1, h1, hrow⟩ := hs.hok id _ hH
  have hrow2 := hrow
  obtain ⟨r1, r0, r2, r3, r4, r5⟩ := hrow2
  clear r5
  rw [h1z] at hcy
  rw [List.length_map] at r2
  have hcl : news.length = ks.length := by rw [hcy.1]; simp
  cases hx with
  | own _ _ _ _ e2 _ he2 hver hrel =>
    rw [h1] at he2; cases he2
    obtain ⟨_, hhc, hcase⟩ := hrel (by omega)
    clear hrel
    have hlen2 : ((l.take hi).drop lo ++ ks).length = hi - lo + ks.length := by simp; omega
    have hge := grownCap_ge w (hi - lo + ks.length) (e1.cap - lo) e
    have hcm0 : hi - lo + ks.length ≤ 9223372036854775807 := by unfold maxRow at hfit; omega
    have hcm : grownCap w (hi - lo + ks.length) (e1.cap - lo) e ≤ 9223372036854775807 := by
      have := grownCap_le_maxLen w (hi - lo + ks.length) (e1.cap - lo) e (by simp only [maxLen]; omega)
      simpa [maxLen] using this
    have hbb : (hi - lo + ks.length) * inf.bytes ≤ 140737488355328 := by
      have := Nat.mul_le_mul (show hi - lo + ks.length ≤ maxRow by omega) hby
      unfold maxRow at this; omega
    -- elsewhere
    have grown : ∀ (vs : List Value), Cells S m I w 1 (((l.take hi).drop lo).map (AV.int .i64)) vs → ∀ (w' : World), w' = w.drew.alloc (.cells (vs ++ news ++ (Builtin.zeroCells z.cells (grownCap w (hi - lo + ks.length) (e1.cap - lo) e - (hi - lo + ks.length))).toList).toArray e) →
        Left1 S m I X w H id ((l.take hi).drop lo ++ ks) (.slice (some ⟨w.heap.size, 0, none⟩) (hi - lo + ks.length) (grownCap w (hi - lo + ks.length) (e1.cap - lo) e)) w' := by
      intro vs hvs w' hw'
      generalize hgc : grownCap w (hi - lo + ks.length) (e1.cap - lo) e = gc at *
      have hold : ∀ k : Nat, k < w.heap.size → w'.heap[k]? = w.heap[k]? := fun k hk => by rw [hw']; exact heap_alloc_old w.drew _ hk
      have hme : (m.set id (⟨ver + 1, w.heap.size, 1, gc, false⟩ : ME))[id]? = some ⟨ver + 1, w.heap.size, 1, gc, false⟩ := List.getElem?_set_self (List.getElem?_eq_some_iff.1 h1).1
      have hgg : (⟨ver + 1, w.heap.size, 1, gc, false⟩ : ME) = e1 ∨ e1.ver < (⟨ver + 1, w.heap.size, 1, gc, false⟩ : ME).ver := .inr (by simp; omega)
      have hcells := (hvs.append hcy).mono (MLe.set h1 hgg) (fun _ hb => hb) (fun b hb => hold b (hs.lt b (.inl hb)))
      rw [← List.map_append] at hcells
      have hvl : vs.length = hi - lo := by rw [hvs.1]; simp; omega
      have hsim := hs.write (e := .arr 1 (ver + 1) (((l.take hi).drop lo ++ ks).map (AV.int .i64))) hH rfl h1 hgg (fun k hk _ => hold k hk) (by rw [hw']; simp) (fun _ => .inr (Nat.le_refl _))
        ⟨_, hme, rfl, rfl, by rw [List.length_map, hlen2]; exact hge, hcm, hcells.2.1, by
          refine RowAt.of_cells hcells rfl (by rw [hw']; exact heap_alloc_new w.drew _) ?_
          simp only [List.length_append, hvl, hcl, Array.length_toList, size_zeroCells, ht.size, h1z]
          omega⟩
      have := left1_end (a := 0) (w := w) hidl hsim (MLe.set h1 hgg) ⟨by rw [hw']; rfl, by rw [hw']; rfl, by rw [hw']; rfl, by rw [hw']; simp, fun b hb => hold b (hs.lt b hb)⟩
        (.own _ _ _ _ _ (.slice (some ⟨w.heap.size, 0, none⟩) (hi - lo + ks.length) gc) hme (Nat.le_refl _) (fun _ => ⟨Nat.zero_le _, by rw [hlen2]; exact hge, .inr ⟨rfl, 0, by rw [hlen2]; simp, fun _ => by simp⟩⟩))
      simpa using this
    rcases hcase with ⟨q1, q2, a0, rfl⟩ | ⟨q1, off, rfl, q2⟩
    · have hhi0 : hi = 0 := by omega
      have hlo0 : lo = 0 := by omega
      subst hhi0; subst hlo0
      have hrun := hA.grow a0 0 0 [] (by cases a0 with | none => exact run_firstCells_none _ _ _ _ _ | some a => exact run_firstCells_some w.drew _ 0 a 0 0 [] (by simp) (by simp)) hpos (by omega) (by simpa using hbb) (by simpa using hcm0)
      simp only [Nat.sub_self, Nat.sub_zero, q2] at grown
      exact ⟨_, _, hrun, grown [] (by simpa using Cells.nil 1) _ rfl⟩
    · obtain ⟨arr, T, ha, hasz, hcx⟩ := hrow.to_cells q1
      rw [r0] at hcx hasz
      rw [List.length_map, Nat.mul_one] at hcx
      rw [Nat.mul_one] at hasz
      have htk : Cells S m I w 1 ((l.take hi).map (AV.int .i64)) (arr.toList.take hi) := by
        have := hcx.take (n := hi) (by simpa using hhi)
        rwa [← List.map_take, List.take_take, Nat.mul_one, Nat.min_eq_left hhi] at this
      by_cases hroom : hi + ks.length ≤ e1.cap
      · have hoff := q2 (by omega)
        rw [r0, Nat.mul_one] at hoff
        subst hoff
        have hat : off + (hi - off) * inf.size = hi := by rw [h1z]; omega
        have hrun := hA2 e1.blk off (hi - off) (e1.cap - off) arr T ha (by omega) (by rw [hat, hcl, hasz]; exact hroom)
        rw [hat] at hrun
        have hw : ∀ k : Nat, k < w.heap.size → (e1.nilrow = false → k ≠ e1.blk) → (w.setRow e1.blk (splice arr.toList hi news).toArray).heap[k]? = w.heap[k]? := fun k _ hk => setRow_other w e1.blk k _ (hk q1)
        have hI : ∀ b, I b ∨ X b → (w.setRow e1.blk (splice arr.toList hi news).toArray).heap[b]? = w.heap[b]? := fun b hb =>
          hw b (hs.lt b hb) (fun _ e1' => by
            have := hs.sep id _ e1 hH rfl h1 q1
            rcases hb with hb | hb
            · exact this.1 (e1' ▸ hb)
            · exact this.2 (e1' ▸ hb))
        have hme : (m.set id (⟨ver + 1, e1.blk, 1, e1.cap, false⟩ : ME))[id]? = some (⟨ver + 1, e1.blk, 1, e1.cap, false⟩ : ME) := List.getElem?_set_self (List.getElem?_eq_some_iff.1 h1).1
        have hgg : (⟨ver + 1, e1.blk, 1, e1.cap, false⟩ : ME) = e1 ∨ e1.ver < (⟨ver + 1, e1.blk, 1, e1.cap, false⟩ : ME).ver := .inr (by simp; omega)
        have hcells := (htk.append hcy).mono (MLe.set h1 hgg) (fun _ hb => hb) (fun b hb => hI b (.inl hb))
        rw [← List.map_append] at hcells
        have hlen : (l.take hi ++ ks).length = hi + ks.length := by simp; omega
        have hsim := hs.write (e := .arr 1 (ver + 1) ((l.take hi ++ ks).map (AV.int .i64))) hH rfl h1 hgg hw (by simp) (fun _ => .inl ⟨q1, rfl⟩) ⟨_, hme, rfl, rfl, by rw [List.length_map, hlen]; exact hroom, r3, hcells.2.1, by
          refine RowAt.of_cells (vs := arr.toList.take hi ++ news) (tail := arr.toList.drop (hi + news.length)) (T := T) hcells rfl (setRow_heap w e1.blk arr _ T _ ha) ?_
          have := splice_length (L := arr.toList) (vs := news) (o := hi) (by rw [hcl]; simpa [hasz] using hroom)
          unfold splice at this
          rw [this, Nat.mul_one]; simpa using hasz⟩
        have := left1_end (a := off) (w := w) hidl hsim (MLe.set h1 hgg) ⟨rfl, rfl, rfl, by simp, hI⟩
          (.own _ _ _ _ _ (.slice (some ⟨e1.blk, off, none⟩) (hi - off + ks.length) (e1.cap - off)) hme (Nat.le_refl _) (fun _ => ⟨by rw [hlen]; omega, by rw [hlen]; exact hroom, .inr ⟨rfl, off, by rw [hlen, show hi + ks.length - off = hi - off + ks.length by omega], fun _ => by simp⟩⟩))
        rw [List.drop_append_of_le_length (by simp; omega)] at this
        exact ⟨_, _, hrun, this⟩
      · have hold : (Builtin.firstCells inf.size (hi - lo) (.slice (some ⟨e1.blk, off, none⟩) (hi - lo) (e1.cap - lo))).run S.P w.drew = .ok ((arr.toList.take hi).drop lo).toArray w.drew := by
          by_cases h0 : hi - lo = 0
          · have : (arr.toList.take hi).drop lo = [] := List.drop_eq_nil_of_le (by simp; omega)
            rw [h0, this]
            exact run_firstCells_some (P := S.P) w.drew inf.size 0 ⟨e1.blk, off, none⟩ 0 _ [] (by simp) (by simp)
          · have hoff := q2 (by omega)
            rw [r0, Nat.mul_one] at hoff
            subst hoff
            refine run_firstCells_some w.drew _ _ _ _ _ _ (by rw [h1z, Nat.mul_one, List.length_drop, htk.1]; simp; omega) (fun k u hk => ?_)
            rw [addr_add]
            show w.cell? ⟨e1.blk, off + k, none⟩ = some u
            rw [cell_of_row w e1.blk _ arr T (0, 0) ha]
            rw [List.getElem?_drop, List.getElem?_take] at hk
            split at hk
            · simpa using hk
            · cases hk
        have hrun := hA.grow (some ⟨e1.blk, off, none⟩) (hi - lo) (e1.cap - lo) _ hold hpos (by omega) hbb hcm0
        refine ⟨_, _, hrun, grown _ ?_ _ rfl⟩
        have := htk.drop (n := lo) (by simp; omega)
        rwa [← List.map_drop, Nat.mul_one] at this
end Go.Proofs.YtihhinbjhiankaaGreatDoor.Al
