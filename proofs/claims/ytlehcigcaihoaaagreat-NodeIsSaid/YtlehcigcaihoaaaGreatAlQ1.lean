/-
  PLAIN LAWS: lengths, octets and numbers on the wire.
-/
import Derived.Test.YtlehcigcaihoaaaGreatAlP5
set_option linter.unusedSimpArgs false
set_option linter.unusedVariables false
namespace Go.Proofs.YtlehcigcaihoaaaGreat.Al

/-- How many octets a length has. -/
def vsize (n : Int) : Int := if n < 0 ∨ n > 1073741823 then 0 else if n < 64 then 1 else if n < 16384 then 2 else 4
def vput (n : Int) : List Int := if n < 0 ∨ n > 1073741823 then [] else if n < 64 then [n] else if n < 16384 then [64 + n / 256, n % 256] else [128 + n / 16777216, n / 65536 % 256, n / 256 % 256, n % 256]
def num (l : List Int) : Int := l.foldl (fun n x => n * 256 + x) 0
def vk (x : Int) : Nat := if x < 64 then 1 else if x < 128 then 2 else if x < 192 then 4 else 0
def vget : List Int → Int × List Int × Int
  | [] => (0, [], 1)
  | x :: b => if vk x = 0 then (0, [], 2) else if b.length + 1 < vk x then (0, [], 1) else
    if vsize (num (x % 64 :: b.take (vk x - 1))) ≠ vk x then (0, [], 2) else (num (x % 64 :: b.take (vk x - 1)), b.drop (vk x - 1), 0)

theorem vget_put {n : Int} (h0 : 0 ≤ n) (h : n ≤ 1073741823) (t : List Int) : vget (vput n ++ t) = (n, t, 0) := by
  unfold vput
  rw [if_neg (by omega)]
  by_cases h1 : n < 64
  · rw [if_pos h1]
    have e : n % 64 = n := by omega
    simp [vget, vk, h1, num, e, vsize, show ¬ (n < 0 ∨ 1073741823 < n) by omega]
  · rw [if_neg h1]
    by_cases h2 : n < 16384
    · rw [if_pos h2]
      have k : vk (64 + n / 256) = 2 := by unfold vk; rw [if_neg (by omega), if_pos (by omega)]
      have e : (64 + n / 256) % 64 * 256 + n % 256 = n := by omega
      have s : vsize n = 2 := by unfold vsize; rw [if_neg (by omega), if_neg h1, if_pos h2]
      have u : num ((64 + n / 256) % 64 :: [n % 256]) = n := by rw [← e]; simp only [num, List.foldl_cons, List.foldl_nil]; omega
      simp only [vget, List.cons_append, List.nil_append, k]
      rw [if_neg (by decide), if_neg (by simp only [List.length_cons]; omega)]
      simp only [Nat.reduceSub, List.take_succ_cons, List.take_zero, List.drop_succ_cons, List.drop_zero, u, s]
      rfl
    · rw [if_neg h2]
      have k : vk (128 + n / 16777216) = 4 := by unfold vk; rw [if_neg (by omega), if_neg (by omega), if_pos (by omega)]
      have e : (((128 + n / 16777216) % 64 * 256 + n / 65536 % 256) * 256 + n / 256 % 256) * 256 + n % 256 = n := by omega
      have s : vsize n = 4 := by unfold vsize; rw [if_neg (by omega), if_neg h1, if_neg h2]
      have u : num ((128 + n / 16777216) % 64 :: [n / 65536 % 256, n / 256 % 256, n % 256]) = n := by simp only [num, List.foldl_cons, List.foldl_nil]; omega
      simp only [vget, List.cons_append, List.nil_append, k]
      rw [if_neg (by decide), if_neg (by simp only [List.length_cons]; omega)]
      simp only [Nat.reduceSub, List.take_succ_cons, List.take_zero, List.drop_succ_cons, List.drop_zero, u, s]
      rfl
theorem vput_len {n : Int} (h0 : 0 ≤ n) (h : n ≤ 1073741823) : (vput n).length = (vsize n).toNat := by
  have hc : ¬ (n < 0 ∨ n > 1073741823) := by omega
  simp only [vput, vsize, hc, if_false]
  split
  · rfl
  · split <;> rfl
theorem vget_cut {n : Int} (h0 : 0 ≤ n) (h : n ≤ 1073741823) {c : Nat} (hc : c < (vput n).length) : vget ((vput n).take c) = (0, [], 1) := by
  unfold vput at *
  rw [if_neg (by omega)] at *
  by_cases h1 : n < 64
  · rw [if_pos h1] at *
    have : c = 0 := by simp at hc; omega
    subst this; rfl
  · rw [if_neg h1] at *
    by_cases h2 : n < 16384
    · rw [if_pos h2] at *
      have k : vk (64 + n / 256) = 2 := by unfold vk; rw [if_neg (by omega), if_pos (by omega)]
      simp only [List.length_cons, List.length_nil] at hc
      match c, hc with
      | 0, _ => rfl
      | 1, _ => simp [vget, k]
    · rw [if_neg h2] at *
      have k : vk (128 + n / 16777216) = 4 := by unfold vk; rw [if_neg (by omega), if_neg (by omega), if_pos (by omega)]
      simp only [List.length_cons, List.length_nil] at hc
      match c, hc with
      | 0, _ => rfl
      | 1, _ => simp [vget, k]
      | 2, _ => simp [vget, k]
      | 3, _ => simp [vget, k]
/-- Octets: each from 0 to 255. -/
def Bytes (b : List Int) : Prop := ∀ x ∈ b, 0 ≤ x ∧ x ≤ 255
theorem Bytes.app {a b : List Int} : Bytes (a ++ b) ↔ Bytes a ∧ Bytes b := by
  simp only [Bytes, List.mem_append]
  exact ⟨fun h => ⟨fun x hx => h x (.inl hx), fun x hx => h x (.inr hx)⟩, fun h x hx => hx.elim (h.1 x) (h.2 x)⟩
theorem vget_only {b : List Int} (hb : Bytes b) {n : Int} {r : List Int} (h : vget b = (n, r, 0)) : 0 ≤ n ∧ n ≤ 1073741823 ∧ vput n ++ r = b := by
  cases b with
  | nil => simp [vget] at h
  | cons x b =>
    have hx := hb x (by simp)
    have hb' : Bytes b := fun y hy => hb y (by simp [hy])
    by_cases h1 : x < 64
    · have k : vk x = 1 := by unfold vk; rw [if_pos h1]
      simp only [vget, k] at h
      simp [num, show x % 64 = x by omega, vsize, h1, show ¬ (x < 0 ∨ 1073741823 < x) by omega] at h
      obtain ⟨rfl, rfl⟩ := h
      exact ⟨hx.1, by omega, by unfold vput; rw [if_neg (by omega), if_pos h1]; rfl⟩
    · by_cases h2 : x < 128
      · have k : vk x = 2 := by unfold vk; rw [if_neg h1, if_pos h2]
        match b, hb', h with
        | [], _, h => simp [vget, k] at h
        | y :: r', hb', h =>
          have hy := hb' y (by simp)
          simp only [vget, k, Nat.reduceSub, List.take_succ_cons, List.take_zero, List.drop_succ_cons, List.drop_zero, num, List.foldl_cons, List.foldl_nil] at h
          rw [if_neg (by decide), if_neg (by simp)] at h
          by_cases hs : vsize ((0 * 256 + x % 64) * 256 + y) ≠ ((2 : Nat) : Int)
          · rw [if_pos hs] at h; simp at h
          · rw [if_neg hs] at h
            have hs := Classical.not_not.1 hs
            simp only [Prod.mk.injEq, and_true] at h
            obtain ⟨rfl, rfl⟩ := h
            have h3 : ¬ ((0 * 256 + x % 64) * 256 + y < 64) := fun h4 => by
              unfold vsize at hs; rw [if_neg (by omega), if_pos h4] at hs; omega
            refine ⟨by omega, by omega, ?_⟩
            unfold vput
            rw [if_neg (by omega), if_neg h3, if_pos (by omega)]
            simp only [List.cons_append, List.nil_append, List.cons.injEq, and_true]
            omega
      · by_cases h3 : x < 192
        · have k : vk x = 4 := by unfold vk; rw [if_neg h1, if_neg h2, if_pos h3]
          match b, hb', h with
          | [], _, h => simp [vget, k] at h
          | [_], _, h => simp [vget, k] at h
          | [_, _], _, h => simp [vget, k] at h
          | y :: z :: w :: r', hb', h =>
            have hy := hb' y (by simp)
            have hz := hb' z (by simp)
            have hw := hb' w (by simp)
            simp only [vget, k, Nat.reduceSub, List.take_succ_cons, List.take_zero, List.drop_succ_cons, List.drop_zero, num, List.foldl_cons, List.foldl_nil] at h
            rw [if_neg (by decide), if_neg (by simp only [List.length_cons]; omega)] at h
            by_cases hs : vsize ((((0 * 256 + x % 64) * 256 + y) * 256 + z) * 256 + w) ≠ ((4 : Nat) : Int)
            · rw [if_pos hs] at h; simp at h
            · rw [if_neg hs] at h
              have hs := Classical.not_not.1 hs
              simp only [Prod.mk.injEq, and_true] at h
              obtain ⟨rfl, rfl⟩ := h
              have h4 : ¬ ((((0 * 256 + x % 64) * 256 + y) * 256 + z) * 256 + w < 64) := fun h4 => by
                unfold vsize at hs; rw [if_neg (by omega), if_pos h4] at hs; omega
              have h5 : ¬ ((((0 * 256 + x % 64) * 256 + y) * 256 + z) * 256 + w < 16384) := fun h5 => by
                unfold vsize at hs; rw [if_neg (by omega), if_neg h4, if_pos h5] at hs; omega
              refine ⟨by omega, by omega, ?_⟩
              unfold vput
              rw [if_neg (by omega), if_neg h4, if_neg h5]
              simp only [List.cons_append, List.nil_append, List.cons.injEq, and_true]
              omega
        · have k : vk x = 0 := by unfold vk; rw [if_neg h1, if_neg h2, if_neg h3]
          simp [vget, k] at h
theorem vget_nat {b : List Int} (hb : Bytes b) : 0 ≤ (vget b).1 := by
  obtain ⟨n, r, e⟩ : ∃ x, x = vget b := ⟨_, rfl⟩
  rcases hv : vget b with ⟨n, r, e⟩
  by_cases h : e = 0
  · subst h; exact (vget_only hb hv).1
  · cases b with
    | nil => simp [vget] at hv; omega
    | cons x b =>
      simp only [vget] at hv
      split at hv
      · simp at hv; simp only; omega
      · split at hv
        · simp at hv; simp only; omega
        · split at hv
          · simp at hv; simp only; omega
          · simp at hv; omega

/-! Octets, and how many they are ahead of them -/
def pbytes (b v : List Int) : List Int := if (v.length : Int) > 1048576 then b else b ++ vput v.length ++ v
def gbytes (b : List Int) : List Int × List Int × Int :=
  if (vget b).2.2 ≠ 0 then ([], [], (vget b).2.2) else if (vget b).1 > 1048576 then ([], [], 4) else if (vget b).1 > ((vget b).2.1.length : Int) then ([], [], 1) else ((vget b).2.1.take (vget b).1.toNat, (vget b).2.1.drop (vget b).1.toNat, 0)
theorem gbytes_put {v : List Int} (h : v.length ≤ 1048576) (t : List Int) : gbytes (vput v.length ++ v ++ t) = (v, t, 0) := by
  have e := vget_put (n := (v.length : Int)) (by omega) (by omega) (v ++ t)
  rw [List.append_assoc]
  unfold gbytes
  rw [e, if_neg (by simp), if_neg (by simp; omega), if_neg (by simp; omega)]
  simp
theorem gbytes_only {b v r : List Int} (hb : Bytes b) (h : gbytes b = (v, r, 0)) : v.length ≤ 1048576 ∧ vput v.length ++ v ++ r = b := by
  unfold gbytes at h
  rcases hv : vget b with ⟨n, s, e⟩
  rw [hv] at h
  simp only at h
  by_cases he : e = 0
  · subst he
    obtain ⟨h0, h1, h2⟩ := vget_only hb hv
    rw [if_neg (by simp)] at h
    by_cases hn : n > 1048576
    · rw [if_pos hn] at h; simp at h
    · rw [if_neg hn] at h
      by_cases hs : n > (s.length : Int)
      · rw [if_pos hs] at h; simp at h
      · rw [if_neg hs] at h
        simp at h
        obtain ⟨rfl, rfl⟩ := h
        have hl : ((s.take n.toNat).length : Int) = n := by rw [List.length_take]; omega
        refine ⟨by omega, ?_⟩
        rw [hl, List.append_assoc, List.take_append_drop]; exact h2
  · rw [if_pos he] at h
    simp at h; exact absurd h.2.2 he
theorem gbytes_cut {v : List Int} (h : v.length ≤ 1048576) {c : Nat} (hc : c < (vput v.length ++ v).length) : gbytes ((vput v.length ++ v).take c) = ([], [], 1) := by
  have hl : (0 : Int) ≤ v.length := by omega
  by_cases h1 : c < (vput (v.length : Int)).length
  · have e := vget_cut hl (by omega) h1
    unfold gbytes
    rw [List.take_append_of_le_length (by omega), e]
    simp
  · rw [List.length_append] at hc
    have e := vget_put (n := (v.length : Int)) hl (by omega) (v.take (c - (vput (v.length : Int)).length))
    rw [List.take_append, List.take_of_length_le (by omega)]
    unfold gbytes
    rw [e, if_neg (by simp), if_neg (by simp; omega), if_pos (by simp; omega)]
theorem gbytes_rest {b v r : List Int} (hb : Bytes b) (h : gbytes b = (v, r, 0)) : Bytes v ∧ Bytes r := by
  have e := (gbytes_only hb h).2
  rw [← e, Bytes.app, Bytes.app] at hb
  exact ⟨hb.1.2, hb.2⟩
theorem pbytes_eq {b v : List Int} (h : v.length ≤ 1048576) : pbytes b v = b ++ (vput v.length ++ v) := by
  unfold pbytes; rw [if_neg (by omega), List.append_assoc]

/-! Numbers of four octets -/
def be4 (n : Int) : List Int := [n / 16777216 % 256, n / 65536 % 256, n / 256 % 256, n % 256]
def num4 : List Int → List Int
  | a :: b :: c :: d :: r => num [a, b, c, d] :: num4 r
  | _ => []
def pnums (b l : List Int) : List Int := pbytes b (l.flatMap be4)
def gnums (b : List Int) : List Int × List Int × Int :=
  if (gbytes b).2.2 ≠ 0 then ([], [], (gbytes b).2.2) else if (gbytes b).1.length % 4 ≠ 0 then ([], [], 2) else (num4 (gbytes b).1, (gbytes b).2.1, 0)
theorem be4_len (l : List Int) : (l.flatMap be4).length = 4 * l.length := by
  induction l with
  | nil => rfl
  | cons x l ih => rw [List.flatMap_cons, List.length_append, ih]; simp [be4]; omega
theorem num4_be4 {l : List Int} (h : ∀ x ∈ l, 0 ≤ x ∧ x ≤ 4294967295) : num4 (l.flatMap be4) = l := by
  induction l with
  | nil => rfl
  | cons x l ih =>
    have hx := h x (by simp)
    rw [List.flatMap_cons]
    simp only [be4, List.cons_append, List.nil_append, num4]
    have := ih fun y hy => h y (by simp [hy])
    rw [this]
    congr 1
    simp [num]; omega
theorem be4_num4 : ∀ {v : List Int}, Bytes v → v.length % 4 = 0 → (num4 v).flatMap be4 = v
  | [], _, _ => rfl
  | [_], _, h => by simp at h
  | [_, _], _, h => by simp at h
  | [_, _, _], _, h => by simp at h
  | a :: b :: c :: d :: r, hb, h => by
    have ha := hb a (by simp)
    have h1 := hb b (by simp)
    have hc := hb c (by simp)
    have hd := hb d (by simp)
    have ih := be4_num4 (v := r) (fun y hy => hb y (by simp [hy])) (by simp at h; omega)
    simp only [num4, List.flatMap_cons, ih]
    simp [be4, num]; omega
theorem gnums_put {l : List Int} (h : l.length ≤ 262144) (h2 : ∀ x ∈ l, 0 ≤ x ∧ x ≤ 4294967295) (t : List Int) : gnums (vput (l.flatMap be4).length ++ l.flatMap be4 ++ t) = (l, t, 0) := by
  have hl := be4_len l
  unfold gnums
  rw [gbytes_put (by omega) t]
  simp only [ne_eq, not_true_eq_false, if_false]
  rw [if_neg (by rw [hl]; omega), num4_be4 h2]
theorem gnums_only {b l r : List Int} (hb : Bytes b) (h : gnums b = (l, r, 0)) : vput (l.flatMap be4).length ++ l.flatMap be4 ++ r = b := by
  unfold gnums at h
  rcases hv : gbytes b with ⟨v, s, e⟩
  rw [hv] at h
  simp only at h
  by_cases he : e = 0
  · subst he
    rw [if_neg (by simp)] at h
    by_cases hm : v.length % 4 = 0
    · rw [if_neg (by omega)] at h
      simp at h
      obtain ⟨rfl, rfl⟩ := h
      rw [be4_num4 (gbytes_rest hb hv).1 hm]
      exact (gbytes_only hb hv).2
    · rw [if_pos hm] at h; simp at h
  · rw [if_pos he] at h
    simp at h; exact absurd h.2.2 he
theorem gnums_cut {l : List Int} (h : l.length ≤ 262144) {c : Nat} (hc : c < (vput (l.flatMap be4).length ++ l.flatMap be4).length) : gnums ((vput (l.flatMap be4).length ++ l.flatMap be4).take c) = ([], [], 1) := by
  have hl := be4_len l
  unfold gnums
  rw [gbytes_cut (by omega) hc]
  simp
end Go.Proofs.YtlehcigcaihoaaaGreat.Al
