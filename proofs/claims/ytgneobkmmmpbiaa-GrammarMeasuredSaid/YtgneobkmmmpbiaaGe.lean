/- Sizes of fields, and their sums. -/
import Derived.Test.YtgneobkmmmpbiaaGd
namespace Go.Proofs.Ytgneobkmmmpbiaa
open Go Go.Proofs Go.Eng
set_option linter.unusedVariables false
set_option linter.unusedSimpArgs false

theorem packH_len (e : Int) (s : ByteArray) : (packH e s).length = (s.size + (bif e == 2 && Nat.beq (s.size % 2) 1 then 1 else 0) + (bif Nat.beq ((s.size + (bif e == 2 && Nat.beq (s.size % 2) 1 then 1 else 0)) % 2) 1 then 1 else 0)) / 2 := by
  have h1 : (packL e s).length = s.size + (bif e == 2 && Nat.beq (s.size % 2) 1 then 1 else 0) := by
    unfold packL preL
    rw [List.length_append, halvesL_len]
    cases e == 2 && Nat.beq (s.size % 2) 1 <;> simp <;> omega
  have h2 : (packL2 e s).length = s.size + (bif e == 2 && Nat.beq (s.size % 2) 1 then 1 else 0) + (bif Nat.beq ((s.size + (bif e == 2 && Nat.beq (s.size % 2) 1 then 1 else 0)) % 2) 1 then 1 else 0) := by
    unfold packL2
    rw [List.length_append, h1]
    cases Nat.beq ((s.size + (bif e == 2 && Nat.beq (s.size % 2) 1 then 1 else 0)) % 2) 1 <;> rfl
  unfold packH pairsL
  rw [List.length_map, List.length_range, h2]
theorem prefixL_len (e d n m : Int) : (prefixL e d n).length = (prefixL e d m).length := by
  unfold prefixL
  cases e == 5
  · simp only [cond_false]
    cases e == 2
    · simp only [cond_false]; rw [wrtL_len, wrtL_len, bytesStr_size, bytesStr_size, writeL_len, writeL_len]
    · simp only [cond_true]; rw [packH_len, packH_len, bytesStr_size, bytesStr_size, writeL_len, writeL_len]
  · simp only [cond_true]; rw [List.length_drop, List.length_drop]; rfl
theorem prefixL_le {e d : Int} (n : Int) (hd : d ≤ 4) : (prefixL e d n).length ≤ 4 := by
  unfold prefixL
  cases e == 5
  · simp only [cond_false]
    cases e == 2
    · simp only [cond_false]; rw [wrtL_len, bytesStr_size, writeL_len]; omega
    · simp only [cond_true]; rw [packH_len, bytesStr_size, writeL_len]
      have : ∀ b : Bool, (bif b then 1 else 0) ≤ 1 := fun b => by cases b <;> decide
      have h1 := this (e == 2 && Nat.beq (d.toNat % 2) 1)
      have h2 := this (Nat.beq ((d.toNat + (bif e == 2 && Nat.beq (d.toNat % 2) 1 then 1 else 0)) % 2) 1)
      omega
  · simp only [cond_true]; rw [List.length_drop]; simp; omega
theorem widthZ_range {e n : Int} (h0 : 0 ≤ n) (h : n ≤ 120) : 0 ≤ widthZ e n ∧ widthZ e n ≤ 120 := by
  unfold widthZ
  rw [dF (show ¬ n < 0 by omega), Int.tdiv_eq_ediv_of_nonneg h0, Int.tmod_eq_emod_of_nonneg h0, w64 (n := n / 2) (by omega) (by omega), w64 (by omega) (by omega)]
  cases e == 2 <;> cases e == 3 <;> cases e == 1 <;> cases e == 4 <;> cases e == 5 <;> simp only [cond_true, cond_false] <;> omega

/-- The size of a field with its length. -/
def fs (g : GV) : Int := preSize g + widthZ (cellG true g 2).asInt (cellG true g 5).asInt
theorem wide_pos {e d n : Int} (h : prefixOk e d n = true) : (wideZ e d == 0) = false := by
  unfold prefixOk at h
  simp only [Bool.and_eq_true, decide_eq_true_eq] at h
  obtain ⟨he, h1, h4, h0, hlt⟩ := h
  rw [beq_eq_false_iff_ne, wideZ_of he h1 h4]
  cases e == 5 || e == 2 <;> simp <;> omega
theorem prefixOk_d {e d n : Int} (h : prefixOk e d n = true) : encOk e = true ∧ 1 ≤ d ∧ d ≤ 4 := by
  unfold prefixOk at h
  simp only [Bool.and_eq_true, decide_eq_true_eq] at h
  exact ⟨h.1, h.2.1, h.2.2.1⟩
theorem wide_zero (e : Int) : (wideZ e 0 == 0) = true := by
  have : wideZ e 0 = 0 := rfl
  rw [this]; rfl
theorem pre_range {g : GV} (h : okField g) : 0 ≤ preSize g ∧ preSize g ≤ 4 := by
  unfold preSize
  rcases h.len with h' | h'
  · rw [h', wide_zero]; simp
  · rw [wide_pos h']
    have := prefixL_le (e := (cellG true g 4).asInt) 0 (prefixOk_d h').2.2
    simp only [cond_false]; omega
theorem fs_range {g : GV} (h : okField g) : 0 ≤ fs g ∧ fs g ≤ 200 := by
  unfold fs
  have h1 := pre_range h
  have h2 := widthZ_range (e := (cellG true g 2).asInt) h.size.1 h.size.2
  omega
theorem fieldSize_ok {g : GV} (h : okField g) : fieldSize g = fs g := by
  have h1 := fs_range h
  unfold fieldSize
  unfold fs at *
  exact w64 (by omega) (by omega)
theorem preOk_ok {g : GV} (h : okField g) : preOk g = true := by
  unfold preOk
  rcases h.len with h' | h'
  · rw [h', wide_zero]; rfl
  · rw [wide_pos h']
    obtain ⟨h1, h2, h3⟩ := prefixOk_d h'
    rw [prefixOk_of h1 h2 h3 (by omega) (Int.pow_pos (by omega))]
    rfl

/-- Numbers, sums and the second half: of those that are taken. -/
def numsN (F : List GV) (b : Nat → Bool) (n : Nat) : List GV := ((List.range n).filter b).map fun i => cellG true (nth F i) 0
def sumN (F : List GV) (b : Nat → Bool) : Nat → Int
  | 0 => 0
  | n + 1 => sumN F b n + bif b n then fs (nth F n) else 0
def bigN (F : List GV) (b : Nat → Bool) : Nat → Bool
  | 0 => false
  | n + 1 => bif b n then (bif bigN F b n then true else decide (num (nth F n) > 64)) else bigN F b n
theorem sumN_succ (F : List GV) (b : Nat → Bool) (n : Nat) : sumN F b (n + 1) = sumN F b n + bif b n then fs (nth F n) else 0 := rfl
theorem bigN_succ (F : List GV) (b : Nat → Bool) (n : Nat) : bigN F b (n + 1) = bif b n then (bif bigN F b n then true else decide (num (nth F n) > 64)) else bigN F b n := rfl
theorem numsN_succ (F : List GV) (b : Nat → Bool) (n : Nat) : numsN F b (n + 1) = numsN F b n ++ bif b n then [cellG true (nth F n) 0] else [] := by
  unfold numsN
  rw [List.range_succ, List.filter_append, List.map_append]
  congr 1
  simp only [List.filter_cons, List.filter_nil]
  cases b n <;> rfl
theorem goodF.at {F : List GV} {last : Int} (h : goodF F last) {i : Nat} (hi : i < F.length) : okField (nth F i) := h.ok _ (nth_mem hi)
theorem goodF.lt {F : List GV} {last : Int} (h : goodF F last) {i j : Nat} (hij : i < j) (hj : j < F.length) : num (nth F i) < num (nth F j) := by
  have := List.pairwise_iff_getElem.1 h.up i j (by omega) hj hij
  have e : ∀ k (hk : k < F.length), nth F k = F[k] := fun k hk => by unfold nth; simp [List.getD_eq_getElem?_getD, List.getElem?_eq_getElem hk]
  rw [e i (by omega), e j hj]; exact this
theorem goodF.inj {F : List GV} {last : Int} (h : goodF F last) {i j : Nat} (hi : i < F.length) (hj : j < F.length) (he : num (nth F i) = num (nth F j)) : i = j := by
  rcases Nat.lt_trichotomy i j with h1 | h1 | h1
  · have := h.lt h1 hj; omega
  · exact h1
  · have := h.lt h1 hi; omega
theorem goodF.spec {F : List GV} {last : Int} (h : goodF F last) {i : Nat} (hi : i < F.length) : specF F (num (nth F i)) = true ∧ specV F (num (nth F i)) = nth F i := by
  have e : ∀ k (hk : k < F.length), nth F k = F[k] := fun k hk => by unfold nth; simp [List.getD_eq_getElem?_getD, List.getElem?_eq_getElem hk]
  have hx : specI F (num (nth F i)) = i := by
    unfold specI
    rw [List.findIdx_eq hi]
    constructor
    · rw [← e i hi]; exact beq_self_eq_true _
    · intro j hj
      have := h.lt hj hi
      rw [← e j (by omega)]
      exact beq_eq_false_iff_ne.2 (show num (nth F j) ≠ num (nth F i) by omega)
  have hf : specF F (num (nth F i)) = true := by unfold specF; rw [hx]; exact dT hi
  refine ⟨hf, ?_⟩
  unfold specV
  rw [hf, hx]; rfl
theorem sumN_range {F : List GV} {last : Int} (h : goodF F last) (b : Nat → Bool) : ∀ n, n ≤ F.length → 0 ≤ sumN F b n ∧ sumN F b n ≤ 200 * n := by
  intro n
  induction n with
  | zero => intro _; exact ⟨by simp [sumN], by simp [sumN]⟩
  | succ n ih =>
    intro hn
    have h1 := ih (by omega)
    have h2 := fs_range (h.at (show n < F.length by omega))
    rw [sumN_succ]
    cases b n <;> simp only [cond_true, cond_false] <;> omega
/-- The longest message: the sum. -/
theorem most_sum {F : List GV} {last : Int} (h : goodF F last) (hl : F.length ≤ 22) (b : Nat → Bool) {x : Int} (hx0 : 0 ≤ x) (hx : x ≤ 100000) (f : Bool) : ∀ n, n ≤ F.length →
    (numsN F b n).foldl (mostStep F) (x, f) = (x + sumN F b n, bif f then true else bigN F b n) := by
  intro n
  induction n with
  | zero => intro _; show (x, f) = _; cases f <;> simp [sumN, bigN]
  | succ n ih =>
    intro hn
    rw [numsN_succ, List.foldl_append, ih (by omega)]
    have hi : n < F.length := by omega
    obtain ⟨s1, s2⟩ := h.spec hi
    have h1 := sumN_range h b n (by omega)
    have h2 := fs_range (h.at hi)
    rw [sumN_succ, bigN_succ]
    cases hb : b n with
    | false => simp
    | true =>
      simp only [cond_true, List.foldl_cons, List.foldl_nil]
      unfold mostStep
      unfold num at s1 s2
      rw [s1, s2, fieldSize_ok (h.at hi)]
      simp only [cond_true]
      rw [w64 (by omega) (by omega)]
      show (_, bif _ then true else decide (num (nth F n) > 64)) = _
      have : x + sumN F b n + fs (nth F n) = x + (sumN F b n + fs (nth F n)) := by omega
      rw [this]
      cases f <;> rfl
theorem sum_two {F : List GV} {c : Nat → Nat} (hc : ∀ i, c i = 0 ∨ c i = 1 ∨ c i = 2) : ∀ n, sumN F (fun i => Nat.beq (c i) 1) n + sumN F (fun i => Nat.beq (c i) 2) n = sumN F (fun i => !Nat.beq (c i) 0) n ∧
    (bif bigN F (fun i => Nat.beq (c i) 1) n then true else bigN F (fun i => Nat.beq (c i) 2) n) = bigN F (fun i => !Nat.beq (c i) 0) n := by
  intro n
  induction n with
  | zero => exact ⟨rfl, rfl⟩
  | succ n ih =>
    rw [sumN_succ, sumN_succ, sumN_succ, bigN_succ, bigN_succ, bigN_succ, ← ih.1, ← ih.2]
    rcases hc n with h | h | h <;> rw [h]
    · exact ⟨by simp [Nat.beq], by simp [Nat.beq]⟩
    · refine ⟨by simp only [Nat.beq, cond_true, cond_false, Bool.not_false]; omega, ?_⟩
      simp only [Nat.beq, cond_true, cond_false, Bool.not_false]
      cases bigN F (fun i => Nat.beq (c i) 1) n <;> cases bigN F (fun i => Nat.beq (c i) 2) n <;> cases decide (num (nth F n) > 64) <;> rfl
    · refine ⟨by simp only [Nat.beq, cond_true, cond_false, Bool.not_false]; omega, ?_⟩
      simp only [Nat.beq, cond_true, cond_false, Bool.not_false]
      cases bigN F (fun i => Nat.beq (c i) 1) n <;> cases bigN F (fun i => Nat.beq (c i) 2) n <;> cases decide (num (nth F n) > 64) <;> rfl
/-- The second half of the map is wanted just then. -/
theorem map_big {F : List GV} {last : Int} (h : goodF F last) (b : Nat → Bool) : ∀ n, n ≤ F.length → Nat.beq (mapB (numsN F b n)) 0 = !bigN F b n := by
  intro n
  induction n with
  | zero => intro _; rfl
  | succ n ih =>
    intro hn
    have hi : n < F.length := by omega
    have ih := ih (by omega)
    rw [numsN_succ]
    rw [bigN_succ]
    cases hb : b n with
    | false => simp only [cond_false, List.append_nil]; exact ih
    | true =>
      simp only [cond_true]
      have e : mapB (numsN F b n ++ [cellG true (nth F n) 0]) = mapB (numsN F b n) ||| bitB' (num (nth F n)).toNat := by
        unfold mapB; rw [List.foldl_append]; rfl
      obtain ⟨k1, k2, k3⟩ := fieldB_iff.1 (h.at hi).num
      have k1 : 2 ≤ num (nth F n) := k1
      have hbit : Nat.beq (bitB' (num (nth F n)).toNat) 0 = !decide (num (nth F n) > 64) := by
        unfold bitB'
        by_cases h64 : num (nth F n) > 64
        · rw [dT h64, if_neg (by omega)]
          have : 0 < 2 ^ (128 - (num (nth F n)).toNat) := Nat.pow_pos (by omega)
          cases hq : Nat.beq (2 ^ (128 - (num (nth F n)).toNat)) 0 with
          | false => rfl
          | true => have := Nat.eq_of_beq_eq_true hq; omega
        · rw [dF h64, if_pos (by omega)]; rfl
      rw [e]
      have hor : ∀ x y : Nat, Nat.beq (x ||| y) 0 = (Nat.beq x 0 && Nat.beq y 0) := by
        intro x y
        rw [Bool.eq_iff_iff, Bool.and_eq_true, Nat.beq_eq, Nat.beq_eq, Nat.beq_eq]
        exact Nat.or_eq_zero_iff
      rw [hor, ih, hbit]
      cases bigN F b n <;> cases decide (num (nth F n) > 64) <;> rfl

end Go.Proofs.Ytgneobkmmmpbiaa
