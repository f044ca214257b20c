/- What the small loops give back. -/
import Derived.Test.YtgneobkmmmpbiaaFa
import Derived.Test.YtgneobkmmmpbiaaEc
namespace Go.Proofs.Ytgneobkmmmpbiaa
open Go Go.Proofs Go.Eng
set_option linter.unusedVariables false
set_option linter.unusedSimpArgs false

theorem isin_run {l : GV} {n : Int} (h : l.asList.length ≤ BIG) : ∃ N, ∀ a1 : GV, a1.asInt = n → isin_f N l a1 = some [.bool (isinB l.asList n)] := by
  unfold BIG at h
  refine ⟨l.asList.length + 1, fun a1 ha => ?_⟩
  -- the first place, if any
  have step : ∀ (i : Nat) (N : Nat) (kn : List GV → Option (Nat × List GV)) kx, i < l.asList.length → (isin_e0 N).step [l, a1, .int i] kn kx = bif (nth l.asList i).asInt == n then kx 0 [.bool true] else kn [l, a1, .int (i + 1 : Nat)] := by
    intro i N kn kx hi
    rw [isin_t0]
    unfold isin_b0
    have h1 : decide ((GV.int (i : Int)).asInt < (l.asList.length : Int)) = true := by simp; omega
    have h2 : inRange (GV.int (i : Int)).asInt l.asList.length = true := inRange_nat hi
    rw [h1, h2]
    simp only [cond_true, asInt_int, Int.toNat_natCast, nth_all hi, ha]
    rw [w64 (by omega) (by omega)]
    rfl
  have key : ∀ m i, i + m = l.asList.length → ∀ M, m < M → loopR (isin_e0 (l.asList.length + 1)).step M [l, a1, .int i] = some (bif isinB (l.asList.drop i) n then (0, [.bool true]) else (1, [])) := by
    intro m
    induction m with
    | zero =>
      intro i hi M hM
      obtain ⟨M, rfl⟩ : ∃ M', M = M' + 1 := ⟨M - 1, by omega⟩
      have : i = l.asList.length := by omega
      subst this
      simp only [loopR]
      rw [isin_t0]
      unfold isin_b0
      have h1 : decide ((GV.int (l.asList.length : Int)).asInt < (l.asList.length : Int)) = false := by simp
      rw [h1, List.drop_length]
      rfl
    | succ m ih =>
      intro i hi M hM
      obtain ⟨M, rfl⟩ : ∃ M', M = M' + 1 := ⟨M - 1, by omega⟩
      have hlt : i < l.asList.length := by omega
      simp only [loopR]
      rw [step i _ _ _ hlt, ih (i + 1) (by omega) M (by omega)]
      have hd : l.asList.drop i = nth l.asList i :: l.asList.drop (i + 1) := by
        rw [List.drop_eq_getElem_cons hlt]
        unfold nth
        simp [List.getD_eq_getElem?_getD, List.getElem?_eq_getElem hlt]
      rw [hd]
      unfold isinB
      simp only [List.any_cons]
      cases (nth l.asList i).asInt == n <;> rfl
  have := key l.asList.length 0 (by omega) (l.asList.length + 1) (by omega)
  unfold isin_f isin_l0
  rw [show (GV.int 0) = GV.int ((0 : Nat) : Int) from rfl, this, List.drop_zero]
  cases isinB l.asList n <;> rfl
theorem isin_ok : CallsOk Try.prog tl 6 isin_sg isin_s := CallsOk.sup (φ := fun n => _) (fun n => isin_calls specs_nil n) fun gs outs h => by
  rcases gs with _ | ⟨a0, _ | ⟨a1, _ | ⟨a2, t⟩⟩⟩ <;> first | (cases h; done) | skip
  simp only [isin_s] at h
  cases hb : Nat.ble a0.asList.length BIG with
  | false => rw [hb] at h; cases h
  | true =>
    rw [hb] at h
    obtain ⟨N, hN⟩ := isin_run (n := a1.asInt) (Nat.le_of_ble_eq_true hb)
    exact ⟨N, by rw [isin_q N, hN a1 rfl, ← h]; rfl⟩

theorem ten_run {d : Nat} (h : d ≤ 18) : ∀ a0 : GV, a0.asInt = (d : Int) → ten_f (d + 1) a0 = some [.int (10 ^ d)] := by
  intro a0 ha
  have hp : ∀ i : Nat, i ≤ 18 → (10 : Int) ^ i ≤ 1000000000000000000 := by
    intro i hi
    have : (10 : Nat) ^ i ≤ 10 ^ 18 := Nat.pow_le_pow_right (by omega) hi
    have e : ((10 ^ i : Nat) : Int) = (10 : Int) ^ i := by push_cast; rfl
    rw [← e]; omega
  have hq : ∀ i : Nat, (0 : Int) < 10 ^ i := fun i => Int.pow_pos (by omega)
  have := loop_done (step := (ten_e0 (d + 1)).step) (S := fun i => [.int (10 ^ i), a0, .int (i : Nat)]) (n := d) (q := 0) (zs := [.int (10 ^ d)]) (fun i hi kn kx => by
    rw [ten_t0]
    unfold ten_b0
    have h1 : decide ((GV.int (i : Int)).asInt < a0.asInt) = true := by rw [ha]; simp; omega
    rw [h1]
    simp only [cond_true, asInt_int]
    have h2 := hp (i + 1) (by omega)
    have h3 := hq i
    rw [Int.pow_succ] at h2
    rw [w64 (by omega) (by omega), w64 (by omega) (by omega), Int.pow_succ]
    rfl) (fun kn kx => by
    rw [ten_t0]
    unfold ten_b0
    have h1 : decide ((GV.int (d : Int)).asInt < a0.asInt) = false := by rw [ha]; simp
    rw [h1]
    rfl) (N := d + 1) (by omega)
  unfold ten_f ten_l0
  have e : ([GV.int 1, a0, GV.int 0] : List GV) = [.int (10 ^ 0), a0, .int ((0 : Nat) : Int)] := rfl
  rw [e, this]
  rfl
theorem ten_ok : CallsOk Try.prog tl 17 ten_sg ten_s := CallsOk.sup (φ := fun n => _) (fun n => ten_calls specs_nil n) fun gs outs h => by
  rcases gs with _ | ⟨a0, _ | ⟨a1, t⟩⟩ <;> first | (cases h; done) | skip
  simp only [ten_s] at h
  cases hb : decide (0 ≤ a0.asInt) && decide (a0.asInt ≤ 18) with
  | false => rw [hb] at h; cases h
  | true =>
    rw [hb] at h
    simp only [Bool.and_eq_true, decide_eq_true_eq] at hb
    have := ten_run (d := a0.asInt.toNat) (by omega) a0 (by omega)
    exact ⟨_, by rw [ten_q, this, ← h]; rfl⟩

end Go.Proofs.Ytgneobkmmmpbiaa
