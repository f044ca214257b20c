/- A length in front of what has it. -/
import Derived.Test.YtgneobkmmmpbiaaFe
namespace Go.Proofs.Ytgneobkmmmpbiaa
open Go Go.Proofs Go.Eng
set_option linter.unusedVariables false
set_option linter.unusedSimpArgs false

theorem bytesStr_size (l : List GV) : (bytesStr l).size = l.length := by unfold bytesStr; rw [strOfNums_size, List.length_map]
theorem bt_bytesStr {l : List GV} {i : Nat} (h : i < l.length) (h0 : 0 ≤ (nth l i).asInt) (h1 : (nth l i).asInt < 256) : bt (bytesStr l) i = (nth l i).asInt := by
  unfold bt bytesStr strOfNums
  have e : nth l i = l[i] := by unfold nth; simp [List.getD_eq_getElem?_getD, List.getElem?_eq_getElem h]
  rw [e] at h0 h1 ⊢
  simp only [List.getElem?_toArray, List.getElem?_map, List.getElem?_eq_getElem h, Option.map_some, Option.getD_some]
  have : (UInt8.ofNat (l[i].asInt.toNat)).toNat = l[i].asInt.toNat := by
    rw [UInt8.toNat_ofNat']
    exact Nat.mod_eq_of_lt (by omega)
  rw [this]; omega
/-- Digits as characters. -/
def digitsL (l : List GV) : Prop := ∀ i, i < l.length → 48 ≤ (nth l i).asInt ∧ (nth l i).asInt ≤ 57
theorem writeL_digits (w : Nat) : ∀ n, digitsL (writeL n w) := by
  induction w with
  | zero => intro n i h; simp [writeL] at h
  | succ w ih =>
    intro n i h
    rw [writeL_cons] at h ⊢
    cases i with
    | zero => simp only [nth_zero, asInt_int]; have := Nat.mod_lt (n / 10 ^ w) (show 10 > 0 by omega); omega
    | succ i => exact ih n i (by simpa using h)
theorem digits_bt {l : List GV} (h : digitsL l) {i : Nat} (hi : i < l.length) : 48 ≤ bt (bytesStr l) i ∧ bt (bytesStr l) i ≤ 57 := by
  obtain ⟨h1, h2⟩ := h i hi
  rw [bt_bytesStr hi (by omega) (by omega)]
  exact ⟨h1, h2⟩
/-- A text of digits. -/
def digitsS (s : ByteArray) : Prop := ∀ i, i < s.size → 48 ≤ bt s i ∧ bt s i ≤ 57
theorem digitsS_of {l : List GV} (h : digitsL l) : digitsS (bytesStr l) := fun i hi => digits_bt h (by rw [bytesStr_size] at hi; exact hi)
theorem digits_half {s : ByteArray} (h : digitsS s) : allHalf s = true := by
  unfold allHalf
  rw [List.all_eq_true]
  intro i hi
  obtain ⟨h1, h2⟩ := h i (List.mem_range.1 hi)
  unfold halfB
  rw [dT h1, dT h2]
  cases bt s i == 61 <;> rfl
theorem digits_wrt {s : ByteArray} (h : digitsS s) (e : Int) : allWrt e s = true := by
  unfold allWrt
  rw [List.all_eq_true]
  intro i hi
  obtain ⟨h1, h2⟩ := h i (List.mem_range.1 hi)
  unfold wrtB
  rw [dF (show ¬ bt s i < 32 by omega), dF (show ¬ bt s i > 126 by omega)]
  cases e == 5 <;> rfl

/-! prefix. -/
def prefix_sg : FSig := FSig.mk [3, 3, 3] [(9, []), (35, [])] false
noncomputable def prefix_c : Code := Try.f7.body.getD .skip
def prefix_E : Env := ⟨tl, [(16, wide_sg, wide_s), (17, ten_sg, ten_s), (18, write_sg, write_s), (11, pack_sg, pack_s)], dirsOf [], dirsOf [], dirsOf [], joinsOf tl []⟩
def prefix_f (fuel : Nat) (a0 a1 a2 : GV) : Option R :=
  bif bif wideZ a0.asInt a1.asInt == 0 then true else decide (a2.asInt < 0) then some [GV.str (ByteArray.mk #[]), GV.int 1]
else
  (ten_s [a1]).bind fun o0 =>
    bif decide (a2.asInt ≥ (nth o0 0).asInt) then some [GV.str (ByteArray.mk #[]), GV.int 13]
    else
      bif a0.asInt == 5 then
        bif (inRange (IntKind.i64.wrap (2 - wideZ a0.asInt a1.asInt)) 3, (IntKind.i64.wrap (2 - wideZ a0.asInt a1.asInt)).toNat, 2).fst then
          bif
              (List.drop (inRange (IntKind.i64.wrap (2 - wideZ a0.asInt a1.asInt)) 3, (IntKind.i64.wrap (2 - wideZ a0.asInt a1.asInt)).toNat, 2).snd.fst
                      [GV.int (IntKind.u8.wrap (shrI IntKind.i64 a2.asInt 8)), GV.int (IntKind.u8.wrap a2.asInt)]).length.ble
                140737488351232 then
            some
              [GV.str
                  (bytesStr
                    (List.drop (inRange (IntKind.i64.wrap (2 - wideZ a0.asInt a1.asInt)) 3, (IntKind.i64.wrap (2 - wideZ a0.asInt a1.asInt)).toNat, 2).snd.fst
                      [GV.int (IntKind.u8.wrap (shrI IntKind.i64 a2.asInt 8)), GV.int (IntKind.u8.wrap a2.asInt)])),
                GV.int 0]
          else none
        else none
      else
        (write_s [a2, a1]).bind fun o1 =>
          bif (nth o1 1).asInt != 0 then some [GV.str (ByteArray.mk #[]), nth o1 1] else (pack_s [a0, nth o1 0]).bind fun o2 => some [nth o2 0, nth o2 1]
theorem prefix_q (fuel : Nat) (a0 a1 a2 : GV) : gexec prefix_E (LZ) Try.f7.ntmps Try.f7.results.toList prefix_sg prefix_c [a0, a1, a2] = prefix_f fuel a0 a1 a2 := by kernel_rfl
theorem prefix_calls (hS : SpecsOk Try.prog tl prefix_E.sp) (fuel : Nat) : CallsOk Try.prog tl 7 prefix_sg (gexec prefix_E (LZ) Try.f7.ntmps Try.f7.results.toList prefix_sg prefix_c) :=
  gexec_calls (E := prefix_E) hP hS Try.func7 (by kernel_rfl) (by kernel_rfl) (fun W => LZ_ok)
def encOk (e : Int) : Bool := e == 1 || (e == 2 || (e == 4 || e == 5))
def prefixOk (e d n : Int) : Bool := encOk e && (decide (1 ≤ d) && (decide (d ≤ 4) && (decide (0 ≤ n) && decide (n < tenZ d))))
def prefixL (e d n : Int) : List GV :=
  bif e == 5 then [GV.int (IntKind.u8.wrap (shrI IntKind.i64 n 8)), GV.int (IntKind.u8.wrap n)].drop (2 - wideZ e d).toNat
  else bif e == 2 then packH e (bytesStr (writeL n.toNat d.toNat)) else wrtL e (bytesStr (writeL n.toNat d.toNat))
def prefix_s : List GV → Option R
  | [a0, a1, a2] => bif wideZ a0.asInt a1.asInt == 0 then some [.str ⟨#[]⟩, .int 1] else bif prefixOk a0.asInt a1.asInt a2.asInt then some [.str (bytesStr (prefixL a0.asInt a1.asInt a2.asInt)), .int 0] else none
  | _ => none
theorem enc_cases {e : Int} (h : encOk e = true) : e = 1 ∨ e = 2 ∨ e = 4 ∨ e = 5 := by
  unfold encOk at h
  simp only [Bool.or_eq_true, beq_iff_eq] at h
  exact h
theorem wideZ_of {e d : Int} (he : encOk e = true) (h1 : 1 ≤ d) (h4 : d ≤ 4) : wideZ e d = bif e == 5 || e == 2 then (d + 1) / 2 else d := by
  unfold wideZ
  rw [dF (show ¬ d < 1 by omega), dF (show ¬ d > 4 by omega)]
  have e1 : IntKind.i64.wrap ((IntKind.i64.wrap (d + 1)).tdiv 2) = (d + 1) / 2 := by
    rw [w64 (n := d + 1) (by omega) (by omega), Int.tdiv_eq_ediv_of_nonneg (by omega), w64 (by omega) (by omega)]
  rw [e1]
  rcases enc_cases he with rfl | rfl | rfl | rfl <;> rfl
theorem prefix_ok : CallsOk Try.prog tl 7 prefix_sg prefix_s := (prefix_calls (specs_cons (specs_cons (specs_cons (specs_cons specs_nil pack_ok Try.call11) write_ok Try.call18) ten_ok Try.call17) wide_ok Try.call16) 0).of fun gs outs h => by
  rcases gs with _ | ⟨a0, _ | ⟨a1, _ | ⟨a2, _ | ⟨a3, t⟩⟩⟩⟩ <;> first | (cases h; done) | skip
  rw [prefix_q 0]
  simp only [prefix_s] at h
  cases hw00 : wideZ a0.asInt a1.asInt == 0 with
  | true =>
    rw [hw00] at h
    rw [← h]
    unfold prefix_f
    rw [hw00]; rfl
  | false =>
  rw [hw00] at h
  simp only [cond_false] at h
  cases hb : prefixOk a0.asInt a1.asInt a2.asInt with
  | false => rw [hb] at h; cases h
  | true =>
    rw [hb] at h
    rw [← h]
    unfold prefixOk at hb
    simp only [Bool.and_eq_true, decide_eq_true_eq] at hb
    obtain ⟨he, h1, h4, h0, hlt⟩ := hb
    have hw := wideZ_of he h1 h4
    unfold prefix_f
    have hw0 : (wideZ a0.asInt a1.asInt == 0) = false := by
      rw [beq_eq_false_iff_ne, hw]
      cases a0.asInt == 5 || a0.asInt == 2 <;> simp <;> omega
    have hten : ten_s [a1] = some [.int (tenZ a1.asInt)] := by
      simp only [ten_s]
      rw [dT (show 0 ≤ a1.asInt by omega), dT (show a1.asInt ≤ 18 by omega)]
      rfl
    have hsmall : a2.asInt < 10000 := by
      have : tenZ a1.asInt ≤ tenZ 4 := by
        unfold tenZ
        have hp : ∀ k : Nat, k ≤ 4 → (10 : Int) ^ k ≤ 10000 := by
          intro k hk
          match k, hk with
          | 0, _ => decide
          | 1, _ => decide
          | 2, _ => decide
          | 3, _ => decide
          | 4, _ => decide
        exact hp _ (by omega)
      have h4' : tenZ 4 = 10000 := by decide
      omega
    rw [hw0, dF (show ¬ a2.asInt < 0 by omega), hten]
    simp only [cond_false, Option.bind_some, nth_zero, asInt_int]
    refine (cF (show ¬ a2.asInt ≥ tenZ a1.asInt by omega) _ _).trans ?_
    have hcut : ∀ k : Nat, k ≤ 2 → wideZ a0.asInt a1.asInt = (k : Int) → inRange (IntKind.i64.wrap (2 - wideZ a0.asInt a1.asInt)) 3 = true ∧ (IntKind.i64.wrap (2 - wideZ a0.asInt a1.asInt)) = 2 - wideZ a0.asInt a1.asInt := by
      intro k hk hwk
      have : IntKind.i64.wrap (2 - wideZ a0.asInt a1.asInt) = 2 - wideZ a0.asInt a1.asInt := w64 (by omega) (by omega)
      rw [this]
      exact ⟨inRange_iff'.2 ⟨by omega, by omega⟩, rfl⟩
    rcases enc_cases he with h5 | h5 | h5 | h5
    case inr.inr.inr =>
      have hk : wideZ a0.asInt a1.asInt = (((a1.asInt.toNat + 1) / 2 : Nat) : Int) := by rw [hw, h5]; show (a1.asInt + 1) / 2 = _; omega
      obtain ⟨c1, c2⟩ := hcut _ (by omega) hk
      have c3 : (a0.asInt == 5) = true := by rw [h5]; rfl
      rw [c3, c1]
      simp only [cond_true]
      rw [c2]
      have c4 : ∀ (k : Nat) (l : List GV), l.length ≤ 2 → Nat.ble (l.drop k).length 140737488351232 = true := fun k l hl => Nat.ble_eq_true_of_le (by simp; omega)
      rw [c4 _ _ (by simp)]
      simp only [cond_true]
      unfold prefixL
      rw [c3]; rfl
    all_goals
      have c3 : (a0.asInt == 5) = false := by rw [h5]; rfl
      rw [c3]
      simp only [cond_false]
      have hwr : write_s [a2, a1] = some [.str (bytesStr (writeL a2.asInt.toNat a1.asInt.toNat)), .int 0] := by
        simp only [write_s, writeS, writeE, writeOk]
        rw [dT (show a2.asInt < 9223372036854775808 by omega), dT h0, dT (show (1 : Int) ≤ a1.asInt by omega), dT (show a1.asInt ≤ 18 by omega)]
        have : decide (a2.asInt < 10 ^ a1.asInt.toNat) = true := dT hlt
        rw [this]; rfl
      rw [hwr]
      simp only [Option.bind_some, nth_zero, nth_succ, asInt_int]
      have hdig := digitsS_of (writeL_digits a1.asInt.toNat a2.asInt.toNat)
      have hsz : (bytesStr (writeL a2.asInt.toNat a1.asInt.toNat)).size ≤ 1000000000 := by rw [bytesStr_size, writeL_len]; omega
      have hp : pack_s [a0, .str (bytesStr (writeL a2.asInt.toNat a1.asInt.toNat))] = some [.str (bytesStr (prefixL a0.asInt a1.asInt a2.asInt)), .int 0] := by
        simp only [pack_s, packHalves_s, asStr_str, digits_half hdig, digits_wrt hdig, Nat.ble_eq_true_of_le hsz, Bool.and_self, cond_true, prefixL, c3, cond_false]
        rw [h5]; rfl
      rw [hp]
      rfl

end Go.Proofs.Ytgneobkmmmpbiaa
