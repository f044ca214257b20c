/- Numbers written in digits. -/
import Derived.Test.YtgneobkmmmpbiaaFb
namespace Go.Proofs.Ytgneobkmmmpbiaa
open Go Go.Proofs Go.Eng
set_option linter.unusedVariables false
set_option linter.unusedSimpArgs false

/-! write. -/
def write_sg : FSig := FSig.mk [3, 3] [(9, []), (35, [])] false
noncomputable def write_c : Code := Try.f18.body.getD .skip
def write_E : Env := ⟨tl, [], dirsOf [], dirsOf [(0, [Dir.only [19], Dir.sort [19], Dir.keep [0, 6, 7]])], dirsOf [(0, [Dir.only [19], Dir.sort [19], Dir.keep [0, 6]])], joinsOf tl []⟩
def write_sh0 : Shp := Shp.mk 39 [(0, ASh.one (SSh.s (CK.int IntKind.i64))), (6, ASh.one (SSh.ref 5 19)), (7, ASh.one (SSh.s (CK.int IntKind.i64)))] [(19, RSh.val 3 5)]
def write_xs0 : Outs := [(Ex.exit 0, Shp.mk 39 [(0, ASh.one (SSh.s (CK.int IntKind.i64))), (6, ASh.one (SSh.ref 5 19))] [(19, RSh.val 3 5)])]
def write_b0 {β : Type} (fuel : Nat) (g0 g1 g2 : GV) (kn : List GV → Option β) (kx : Nat → List GV → Option β) : Option β :=
  bif decide (g1.asInt ≥ 0) then
  bif inRange g1.asInt g2.asList.length && true && true && true then
    kn
      [GV.int (IntKind.i64.wrap (g0.asInt.tdiv 10)), GV.int (IntKind.i64.wrap (g1.asInt - 1)),
        GV.list 2 g2.asZ (setAllL (GV.list 2 g2.asZ g2.asList []) ((GV.list 2 g2.asZ g2.asList []).all.set g1.asInt.toNat (GV.int (IntKind.u8.wrap (IntKind.i64.wrap (48 + g0.asInt.tmod 10)))))) []]
  else none
else kx 0 [g0, GV.list 2 g2.asZ g2.asList []]
def write_e0 (fuel : Nat) : LEnt := ⟨0, write_sh0, write_xs0, fun gs kn kx => write_b0 fuel (nth gs 0) (nth gs 1) (nth gs 2) kn kx⟩
def write_l0 (fuel : Nat) (gs : List GV) : Option (Nat × List GV) := loopR (write_e0 fuel).step fuel gs
theorem write_t0 {β : Type} (fuel : Nat) (g0 g1 g2 : GV) (kn : List GV → Option β) (kx : Nat → List GV → Option β) : (write_e0 fuel).step [g0, g1, g2] kn kx = write_b0 fuel g0 g1 g2 kn kx := rfl
theorem write_k0 (fuel : Nat) : StepOk write_E write_c (LZ) (write_e0 fuel) :=
  ⟨by kernel_rfl, fun gs kn kx => by kernel_rfl, fun f gs kn kx => by simp only [write_e0, write_b0, bind_cond, Option.bind_assoc, Option.bind_none]⟩
def write_f (fuel : Nat) (a0 a1 : GV) : Option R :=
  bif bif bif decide (a0.asInt < 0) then true else decide (a1.asInt < 1) then true else decide (a1.asInt > 18) then some [GV.str (ByteArray.mk #[]), GV.int 1]
else
  bif decide (0 ≤ a1.asInt) && decide (a1.asInt ≤ a1.asInt) && decide ((↑1 : Int) * a1.asInt ≤ 281474976710656) && decide (a1.asInt ≤ 9223372036854775807) then
    (write_l0 fuel [a0, GV.int (IntKind.i64.wrap (a1.asInt - 1)), GV.list 2 (decide (0 < a1.asInt)) (List.replicate a1.asInt.toNat (GV.int 0)) []]).bind fun r0 =>
      bif decide ((nth r0.snd 0).asInt > 0) then some [GV.str (ByteArray.mk #[]), GV.int 13]
      else bif (nth r0.snd 1).asList.length.ble 140737488351232 then some [GV.str (bytesStr (nth r0.snd 1).asList), GV.int 0] else none
  else none
theorem write_q (fuel : Nat) (a0 a1 : GV) : gexec write_E (LSc (write_e0 fuel) fuel (LZ)) Try.f18.ntmps Try.f18.results.toList write_sg write_c [a0, a1] = write_f fuel a0 a1 := by kernel_rfl
theorem write_calls (hS : SpecsOk Try.prog tl write_E.sp) (fuel : Nat) : CallsOk Try.prog tl 18 write_sg (gexec write_E (LSc (write_e0 fuel) fuel (LZ)) Try.f18.ntmps Try.f18.results.toList write_sg write_c) :=
  gexec_calls (E := write_E) hP hS Try.func18 (by kernel_rfl) (by kernel_rfl) (fun W => LSc_ok hP hS (LZ_ok) (write_k0 fuel) fuel)
/-- So many digits of a number, the last ones. -/
def writeL (n : Nat) : Nat → List GV
  | 0 => []
  | w + 1 => writeL (n / 10) w ++ [.int ((48 + n % 10 : Nat) : Int)]
theorem writeL_len (w : Nat) : ∀ n, (writeL n w).length = w := by
  induction w with
  | zero => intro n; rfl
  | succ w ih => intro n; simp [writeL, ih]
theorem writeL_cons (k : Nat) : ∀ n, writeL n (k + 1) = .int ((48 + (n / 10 ^ k) % 10 : Nat) : Int) :: writeL n k := by
  induction k with
  | zero => intro n; simp [writeL]
  | succ k ih =>
    intro n
    rw [writeL, ih (n / 10), Nat.div_div_eq_div_mul, Nat.pow_succ, Nat.mul_comm 10]
    rfl
def writeOk (n w : Int) : Bool := decide (0 ≤ n) && (decide (1 ≤ w) && decide (w ≤ 18))
def writeE (n w : Int) : Int := bif writeOk n w then (bif decide (n < 10 ^ w.toNat) then 0 else 13) else 1
def writeS (n w : Int) : ByteArray := bif writeOk n w then (bif decide (n < 10 ^ w.toNat) then bytesStr (writeL n.toNat w.toNat) else ⟨#[]⟩) else ⟨#[]⟩
def write_s : List GV → Option R
  | [a0, a1] => bif decide (a0.asInt < 9223372036854775808) then some [.str (writeS a0.asInt a1.asInt), .int (writeE a0.asInt a1.asInt)] else none
  | _ => none
theorem write_loop {n w : Nat} (hn : n < 9223372036854775808) (hw1 : 1 ≤ w) (hw : w ≤ 18) (z : Bool) (a0 : GV) (h0 : a0.asInt = (n : Int)) :
    write_l0 19 [a0, .int ((w : Int) - 1), .list 2 z (List.replicate w (.int 0)) []] = some (0, [.int ((n / 10 ^ w : Nat) : Int), .list 2 z (writeL n w) []]) := by
  have key := loop_done (step := (write_e0 19).step) (S := fun k => [bif Nat.beq k 0 then a0 else .int ((n / 10 ^ k : Nat) : Int), .int ((w : Int) - 1 - k), .list 2 z (List.replicate (w - k) (.int 0) ++ writeL n k) []]) (n := w) (q := 0)
    (zs := [.int ((n / 10 ^ w : Nat) : Int), .list 2 z (writeL n w) []]) (fun k hk kn kx => by
      have ha : (bif Nat.beq k 0 then a0 else GV.int ((n / 10 ^ k : Nat) : Int)).asInt = ((n / 10 ^ k : Nat) : Int) := by
        cases k with
        | zero => simp [h0]
        | succ k => rfl
      have hlen : (List.replicate (w - k) (GV.int 0) ++ writeL n k).length = w := by simp [writeL_len]; omega
      rw [write_t0]
      unfold write_b0
      have h1 : decide ((GV.int ((w : Int) - 1 - k)).asInt ≥ 0) = true := by simp; omega
      have h2 : inRange (GV.int ((w : Int) - 1 - k)).asInt (GV.list 2 z (List.replicate (w - k) (.int 0) ++ writeL n k) []).asList.length = true := by
        simp only [asList_list, asInt_int, hlen]; exact inRange_iff'.2 ⟨by omega, by omega⟩
      rw [h1, h2, ha]
      simp only [Bool.and_true, cond_true, asInt_int, asZ_list, asList_list, all_list, List.append_nil]
      have hd : n / 10 ^ k ≤ n := Nat.div_le_self _ _
      have small : ∀ q : Nat, q ≤ n → IntKind.i64.wrap ((q : Int).tdiv 10) = ((q / 10 : Nat) : Int) ∧ (q : Int).tmod 10 = ((q % 10 : Nat) : Int) := by
        intro q hq
        have t1 : (q : Int).tdiv 10 = ((q / 10 : Nat) : Int) := by rw [Int.tdiv_eq_ediv_of_nonneg (by omega)]; omega
        exact ⟨by rw [t1, w64 (by omega) (by omega)], by rw [Int.tmod_eq_emod_of_nonneg (by omega)]; omega⟩
      rw [(small _ hd).1, (small _ hd).2]
      rw [w64 (n := (w : Int) - 1 - k - 1) (by omega) (by omega)]
      have hm9 : n / 10 ^ k % 10 ≤ 9 := by have := Nat.mod_lt (n / 10 ^ k) (show 10 > 0 by omega); omega
      have hw9 : ∀ r : Nat, r ≤ 9 → IntKind.u8.wrap (IntKind.i64.wrap (48 + (r : Int))) = 48 + (r : Int) := fun r hr => by rw [w64 (by omega) (by omega), w8 (by omega) (by omega)]
      rw [hw9 _ hm9]
      have e1 : n / 10 ^ k / 10 = n / 10 ^ (k + 1) := by rw [Nat.pow_succ, ← Nat.div_div_eq_div_mul]
      have e2 : ((w : Int) - 1 - k).toNat = w - k - 1 := by omega
      have e3 : (w : Int) - 1 - k - 1 = (w : Int) - 1 - (k + 1 : Nat) := by omega
      have e4 : setAllL (GV.list 2 z (List.replicate (w - k) (GV.int 0) ++ writeL n k) []) ((List.replicate (w - k) (GV.int 0) ++ writeL n k).set (w - k - 1) (.int (48 + ((n / 10 ^ k % 10 : Nat) : Int)))) = List.replicate (w - (k + 1)) (GV.int 0) ++ writeL n (k + 1) := by
        show (List.replicate (w - k) (GV.int 0) ++ writeL n k).set (w - k - 1) _ = _
        obtain ⟨m, hm⟩ : ∃ m, w - k = m + 1 := ⟨w - k - 1, by omega⟩
        have hm2 : w - (k + 1) = m := by omega
        rw [hm, hm2, writeL_cons, List.replicate_succ', List.append_assoc]
        have : m + 1 - 1 = (List.replicate m (GV.int 0)).length := by simp
        rw [this, List.set_append_right _ _ (Nat.le_refl _)]
        simp
      rw [e1, e2, e3, e4]
      rfl) (fun kn kx => by
      have ha : (bif Nat.beq w 0 then a0 else GV.int ((n / 10 ^ w : Nat) : Int)) = .int ((n / 10 ^ w : Nat) : Int) := by
        cases w with
        | zero => omega
        | succ w => rfl
      rw [write_t0]
      unfold write_b0
      have h1 : decide ((GV.int ((w : Int) - 1 - w)).asInt ≥ 0) = false := by simp; omega
      rw [h1, ha]
      simp) (N := 19) (by omega)
  have e : ([a0, .int ((w : Int) - 1), .list 2 z (List.replicate w (.int 0)) []] : List GV) = [bif Nat.beq 0 0 then a0 else .int ((n / 10 ^ 0 : Nat) : Int), .int ((w : Int) - 1 - (0 : Nat)), .list 2 z (List.replicate (w - 0) (.int 0) ++ writeL n 0) []] := by
    simp [writeL]
  unfold write_l0
  rw [e]; exact key
theorem write_ok : CallsOk Try.prog tl 18 write_sg write_s := (write_calls specs_nil 19).of fun gs outs h => by
  rcases gs with _ | ⟨a0, _ | ⟨a1, _ | ⟨a2, t⟩⟩⟩ <;> first | (cases h; done) | skip
  rw [write_q 19]
  simp only [write_s] at h
  cases hb : decide (a0.asInt < 9223372036854775808) with
  | false => rw [hb] at h; cases h
  | true =>
    rw [hb] at h
    rw [← h]
    simp only [decide_eq_true_eq] at hb
    simp only [write_f, writeS, writeE, writeOk]
    by_cases h0 : a0.asInt < 0
    · have h1 : decide (a0.asInt < 0) = true := decide_eq_true h0
      have h2 : decide (0 ≤ a0.asInt) = false := decide_eq_false (by omega)
      rw [h1, h2]; rfl
    · have h1 : decide (a0.asInt < 0) = false := decide_eq_false h0
      have h2 : decide (0 ≤ a0.asInt) = true := decide_eq_true (by omega)
      rw [h1, h2]
      by_cases h3 : a1.asInt < 1
      · have h4 : decide (a1.asInt < 1) = true := decide_eq_true h3
        have h5 : decide (1 ≤ a1.asInt) = false := decide_eq_false (by omega)
        rw [h4, h5]; rfl
      · have h4 : decide (a1.asInt < 1) = false := decide_eq_false h3
        have h5 : decide (1 ≤ a1.asInt) = true := decide_eq_true (by omega)
        rw [h4, h5]
        by_cases h6 : a1.asInt > 18
        · have h7 : decide (a1.asInt > 18) = true := decide_eq_true h6
          have h8 : decide (a1.asInt ≤ 18) = false := decide_eq_false (by omega)
          rw [h7, h8]; rfl
        · have h7 : decide (a1.asInt > 18) = false := decide_eq_false h6
          have h8 : decide (a1.asInt ≤ 18) = true := decide_eq_true (by omega)
          have h9 : decide (0 ≤ a1.asInt) = true := decide_eq_true (by omega)
          have h10 : decide (a1.asInt ≤ a1.asInt) = true := decide_eq_true (by omega)
          have h11 : decide ((1 : Int) * a1.asInt ≤ 281474976710656) = true := decide_eq_true (by omega)
          have h12 : decide (a1.asInt ≤ 9223372036854775807) = true := decide_eq_true (by omega)
          rw [h7, h8, h9, h10, h11, h12]
          simp only [Bool.and_true, cond_true, cond_false]
          have e1 : IntKind.i64.wrap (a1.asInt - 1) = (a1.asInt.toNat : Int) - 1 := by rw [w64 (by omega) (by omega)]; omega
          rw [e1, write_loop (n := a0.asInt.toNat) (w := a1.asInt.toNat) (by omega) (by omega) (by omega) _ a0 (by omega)]
          simp only [Option.bind_some, nth_zero, nth_succ, asInt_int, asList_list]
          have hp : (a0.asInt < 10 ^ a1.asInt.toNat) ↔ a0.asInt.toNat / 10 ^ a1.asInt.toNat = 0 := by
            rw [Nat.div_eq_zero_iff]
            have e : ((10 ^ a1.asInt.toNat : Nat) : Int) = (10 : Int) ^ a1.asInt.toNat := by push_cast; rfl
            have : (10 : Nat) ^ a1.asInt.toNat ≠ 0 := Nat.pos_iff_ne_zero.1 (Nat.pow_pos (by omega))
            rw [← e]; omega
          by_cases h13 : a0.asInt < 10 ^ a1.asInt.toNat
          · have h14 := hp.1 h13
            rw [decide_eq_true h13, h14]
            have h15 : Nat.ble (writeL a0.asInt.toNat a1.asInt.toNat).length 140737488351232 = true := Nat.ble_eq_true_of_le (by rw [writeL_len]; omega)
            simp only [h15]
            rfl
          · have h14 : ¬ a0.asInt.toNat / 10 ^ a1.asInt.toNat = 0 := fun h => h13 (hp.2 h)
            have h15 : ∀ q : Nat, ¬ q = 0 → ∀ (X Y : Option R), (bif decide ((q : Int) > 0) then X else Y) = X := fun q hq X Y => by
              have : decide ((q : Int) > 0) = true := decide_eq_true (by omega)
              rw [this]; rfl
            rw [decide_eq_false h13]
            exact h15 _ h14 _ _

/-! wrt. -/
def wrt_sg : FSig := FSig.mk [3, 5] [(5, []), (4, [])] false
noncomputable def wrt_c : Code := Try.f25.body.getD .skip
def wrt_E : Env := ⟨tl, [(32, ebcdic_sg, ebcdic_s)], dirsOf [], dirsOf [], dirsOf [], joinsOf tl []⟩
def wrt_f (fuel : Nat) (a0 a1 : GV) : Option R :=
  bif a0.asInt == 5 then some [a1, GV.bool true]
else
  bif bif decide (a1.asInt < 32) then true else decide (a1.asInt > 126) then some [GV.int 0, GV.bool false]
  else
    bif a0.asInt == 4 then
      bif inRange (IntKind.u8.wrap (a1.asInt - 32)) 95 then
        some
          [cellG true
              (GV.agg
                [GV.int 64, GV.int 90, GV.int 127, GV.int 123, GV.int 91, GV.int 108, GV.int 80, GV.int 125, GV.int 77, GV.int 93, GV.int 92, GV.int 78,
                  GV.int 107, GV.int 96, GV.int 75, GV.int 97, GV.int 240, GV.int 241, GV.int 242, GV.int 243, GV.int 244, GV.int 245, GV.int 246,
                  GV.int 247, GV.int 248, GV.int 249, GV.int 122, GV.int 94, GV.int 76, GV.int 126, GV.int 110, GV.int 111, GV.int 124, GV.int 193,
                  GV.int 194, GV.int 195, GV.int 196, GV.int 197, GV.int 198, GV.int 199, GV.int 200, GV.int 201, GV.int 209, GV.int 210, GV.int 211,
                  GV.int 212, GV.int 213, GV.int 214, GV.int 215, GV.int 216, GV.int 217, GV.int 226, GV.int 227, GV.int 228, GV.int 229, GV.int 230,
                  GV.int 231, GV.int 232, GV.int 233, GV.int 186, GV.int 224, GV.int 187, GV.int 176, GV.int 109, GV.int 121, GV.int 129, GV.int 130,
                  GV.int 131, GV.int 132, GV.int 133, GV.int 134, GV.int 135, GV.int 136, GV.int 137, GV.int 145, GV.int 146, GV.int 147, GV.int 148,
                  GV.int 149, GV.int 150, GV.int 151, GV.int 152, GV.int 153, GV.int 162, GV.int 163, GV.int 164, GV.int 165, GV.int 166, GV.int 167,
                  GV.int 168, GV.int 169, GV.int 192, GV.int 79, GV.int 208, GV.int 161])
              (IntKind.u8.wrap (a1.asInt - 32)).toNat,
            GV.bool true]
      else none
    else some [a1, GV.bool true]
theorem wrt_q (fuel : Nat) (a0 a1 : GV) : gexec wrt_E (LZ) Try.f25.ntmps Try.f25.results.toList wrt_sg wrt_c [a0, a1] = wrt_f fuel a0 a1 := by kernel_rfl
theorem wrt_calls (hS : SpecsOk Try.prog tl wrt_E.sp) (fuel : Nat) : CallsOk Try.prog tl 25 wrt_sg (gexec wrt_E (LZ) Try.f25.ntmps Try.f25.results.toList wrt_sg wrt_c) :=
  gexec_calls (E := wrt_E) hP hS Try.func25 (by kernel_rfl) (by kernel_rfl) (fun W => LZ_ok)
def ebL : List GV := (nth ((ebcdic_f 0).getD []) 0).asAgg
def wrtZ (e c : Int) : Int := bif e == 5 then c else bif decide (c < 32) then 0 else bif decide (c > 126) then 0 else bif e == 4 then (nth ebL (c - 32).toNat).asInt else c
def wrtB (e c : Int) : Bool := bif e == 5 then true else bif decide (c < 32) then false else bif decide (c > 126) then false else true
def wrt_s : List GV → Option R
  | [a0, a1] => some [.int (wrtZ a0.asInt a1.asInt), .bool (wrtB a0.asInt a1.asInt)]
  | _ => none
theorem eqr_int_bool {t t' : TypeId} {k : IntKind} {by1 by2 : Nat} (hl : Eng.look tl t = some ⟨[.int k], false, by1, .int k⟩) (hl' : Eng.look tl t' = some ⟨[.bool], false, by2, .bool⟩) {g g' h h' : GV} (h1 : g.asInt = g'.asInt) (h2 : h.asBool = h'.asBool) {ms ms' : List Nat} : EqR tl [(t, ms), (t', ms')] [g, h] [g', h'] := by
  have e := ttOf_look hl
  have e' := ttOf_look hl'
  intro q t1 ms1 hq j hj
  match q with
  | 0 =>
    simp only [List.getElem?_cons_zero, Option.some.injEq, Prod.mk.injEq] at hq
    obtain ⟨rfl, rfl⟩ := hq
    rw [e] at hj ⊢
    have : j = 0 := by simp [TI.sz] at hj; exact hj
    subst this
    exact h1
  | 1 =>
    simp only [List.getElem?_cons_succ, List.getElem?_cons_zero, Option.some.injEq, Prod.mk.injEq] at hq
    obtain ⟨rfl, rfl⟩ := hq
    rw [e'] at hj ⊢
    have : j = 0 := by simp [TI.sz] at hj; exact hj
    subst this
    exact h2
  | q + 2 => simp at hq
theorem wrt_ok : CallsOk Try.prog tl 25 wrt_sg wrt_s := (wrt_calls (specs_cons specs_nil ebcdic_ok Try.call32) 0).ofE fun gs outs h => by
  rcases gs with _ | ⟨a0, _ | ⟨a1, _ | ⟨a2, t⟩⟩⟩ <;> first | (cases h; done) | skip
  rw [wrt_q 0]
  simp only [wrt_s, Option.some.injEq] at h
  subst h
  have key : ∃ g b, wrt_f 0 a0 a1 = some [g, b] ∧ g.asInt = wrtZ a0.asInt a1.asInt ∧ b.asBool = wrtB a0.asInt a1.asInt := by
    simp only [wrt_f, wrtZ, wrtB]
    cases h5 : a0.asInt == 5 with
    | true => exact ⟨_, _, rfl, rfl, rfl⟩
    | false =>
      by_cases h1 : a1.asInt < 32
      · rw [decide_eq_true h1]; exact ⟨_, _, rfl, rfl, rfl⟩
      · rw [decide_eq_false h1]
        by_cases h2 : a1.asInt > 126
        · rw [decide_eq_true h2]; exact ⟨_, _, rfl, rfl, rfl⟩
        · rw [decide_eq_false h2]
          cases h4 : a0.asInt == 4 with
          | false => exact ⟨_, _, rfl, rfl, rfl⟩
          | true =>
            rw [w8 (by omega) (by omega)]
            have h3 : inRange (a1.asInt - 32) 95 = true := inRange_iff'.2 ⟨by omega, by omega⟩
            rw [h3]
            exact ⟨_, _, rfl, rfl, rfl⟩
  obtain ⟨g, b, h1, h2, h3⟩ := key
  exact ⟨[g, b], h1, eqr_int_bool (k := .u8) (by1 := 1) (by2 := 1) (by kernel_rfl) (by kernel_rfl) h2 h3⟩

end Go.Proofs.Ytgneobkmmmpbiaa
