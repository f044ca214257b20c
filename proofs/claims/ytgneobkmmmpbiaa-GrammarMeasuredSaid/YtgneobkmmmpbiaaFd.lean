/- Two characters a byte; characters as bytes; lengths in front. -/
import Derived.Test.YtgneobkmmmpbiaaFc
namespace Go.Proofs.Ytgneobkmmmpbiaa
open Go Go.Proofs Go.Eng
set_option linter.unusedVariables false
set_option linter.unusedSimpArgs false

/-- As long as a text may be here. -/
def LIM : Nat := 1099511627776
theorem lim_ok {t n m : Nat} {x : TI} (hl : Eng.look tl t = some x) (hb : x.bytes ≤ 128) (h : n + m ≤ LIM) : lim tl t n m = true := by
  unfold LIM at h
  unfold lim
  rw [ttOf_look hl, Bool.and_eq_true]
  refine ⟨Nat.ble_eq_true_of_le ?_, Nat.ble_eq_true_of_le (by unfold maxLen; omega)⟩
  have : (n + m) * x.bytes ≤ (n + m) * 128 := Nat.mul_le_mul_left _ hb
  omega
theorem lim5 {n m : Nat} (h : n + m ≤ LIM) : lim tl 5 n m = true := lim_ok (x := ⟨[.int .u8], false, 1, .int .u8⟩) (by kernel_rfl) (by decide) h

/-! packHalves. -/
def packHalves_sg : FSig := FSig.mk [3, 9] [(9, []), (35, [])] false
noncomputable def packHalves_c : Code := Try.f24.body.getD .skip
def packHalves_E : Env := ⟨tl, [(31, half_sg, half_s)], dirsOf [], dirsOf [(0, [Dir.own 6 5 1006, Dir.only [1006], Dir.sort [1006], Dir.keep [1, 6, 24, 25]]), (1, [Dir.own 6 5 1006, Dir.own 10 5 1010, Dir.only [1006, 1010], Dir.sort [1006, 1010], Dir.keep [6, 10, 11]])], dirsOf [(0, [Dir.own 6 5 1006, Dir.only [1006], Dir.sort [1006], Dir.keep [4, 5, 6]]), (1, [Dir.own 10 5 1010, Dir.only [1010], Dir.sort [1010], Dir.keep [10]])], joinsOf tl []⟩
def packHalves_sh1 : Shp := Shp.mk 71 [(6, ASh.one (SSh.ref 5 1006)), (10, ASh.one (SSh.ref 5 1010)), (11, ASh.one (SSh.s (CK.int IntKind.i64)))] [(1006, RSh.val 3 5), (1010, RSh.val 3 5)]
def packHalves_xs1 : Outs := [(Ex.exit 2, Shp.mk 71 [(10, ASh.one (SSh.ref 5 1010))] [(1010, RSh.val 3 5)])]
def packHalves_b1 {β : Type} (fuel : Nat) (g0 g1 g2 : GV) (kn : List GV → Option β) (kx : Nat → List GV → Option β) : Option β :=
  bif decide (g0.asInt < (↑g1.asList.length : Int)) then
  bif inRange g0.asInt g1.asList.length && true && true && true then
    bif inRange (IntKind.i64.wrap (g0.asInt + 1)) g1.asList.length && true && true && true then
      bif lim tl 5 g2.asList.length 1 then
        kn
          [GV.int (IntKind.i64.wrap (g0.asInt + 2)), GV.list 2 g1.asZ g1.asList [],
            GV.list 2 (g2.asZ && true)
              (g2.asList ++
                [GV.int
                    (bitI Go.BinOp.or IntKind.u8 (shlI IntKind.u8 (nth (GV.list 2 g1.asZ g1.asList []).all g0.asInt.toNat).asInt 4)
                      (nth (GV.list 2 g1.asZ g1.asList []).all (IntKind.i64.wrap (g0.asInt + 1)).toNat).asInt)])
              []]
      else none
    else none
  else none
else kx 0 [GV.list 2 g2.asZ g2.asList []]
def packHalves_e1 (fuel : Nat) : LEnt := ⟨1, packHalves_sh1, packHalves_xs1, fun gs kn kx => packHalves_b1 fuel (nth gs 0) (nth gs 1) (nth gs 2) kn kx⟩
def packHalves_l1 (fuel : Nat) (gs : List GV) : Option (Nat × List GV) := loopR (packHalves_e1 fuel).step fuel gs
theorem packHalves_t1 {β : Type} (fuel : Nat) (g0 g1 g2 : GV) (kn : List GV → Option β) (kx : Nat → List GV → Option β) : (packHalves_e1 fuel).step [g0, g1, g2] kn kx = packHalves_b1 fuel g0 g1 g2 kn kx := rfl
theorem packHalves_k1 (fuel : Nat) : StepOk packHalves_E packHalves_c (LZ) (packHalves_e1 fuel) :=
  ⟨by kernel_rfl, fun gs kn kx => by kernel_rfl, fun f gs kn kx => by simp only [packHalves_e1, packHalves_b1, bind_cond, Option.bind_assoc, Option.bind_none]⟩
def packHalves_sh0 : Shp := Shp.mk 71
  [(1, ASh.one (SSh.s CK.str)), (6, ASh.one (SSh.ref 5 1006)), (24, ASh.one (SSh.s (CK.int IntKind.i64))), (25, ASh.one (SSh.s (CK.int IntKind.i64)))]
  [(1006, RSh.val 3 5)]
def packHalves_xs0 : Outs := [(Ex.ret, Shp.mk 71 [(4, ASh.one (SSh.s CK.str)), (5, ASh.one (SSh.s (CK.int IntKind.i64))), (6, ASh.one (SSh.ref 5 1006))] [(1006, RSh.val 3 5)]),
  (Ex.exit 0, Shp.mk 71 [(4, ASh.one SSh.dead), (5, ASh.one SSh.dead), (6, ASh.one (SSh.ref 5 1006))] [(1006, RSh.val 3 5)])]
def packHalves_b0 {β : Type} (fuel : Nat) (g0 g1 g2 g3 : GV) (kn : List GV → Option β) (kx : Nat → List GV → Option β) : Option β :=
  bif decide (g2.asInt < g1.asInt) then
  bif inRange g2.asInt g0.asStr.size then
    bif !halfB (bt g0.asStr g2.asInt.toNat) then kx 0 [GV.str (ByteArray.mk #[]), GV.int 11, GV.list 2 g3.asZ g3.asList []]
    else
      bif lim tl 5 g3.asList.length 1 then
        kn [g0, g1, GV.int (IntKind.i64.wrap (g2.asInt + 1)), GV.list 2 (g3.asZ && true) (g3.asList ++ [GV.int (halfZ (bt g0.asStr g2.asInt.toNat))]) []]
      else none
  else none
else kx 1 [GV.list 2 g3.asZ g3.asList []]
def packHalves_e0 (fuel : Nat) : LEnt := ⟨0, packHalves_sh0, packHalves_xs0, fun gs kn kx => packHalves_b0 fuel (nth gs 0) (nth gs 1) (nth gs 2) (nth gs 3) kn kx⟩
def packHalves_l0 (fuel : Nat) (gs : List GV) : Option (Nat × List GV) := loopR (packHalves_e0 fuel).step fuel gs
theorem packHalves_t0 {β : Type} (fuel : Nat) (g0 g1 g2 g3 : GV) (kn : List GV → Option β) (kx : Nat → List GV → Option β) : (packHalves_e0 fuel).step [g0, g1, g2, g3] kn kx = packHalves_b0 fuel g0 g1 g2 g3 kn kx := rfl
theorem packHalves_k0 (fuel : Nat) : StepOk packHalves_E packHalves_c (LSc (packHalves_e1 fuel) fuel (LZ)) (packHalves_e0 fuel) :=
  ⟨by kernel_rfl, fun gs kn kx => by kernel_rfl, fun f gs kn kx => by simp only [packHalves_e0, packHalves_b0, bind_cond, Option.bind_assoc, Option.bind_none]⟩
def packHalves_f (fuel : Nat) (a0 a1 : GV) : Option R :=
  bif bif a0.asInt == 2 then (↑a1.asStr.size : Int).tmod 2 == 1 else false then
  (packHalves_l0 fuel [a1, GV.int (↑a1.asStr.size : Int), GV.int 0, GV.list 2 true [GV.int 0] []]).bind fun r0 =>
    bif r0.fst.beq 0 then some [nth r0.snd 0, nth r0.snd 1]
    else
      bif (↑(nth r0.snd 0).asList.length : Int).tmod 2 == 1 then
        bif lim tl 5 (nth r0.snd 0).asList.length 1 then
          (packHalves_l1 fuel [GV.int 0, GV.list 2 ((nth r0.snd 0).asZ && true) ((nth r0.snd 0).asList ++ [GV.int 15]) [], GV.list 2 true [] []]).bind fun r1 =>
            bif (nth r1.snd 0).asList.length.ble 140737488351232 then some [GV.str (bytesStr (nth r1.snd 0).asList), GV.int 0] else none
        else none
      else
        (packHalves_l1 fuel [GV.int 0, GV.list 2 (nth r0.snd 0).asZ (nth r0.snd 0).asList [], GV.list 2 true [] []]).bind fun r2 =>
          bif (nth r2.snd 0).asList.length.ble 140737488351232 then some [GV.str (bytesStr (nth r2.snd 0).asList), GV.int 0] else none
else
  (packHalves_l0 fuel [a1, GV.int (↑a1.asStr.size : Int), GV.int 0, GV.list 2 true [] []]).bind fun r3 =>
    bif r3.fst.beq 0 then some [nth r3.snd 0, nth r3.snd 1]
    else
      bif (↑(nth r3.snd 0).asList.length : Int).tmod 2 == 1 then
        bif lim tl 5 (nth r3.snd 0).asList.length 1 then
          (packHalves_l1 fuel [GV.int 0, GV.list 2 ((nth r3.snd 0).asZ && true) ((nth r3.snd 0).asList ++ [GV.int 15]) [], GV.list 2 true [] []]).bind fun r4 =>
            bif (nth r4.snd 0).asList.length.ble 140737488351232 then some [GV.str (bytesStr (nth r4.snd 0).asList), GV.int 0] else none
        else none
      else
        (packHalves_l1 fuel [GV.int 0, GV.list 2 (nth r3.snd 0).asZ (nth r3.snd 0).asList [], GV.list 2 true [] []]).bind fun r5 =>
          bif (nth r5.snd 0).asList.length.ble 140737488351232 then some [GV.str (bytesStr (nth r5.snd 0).asList), GV.int 0] else none
theorem packHalves_q (fuel : Nat) (a0 a1 : GV) : gexec packHalves_E (LSc (packHalves_e0 fuel) fuel (LSc (packHalves_e1 fuel) fuel (LZ))) Try.f24.ntmps Try.f24.results.toList packHalves_sg packHalves_c [a0, a1] = packHalves_f fuel a0 a1 := by kernel_rfl
theorem packHalves_calls (hS : SpecsOk Try.prog tl packHalves_E.sp) (fuel : Nat) : CallsOk Try.prog tl 24 packHalves_sg (gexec packHalves_E (LSc (packHalves_e0 fuel) fuel (LSc (packHalves_e1 fuel) fuel (LZ))) Try.f24.ntmps Try.f24.results.toList packHalves_sg packHalves_c) :=
  gexec_calls (E := packHalves_E) hP hS Try.func24 (by kernel_rfl) (by kernel_rfl) (fun W => LSc_ok hP hS (LSc_ok hP hS (LZ_ok) (packHalves_k1 fuel) fuel) (packHalves_k0 fuel) fuel)
def halvesL (s : ByteArray) : List GV := (List.range s.size).map fun i => .int (halfZ (bt s i))
theorem halvesL_len (s : ByteArray) : (halvesL s).length = s.size := by simp [halvesL]
def allHalf (s : ByteArray) : Bool := (List.range s.size).all fun i => halfB (bt s i)
def pairG (l : List GV) (i : Nat) : GV := .int (bitI .or .u8 (shlI .u8 (nth l i).asInt 4) (nth l (i + 1)).asInt)
def pairsL (l : List GV) (k : Nat) : List GV := (List.range k).map fun j => pairG l (2 * j)
def preL (e : Int) (s : ByteArray) : List GV := bif e == 2 && Nat.beq (s.size % 2) 1 then [.int 0] else []
def packL (e : Int) (s : ByteArray) : List GV := preL e s ++ halvesL s
def packL2 (e : Int) (s : ByteArray) : List GV := packL e s ++ (bif Nat.beq ((packL e s).length % 2) 1 then [.int 15] else [])
def packH (e : Int) (s : ByteArray) : List GV := pairsL (packL2 e s) ((packL2 e s).length / 2)
def packHalves_s : List GV → Option R
  | [a0, a1] => bif Nat.ble a1.asStr.size 1000000000 && allHalf a1.asStr then some [.str (bytesStr (packH a0.asInt a1.asStr)), .int 0] else none
  | _ => none
theorem halves_run0 {s : ByteArray} (hs : s.size ≤ 1000000000) (ha : allHalf s = true) (a1 : GV) (h1 : a1.asStr = s) (pre : List GV) (hpre : pre.length ≤ 1) {N : Nat} (hN : s.size < N) :
    packHalves_l0 N [a1, .int (s.size : Nat), .int 0, .list 2 true pre []] = some (1, [.list 2 true (pre ++ halvesL s) []]) := by
  have key := loop_done (step := (packHalves_e0 N).step) (S := fun i => [a1, .int (s.size : Nat), .int (i : Nat), .list 2 true (pre ++ (halvesL s).take i) []]) (n := s.size) (q := 1) (zs := [.list 2 true (pre ++ halvesL s) []]) (fun i hi kn kx => by
      rw [packHalves_t0]
      unfold packHalves_b0
      have e1 : decide ((GV.int (i : Int)).asInt < (GV.int (s.size : Nat)).asInt) = true := by simp; omega
      have e2 : inRange (GV.int (i : Int)).asInt a1.asStr.size = true := by rw [h1]; exact inRange_nat hi
      have e3 : halfB (bt s i) = true := List.all_eq_true.1 ha i (List.mem_range.2 hi)
      have e4 : lim tl 5 (GV.list 2 true (pre ++ (halvesL s).take i) []).asList.length 1 = true := lim5 (by simp [halvesL_len, LIM]; omega)
      rw [e1, e2, e4]
      simp only [cond_true, asInt_int, Int.toNat_natCast, h1, e3, Bool.not_true, cond_false, asZ_list, asList_list]
      rw [w64 (by omega) (by omega)]
      have e5 : (halvesL s).take (i + 1) = (halvesL s).take i ++ [.int (halfZ (bt s i))] := by
        rw [List.take_add_one]
        congr 1
        unfold halvesL
        rw [List.getElem?_map, List.getElem?_range hi]; rfl
      rw [e5, List.append_assoc]
      rfl) (fun kn kx => by
      rw [packHalves_t0]
      unfold packHalves_b0
      have e1 : decide ((GV.int (s.size : Int)).asInt < (GV.int (s.size : Nat)).asInt) = false := by simp
      rw [e1]
      have e2 : (halvesL s).take s.size = halvesL s := by rw [← halvesL_len s, List.take_length]
      rw [e2]
      rfl) hN
  have e : (halvesL s).take 0 = [] := rfl
  unfold packHalves_l0
  simp only [e, List.append_nil] at key
  exact key
theorem halves_run1 {l : List GV} {m : Nat} (hl : l.length = 2 * m) (hm : m ≤ 1000000001) (z : Bool) {N : Nat} (hN : m < N) : packHalves_l1 N [.int 0, .list 2 z l [], .list 2 true [] []] = some (0, [.list 2 true (pairsL l m) []]) := by
  have key := loop_done (step := (packHalves_e1 N).step) (S := fun k => [.int (2 * k : Nat), .list 2 z l [], .list 2 true (pairsL l k) []]) (n := m) (q := 0) (zs := [.list 2 true (pairsL l m) []]) (fun k hk kn kx => by
      rw [packHalves_t1]
      unfold packHalves_b1
      have e1 : decide ((GV.int ((2 * k : Nat) : Int)).asInt < ((GV.list 2 z l []).asList.length : Int)) = true := by simp [hl]; omega
      have e2 : inRange (GV.int ((2 * k : Nat) : Int)).asInt (GV.list 2 z l []).asList.length = true := by simp only [asList_list, asInt_int, hl]; exact inRange_nat (by omega)
      have e3 : IntKind.i64.wrap ((GV.int ((2 * k : Nat) : Int)).asInt + 1) = ((2 * k + 1 : Nat) : Int) := by simp only [asInt_int]; rw [w64 (by omega) (by omega)]; omega
      have e4 : inRange ((2 * k + 1 : Nat) : Int) (GV.list 2 z l []).asList.length = true := by simp only [asList_list, hl]; exact inRange_nat (by omega)
      have e5 : lim tl 5 (GV.list 2 true (pairsL l k) []).asList.length 1 = true := lim5 (by simp [pairsL, LIM]; omega)
      have e6 : IntKind.i64.wrap ((GV.int ((2 * k : Nat) : Int)).asInt + 2) = ((2 * (k + 1) : Nat) : Int) := by simp only [asInt_int]; rw [w64 (by omega) (by omega)]; omega
      rw [e1, e2, e3, e4, e5, e6]
      simp only [Bool.and_true, cond_true, asZ_list, asList_list, all_list, List.append_nil, asInt_int, Int.toNat_natCast]
      have e7 : pairsL l (k + 1) = pairsL l k ++ [pairG l (2 * k)] := by simp [pairsL, List.range_succ]
      rw [e7]
      rfl) (fun kn kx => by
      rw [packHalves_t1]
      unfold packHalves_b1
      have e1 : decide ((GV.int ((2 * m : Nat) : Int)).asInt < ((GV.list 2 z l []).asList.length : Int)) = false := by simp [hl]
      rw [e1]
      rfl) hN
  exact key
theorem packL2_even (e : Int) (s : ByteArray) : (packL2 e s).length = 2 * ((packL2 e s).length / 2) := by
  unfold packL2
  cases h : Nat.beq ((packL e s).length % 2) 1 with
  | true => have := Nat.eq_of_beq_eq_true h; simp only [cond_true, List.length_append, List.length_singleton]; omega
  | false =>
    have : (packL e s).length % 2 ≠ 1 := fun hh => by rw [hh] at h; cases h
    simp only [cond_false, List.append_nil]; omega
theorem packL2_le {e : Int} {s : ByteArray} (hs : s.size ≤ 1000000000) : (packL2 e s).length ≤ 1000000002 := by
  unfold packL2 packL preL
  have key : ∀ (b c : Bool) (l : List GV), l.length ≤ 1000000001 → (l ++ (bif c then [GV.int 15] else [])).length ≤ 1000000002 := by
    intro b c l h
    cases c <;> simp <;> omega
  refine key true _ _ ?_
  cases e == 2 && Nat.beq (s.size % 2) 1 <;> simp [halvesL_len] <;> omega
theorem odd_iff (n : Nat) : ((n : Int).tmod 2 == 1) = Nat.beq (n % 2) 1 := by
  have e : (n : Int).tmod 2 = ((n % 2 : Nat) : Int) := by rw [Int.tmod_eq_emod_of_nonneg (by omega)]; omega
  rw [e]
  by_cases h : n % 2 = 1
  · rw [h]; rfl
  · have h0 : n % 2 = 0 := by omega
    rw [h0]; rfl
/-- What stands behind the first loop. -/
theorem halves_tail {e : Int} {s : ByteArray} (hs : s.size ≤ 1000000000) {N : Nat} (hN : 1000000003 ≤ N) :
    (bif Nat.beq ((packL e s).length % 2) 1 then
        bif lim tl 5 (packL e s).length 1 then
          (packHalves_l1 N [GV.int 0, GV.list 2 true (packL e s ++ [GV.int 15]) [], GV.list 2 true [] []]).bind fun r1 =>
            bif (nth r1.snd 0).asList.length.ble 140737488351232 then some [GV.str (bytesStr (nth r1.snd 0).asList), GV.int 0] else none
        else none
      else
        (packHalves_l1 N [GV.int 0, GV.list 2 true (packL e s) [], GV.list 2 true [] []]).bind fun r2 =>
          bif (nth r2.snd 0).asList.length.ble 140737488351232 then some [GV.str (bytesStr (nth r2.snd 0).asList), GV.int 0] else none : Option R) = some [.str (bytesStr (packH e s)), .int 0] := by
  have h1 := packL2_even e s
  have h2 := packL2_le (e := e) hs
  have fin : ∀ z, ((packHalves_l1 N [GV.int 0, GV.list 2 z (packL2 e s) [], GV.list 2 true [] []]).bind fun r1 =>
            bif (nth r1.snd 0).asList.length.ble 140737488351232 then some [GV.str (bytesStr (nth r1.snd 0).asList), GV.int 0] else none : Option R) = some [.str (bytesStr (packH e s)), .int 0] := by
    intro z
    rw [halves_run1 h1 (by omega) z (by omega)]
    simp only [Option.bind_some, nth_zero, asList_list]
    have : Nat.ble (pairsL (packL2 e s) ((packL2 e s).length / 2)).length 140737488351232 = true := Nat.ble_eq_true_of_le (by simp [pairsL]; omega)
    rw [this]; rfl
  cases h : Nat.beq ((packL e s).length % 2) 1 with
  | true =>
    have e2 : packL2 e s = packL e s ++ [GV.int 15] := by unfold packL2; rw [h]; rfl
    have e3 : lim tl 5 (packL e s).length 1 = true := lim5 (by rw [e2] at h2; simp at h2; unfold LIM; omega)
    rw [e3, ← e2]
    exact fin true
  | false =>
    have e2 : packL2 e s = packL e s := by unfold packL2; rw [h]; simp
    rw [← e2]
    exact fin true
theorem packHalves_ok : CallsOk Try.prog tl 24 packHalves_sg packHalves_s := (packHalves_calls (specs_cons specs_nil half_ok Try.call31) 1000000003).of fun gs outs h => by
  rcases gs with _ | ⟨a0, _ | ⟨a1, _ | ⟨a2, t⟩⟩⟩ <;> first | (cases h; done) | skip
  rw [packHalves_q 1000000003]
  simp only [packHalves_s] at h
  cases hb : Nat.ble a1.asStr.size 1000000000 && allHalf a1.asStr with
  | false => rw [hb] at h; cases h
  | true =>
    rw [hb] at h
    rw [← h]
    simp only [Bool.and_eq_true] at hb
    have hs := Nat.le_of_ble_eq_true hb.1
    have tail := halves_tail (e := a0.asInt) hs (Nat.le_refl _)
    unfold packHalves_f
    rw [odd_iff]
    cases hc : (bif a0.asInt == 2 then Nat.beq (a1.asStr.size % 2) 1 else false) with
    | true =>
      have hp : preL a0.asInt a1.asStr = [.int 0] := by
        unfold preL
        have : (a0.asInt == 2 && Nat.beq (a1.asStr.size % 2) 1) = true := by revert hc; cases a0.asInt == 2 <;> simp
        rw [this]; rfl
      simp only [cond_true]
      rw [halves_run0 hs hb.2 a1 rfl [.int 0] (by simp) (by omega)]
      simp only [Option.bind_some, nth_zero, asList_list, asZ_list, odd_iff]
      unfold packL at tail
      rw [hp] at tail
      exact tail
    | false =>
      have hp : preL a0.asInt a1.asStr = [] := by
        unfold preL
        have : (a0.asInt == 2 && Nat.beq (a1.asStr.size % 2) 1) = false := by revert hc; cases a0.asInt == 2 <;> simp
        rw [this]; rfl
      simp only [cond_false]
      rw [halves_run0 hs hb.2 a1 rfl [] (by simp) (by omega)]
      simp only [Option.bind_some, nth_zero, asList_list, asZ_list, odd_iff]
      unfold packL at tail
      rw [hp] at tail
      exact tail

end Go.Proofs.Ytgneobkmmmpbiaa
