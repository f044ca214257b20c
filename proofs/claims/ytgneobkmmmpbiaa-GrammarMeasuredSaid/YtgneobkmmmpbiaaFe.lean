/- Characters as bytes; lengths in front. -/
import Derived.Test.YtgneobkmmmpbiaaFd
namespace Go.Proofs.Ytgneobkmmmpbiaa
open Go Go.Proofs Go.Eng
set_option linter.unusedVariables false
set_option linter.unusedSimpArgs false

/-! pack. -/
def pack_sg : FSig := FSig.mk [3, 9] [(9, []), (35, [])] false
noncomputable def pack_c : Code := Try.f11.body.getD .skip
def pack_E : Env := ⟨tl, [(24, packHalves_sg, packHalves_s), (25, wrt_sg, wrt_s)], dirsOf [], dirsOf [(0, [Dir.own 6 5 1006, Dir.only [1006], Dir.sort [1006], Dir.keep [0, 1, 6, 27, 28]])], dirsOf [(0, [Dir.own 6 5 1006, Dir.only [1006], Dir.sort [1006], Dir.keep [4, 5, 6]])], joinsOf tl [(5, mkJP tl [Dir.only [], Dir.sort [], Dir.keep [0, 1, 10, 11]] [(Ex.normal, Shp.mk 48
  [(0, ASh.one (SSh.s (CK.int IntKind.i64))), (1, ASh.one (SSh.s CK.str)), (10, ASh.one (SSh.s (CK.int IntKind.i64))), (11, ASh.one (SSh.s CK.bool))]
  [])]),
  (9, mkJP tl [Dir.only [], Dir.sort [], Dir.keep [0, 1, 19]] [(Ex.normal, Shp.mk 48 [(0, ASh.one (SSh.s (CK.int IntKind.i64))), (1, ASh.one (SSh.s CK.str)), (19, ASh.one (SSh.s CK.bool))] [])])]⟩
def pack_sh0 : Shp := Shp.mk 48
  [(0, ASh.one (SSh.s (CK.int IntKind.i64))), (1, ASh.one (SSh.s CK.str)), (6, ASh.one (SSh.ref 5 1006)), (27, ASh.one (SSh.s (CK.int IntKind.i64))),
    (28, ASh.one (SSh.s (CK.int IntKind.i64)))]
  [(1006, RSh.val 3 5)]
def pack_xs0 : Outs := [(Ex.ret, Shp.mk 48 [(4, ASh.one (SSh.s CK.str)), (5, ASh.one (SSh.s (CK.int IntKind.i64))), (6, ASh.one (SSh.ref 5 1006))] [(1006, RSh.val 3 5)]),
  (Ex.exit 1, Shp.mk 48 [(4, ASh.one SSh.dead), (5, ASh.one SSh.dead), (6, ASh.one (SSh.ref 5 1006))] [(1006, RSh.val 3 5)])]
def pack_b0 {β : Type} (fuel : Nat) (g0 g1 g2 g3 g4 : GV) (kn : List GV → Option β) (kx : Nat → List GV → Option β) : Option β :=
  bif decide (g3.asInt < g2.asInt) then
  bif inRange g3.asInt g1.asStr.size then
    bif !wrtB g0.asInt (bt g1.asStr g3.asInt.toNat) then kx 0 [GV.str (ByteArray.mk #[]), GV.int 11, GV.list 2 g4.asZ g4.asList []]
    else
      bif lim tl 5 g4.asList.length 1 then
        kn [g0, g1, g2, GV.int (IntKind.i64.wrap (g3.asInt + 1)), GV.list 2 (g4.asZ && true) (g4.asList ++ [GV.int (wrtZ g0.asInt (bt g1.asStr g3.asInt.toNat))]) []]
      else none
  else none
else kx 1 [GV.list 2 g4.asZ g4.asList []]
def pack_e0 (fuel : Nat) : LEnt := ⟨0, pack_sh0, pack_xs0, fun gs kn kx => pack_b0 fuel (nth gs 0) (nth gs 1) (nth gs 2) (nth gs 3) (nth gs 4) kn kx⟩
def pack_l0 (fuel : Nat) (gs : List GV) : Option (Nat × List GV) := loopR (pack_e0 fuel).step fuel gs
theorem pack_t0 {β : Type} (fuel : Nat) (g0 g1 g2 g3 g4 : GV) (kn : List GV → Option β) (kx : Nat → List GV → Option β) : (pack_e0 fuel).step [g0, g1, g2, g3, g4] kn kx = pack_b0 fuel g0 g1 g2 g3 g4 kn kx := rfl
theorem pack_k0 (fuel : Nat) : StepOk pack_E pack_c (LZ) (pack_e0 fuel) :=
  ⟨by kernel_rfl, fun gs kn kx => by kernel_rfl, fun f gs kn kx => by simp only [pack_e0, pack_b0, bind_cond, Option.bind_assoc, Option.bind_none]⟩
def pack_f (fuel : Nat) (a0 a1 : GV) : Option R :=
  (bif a0.asInt == 2 then some [GV.int 0, a0, a1, a0, GV.bool (a0.asInt == 2)] else some [GV.int 0, a0, a1, a0, GV.bool (a0.asInt == 3)]).bind fun o0 =>
  bif (nth o0 4).asBool then (packHalves_s [nth o0 1, nth o0 2]).bind fun o1 => some [nth o1 0, nth o1 1]
  else
    (bif (nth o0 3).asInt == 1 then some [GV.int 0, nth o0 1, nth o0 2, GV.bool ((nth o0 3).asInt == 1)]
        else
          bif (nth o0 3).asInt == 4 then some [GV.int 0, nth o0 1, nth o0 2, GV.bool ((nth o0 3).asInt == 4)]
          else some [GV.int 0, nth o0 1, nth o0 2, GV.bool ((nth o0 3).asInt == 5)]).bind
      fun o2 =>
      bif (nth o2 3).asBool then
        bif decide ((↑1 : Int) * (↑(nth o2 2).asStr.size : Int) ≤ 281474976710656) && decide ((↑(nth o2 2).asStr.size : Int) ≤ 9223372036854775807) then
          (pack_l0 fuel
                [nth o2 1, nth o2 2, GV.int (↑(nth o2 2).asStr.size : Int), GV.int 0,
                  GV.list 2 (bif (List.replicate ((↑(nth o2 2).asStr.size : Int).toNat - 0) (GV.int 0)).isEmpty then decide (0 < (↑(nth o2 2).asStr.size : Int)) else false) [] []]).bind
            fun r3 =>
            bif r3.fst.beq 0 then some [nth r3.snd 0, nth r3.snd 1]
            else bif (nth r3.snd 0).asList.length.ble 140737488351232 then some [GV.str (bytesStr (nth r3.snd 0).asList), GV.int 0] else none
        else none
      else some [GV.str (ByteArray.mk #[]), GV.int 1]
theorem pack_q (fuel : Nat) (a0 a1 : GV) : gexec pack_E (LSc (pack_e0 fuel) fuel (LZ)) Try.f11.ntmps Try.f11.results.toList pack_sg pack_c [a0, a1] = pack_f fuel a0 a1 := by kernel_rfl
theorem pack_calls (hS : SpecsOk Try.prog tl pack_E.sp) (fuel : Nat) : CallsOk Try.prog tl 11 pack_sg (gexec pack_E (LSc (pack_e0 fuel) fuel (LZ)) Try.f11.ntmps Try.f11.results.toList pack_sg pack_c) :=
  gexec_calls (E := pack_E) hP hS Try.func11 (by kernel_rfl) (by kernel_rfl) (fun W => LSc_ok hP hS (LZ_ok) (pack_k0 fuel) fuel)
def allWrt (e : Int) (s : ByteArray) : Bool := (List.range s.size).all fun i => wrtB e (bt s i)
def wrtL (e : Int) (s : ByteArray) : List GV := (List.range s.size).map fun i => .int (wrtZ e (bt s i))
theorem wrtL_len (e : Int) (s : ByteArray) : (wrtL e s).length = s.size := by simp [wrtL]
def pack_s : List GV → Option R
  | [a0, a1] => bif a0.asInt == 2 then packHalves_s [a0, a1] else bif a0.asInt == 3 then packHalves_s [a0, a1] else
      bif a0.asInt == 1 || (a0.asInt == 4 || a0.asInt == 5) then
        bif Nat.ble a1.asStr.size 1000000000 && allWrt a0.asInt a1.asStr then some [.str (bytesStr (wrtL a0.asInt a1.asStr)), .int 0] else none
      else some [.str ⟨#[]⟩, .int 1]
  | _ => none
theorem pack_run {e : Int} {s : ByteArray} (hs : s.size ≤ 1000000000) (ha : allWrt e s = true) (a0 a1 : GV) (h0 : a0.asInt = e) (h1 : a1.asStr = s) {N : Nat} (hN : s.size < N) :
    pack_l0 N [a0, a1, .int (s.size : Nat), .int 0, .list 2 false [] []] = some (1, [.list 2 false (wrtL e s) []]) := by
  have key := loop_done (step := (pack_e0 N).step) (S := fun i => [a0, a1, .int (s.size : Nat), .int (i : Nat), .list 2 false ((wrtL e s).take i) []]) (n := s.size) (q := 1) (zs := [.list 2 false (wrtL e s) []]) (fun i hi kn kx => by
      rw [pack_t0]
      unfold pack_b0
      have e1 : decide ((GV.int (i : Int)).asInt < (GV.int (s.size : Nat)).asInt) = true := by simp; omega
      have e2 : inRange (GV.int (i : Int)).asInt a1.asStr.size = true := by rw [h1]; exact inRange_nat hi
      have e3 : wrtB e (bt s i) = true := List.all_eq_true.1 ha i (List.mem_range.2 hi)
      have e4 : lim tl 5 (GV.list 2 false ((wrtL e s).take i) []).asList.length 1 = true := lim5 (by simp [wrtL_len, LIM]; omega)
      rw [e1, e2, e4]
      simp only [cond_true, asInt_int, Int.toNat_natCast, h0, h1, e3, Bool.not_true, cond_false, asZ_list, asList_list]
      rw [w64 (by omega) (by omega)]
      have e5 : (wrtL e s).take (i + 1) = (wrtL e s).take i ++ [.int (wrtZ e (bt s i))] := by
        rw [List.take_add_one]
        congr 1
        unfold wrtL
        rw [List.getElem?_map, List.getElem?_range hi]; rfl
      rw [e5]
      rfl) (fun kn kx => by
      rw [pack_t0]
      unfold pack_b0
      have e1 : decide ((GV.int (s.size : Int)).asInt < (GV.int (s.size : Nat)).asInt) = false := by simp
      have e2 : (wrtL e s).take s.size = wrtL e s := by rw [← wrtL_len e s, List.take_length]
      rw [e1, e2]
      rfl) hN
  exact key
/-- A contract with two results, as its list. -/
theorem two_eta {f : List GV → Option R} {l : List GV} (h : ∀ o, f l = some o → ∃ x y, o = [x, y]) : ((f l).bind fun o1 => some [nth o1 0, nth o1 1] : Option R) = f l := by
  cases hf : f l with
  | none => rfl
  | some o =>
    obtain ⟨x, y, rfl⟩ := h o hf
    rfl
theorem packHalves_two {l : List GV} : ∀ o, packHalves_s l = some o → ∃ x y, o = [x, y] := by
  intro o h
  rcases l with _ | ⟨a0, _ | ⟨a1, _ | ⟨a2, t⟩⟩⟩ <;> first | (cases h; done) | skip
  simp only [packHalves_s] at h
  cases hb : Nat.ble a1.asStr.size 1000000000 && allHalf a1.asStr with
  | false => rw [hb] at h; cases h
  | true => rw [hb] at h; cases h; exact ⟨_, _, rfl⟩
theorem pack_ok : CallsOk Try.prog tl 11 pack_sg pack_s := (pack_calls (specs_cons (specs_cons specs_nil wrt_ok Try.call25) packHalves_ok Try.call24) 1000000003).of fun gs outs h => by
  rcases gs with _ | ⟨a0, _ | ⟨a1, _ | ⟨a2, t⟩⟩⟩ <;> first | (cases h; done) | skip
  rw [pack_q 1000000003, ← h]
  simp only [pack_s] at h ⊢
  unfold pack_f
  cases h2 : a0.asInt == 2 with
  | true => exact two_eta packHalves_two
  | false =>
    cases h3 : a0.asInt == 3 with
    | true => exact two_eta packHalves_two
    | false =>
      rw [h2, h3] at h
      have tail : (a0.asInt == 1 || (a0.asInt == 4 || a0.asInt == 5)) = true → (bif decide ((1 : Int) * (a1.asStr.size : Int) ≤ 281474976710656) && decide ((a1.asStr.size : Int) ≤ 9223372036854775807) then
          (pack_l0 1000000003
                [a0, a1, GV.int (a1.asStr.size : Int), GV.int 0,
                  GV.list 2 (bif (List.replicate ((a1.asStr.size : Int).toNat - 0) (GV.int 0)).isEmpty then decide (0 < (a1.asStr.size : Int)) else false) [] []]).bind
            fun r3 =>
            bif r3.fst.beq 0 then some [nth r3.snd 0, nth r3.snd 1]
            else bif (nth r3.snd 0).asList.length.ble 140737488351232 then some [GV.str (bytesStr (nth r3.snd 0).asList), GV.int 0] else none
        else none : Option R) = bif Nat.ble a1.asStr.size 1000000000 && allWrt a0.asInt a1.asStr then some [.str (bytesStr (wrtL a0.asInt a1.asStr)), .int 0] else none := by
        intro hor
        rw [hor] at h
        simp only [cond_false, cond_true] at h
        cases hb : Nat.ble a1.asStr.size 1000000000 && allWrt a0.asInt a1.asStr with
        | false => rw [hb] at h; cases h
        | true =>
          simp only [Bool.and_eq_true] at hb
          have hs := Nat.le_of_ble_eq_true hb.1
          have e1 : decide ((1 : Int) * (a1.asStr.size : Int) ≤ 281474976710656) = true := decide_eq_true (by omega)
          have e2 : decide ((a1.asStr.size : Int) ≤ 9223372036854775807) = true := decide_eq_true (by omega)
          have e3 : (bif (List.replicate ((a1.asStr.size : Int).toNat - 0) (GV.int 0)).isEmpty then decide (0 < (a1.asStr.size : Int)) else false) = false := by
            by_cases h0 : a1.asStr.size = 0
            · rw [h0]; rfl
            · obtain ⟨k, hk⟩ : ∃ k, a1.asStr.size = k + 1 := ⟨a1.asStr.size - 1, by omega⟩
              rw [hk]; rfl
          rw [e1, e2, e3, pack_run hs hb.2 a0 a1 rfl rfl (by omega)]
          simp only [Option.bind_some, nth_zero, asList_list, Bool.and_self, cond_true]
          have e4 : Nat.ble (wrtL a0.asInt a1.asStr).length 140737488351232 = true := Nat.ble_eq_true_of_le (by rw [wrtL_len]; omega)
          rw [e4]; rfl
      have h2' : (nth [GV.int 0, a0, a1, a0, GV.bool false] 3).asInt = a0.asInt := rfl
      cases h1 : a0.asInt == 1 with
      | true =>
        rw [h1] at tail
        simp only [cond_false, Option.bind_some, nth_succ, nth_zero, asBool_bool, h1, cond_true, Bool.true_or]
        exact tail rfl
      | false =>
        cases h4 : a0.asInt == 4 with
        | true =>
          rw [h1, h4] at tail
          simp only [cond_false, Option.bind_some, nth_succ, nth_zero, asBool_bool, h1, h4, cond_true, Bool.true_or, Bool.false_or]
          exact tail rfl
        | false =>
          cases h5 : a0.asInt == 5 with
          | true =>
            rw [h1, h4, h5] at tail
            simp only [cond_false, Option.bind_some, nth_succ, nth_zero, asBool_bool, h1, h4, h5, cond_true, Bool.true_or, Bool.false_or]
            exact tail rfl
          | false =>
            simp only [cond_false, Option.bind_some, nth_succ, nth_zero, asBool_bool, h1, h4, h5, cond_true, Bool.true_or, Bool.false_or]

end Go.Proofs.Ytgneobkmmmpbiaa
