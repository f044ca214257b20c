/- What is made out of raw numbers: the functions themselves. -/
import Derived.Test.YtgneobkmmmpbiaaFk
namespace Go.Proofs.Ytgneobkmmmpbiaa
open Go Go.Proofs Go.Eng
set_option linter.unusedVariables false
set_option linter.unusedSimpArgs false

/-! types. -/
def types_sg : FSig := FSig.mk [3] [(51, [2])] false
noncomputable def types_c : Code := Try.f14.body.getD .skip
def types_E : Env := ⟨tl, [], dirsOf [], dirsOf [(0, [Dir.own 3 9 1003, Dir.only [1003, 6], Dir.sort [1003, 6], Dir.keep [0, 3, 4, 5]])], dirsOf [(0, [Dir.own 3 9 1003, Dir.only [1003], Dir.sort [1003], Dir.keep [3]])], joinsOf tl []⟩
def types_sh0 : Shp := Shp.mk 26 [(0, ASh.one (SSh.s (CK.int IntKind.i64))), (3, ASh.one (SSh.ref 9 1003)), (4, ASh.one (SSh.ref 9 6)), (5, ASh.one (SSh.s (CK.int IntKind.i64)))]
  [(1003, RSh.val 3 9), (6, RSh.val 3 9)]
def types_xs0 : Outs := [(Ex.exit 0, Shp.mk 26 [(3, ASh.one (SSh.ref 9 1003))] [(1003, RSh.val 3 9)])]
def types_b0 {β : Type} (fuel : Nat) (g0 g1 g2 g3 : GV) (kn : List GV → Option β) (kx : Nat → List GV → Option β) : Option β :=
  bif decide (g1.asInt < (↑g3.asList.length : Int)) then
  bif (inRange (IntKind.i64.wrap (g0.asInt + 1)) 3 && inRange g0.asInt ((IntKind.i64.wrap (g0.asInt + 1)).toNat + 1), g0.asInt.toNat, (IntKind.i64.wrap (g0.asInt + 1)).toNat).fst then
    bif inRange g1.asInt g3.asList.length && true && true && true then
      bif
          (((ByteArray.mk #[48, 49]).extract
                    (inRange (IntKind.i64.wrap (g0.asInt + 1)) 3 && inRange g0.asInt ((IntKind.i64.wrap (g0.asInt + 1)).toNat + 1), g0.asInt.toNat, (IntKind.i64.wrap (g0.asInt + 1)).toNat).snd.fst
                    (inRange (IntKind.i64.wrap (g0.asInt + 1)) 3 && inRange g0.asInt ((IntKind.i64.wrap (g0.asInt + 1)).toNat + 1), g0.asInt.toNat, (IntKind.i64.wrap (g0.asInt + 1)).toNat).snd.snd).size +
                (nth (GV.list 2 g3.asZ g3.asList []).all g1.asInt.toNat).asStr.size).ble
            140737488351232 then
        bif lim tl 9 g2.asList.length 1 then
          kn
            [g0, GV.int (IntKind.i64.wrap (g1.asInt + 1)),
              GV.list 2 (g2.asZ && true)
                (g2.asList ++
                  [GV.str
                      ((ByteArray.mk #[48, 49]).extract
                          (inRange (IntKind.i64.wrap (g0.asInt + 1)) 3 && inRange g0.asInt ((IntKind.i64.wrap (g0.asInt + 1)).toNat + 1), g0.asInt.toNat, (IntKind.i64.wrap (g0.asInt + 1)).toNat).snd.fst
                          (inRange (IntKind.i64.wrap (g0.asInt + 1)) 3 && inRange g0.asInt ((IntKind.i64.wrap (g0.asInt + 1)).toNat + 1), g0.asInt.toNat, (IntKind.i64.wrap (g0.asInt + 1)).toNat).snd.snd ++
                        (nth (GV.list 2 g3.asZ g3.asList []).all g1.asInt.toNat).asStr)])
                [],
              GV.list 2 g3.asZ g3.asList []]
        else none
      else none
    else none
  else none
else kx 0 [GV.list 2 g2.asZ g2.asList []]
def types_e0 (fuel : Nat) : LEnt := ⟨0, types_sh0, types_xs0, fun gs kn kx => types_b0 fuel (nth gs 0) (nth gs 1) (nth gs 2) (nth gs 3) kn kx⟩
def types_l0 (fuel : Nat) (gs : List GV) : Option (Nat × List GV) := loopR (types_e0 fuel).step fuel gs
theorem types_t0 {β : Type} (fuel : Nat) (g0 g1 g2 g3 : GV) (kn : List GV → Option β) (kx : Nat → List GV → Option β) : (types_e0 fuel).step [g0, g1, g2, g3] kn kx = types_b0 fuel g0 g1 g2 g3 kn kx := rfl
theorem types_k0 (fuel : Nat) : StepOk types_E types_c (LZ) (types_e0 fuel) :=
  ⟨by kernel_rfl, fun gs kn kx => by kernel_rfl, fun f gs kn kx => by simp only [types_e0, types_b0, bind_cond, Option.bind_assoc, Option.bind_none]⟩
def types_f (fuel : Nat) (a0 : GV) : Option R :=
  (types_l0 fuel
      [a0, GV.int 0, GV.list 2 true [] [],
        GV.list 2 true
          [GV.str (ByteArray.mk #[49, 48, 48]), GV.str (ByteArray.mk #[49, 48, 49]), GV.str (ByteArray.mk #[49, 49, 48]), GV.str (ByteArray.mk #[49, 50, 48]), GV.str (ByteArray.mk #[49, 50, 49]),
            GV.str (ByteArray.mk #[49, 51, 48]), GV.str (ByteArray.mk #[50, 48, 48]), GV.str (ByteArray.mk #[50, 48, 49]), GV.str (ByteArray.mk #[50, 49, 48]), GV.str (ByteArray.mk #[50, 50, 48]),
            GV.str (ByteArray.mk #[50, 50, 49]), GV.str (ByteArray.mk #[50, 51, 48]), GV.str (ByteArray.mk #[52, 50, 48]), GV.str (ByteArray.mk #[52, 50, 49]), GV.str (ByteArray.mk #[52, 51, 48]),
            GV.str (ByteArray.mk #[53, 48, 48]), GV.str (ByteArray.mk #[53, 48, 49]), GV.str (ByteArray.mk #[53, 49, 48]), GV.str (ByteArray.mk #[56, 48, 48]), GV.str (ByteArray.mk #[56, 48, 49]),
            GV.str (ByteArray.mk #[56, 49, 48])]
          []]).bind
  fun r0 => some [GV.list 2 (nth r0.snd 0).asZ (nth r0.snd 0).asList []]
theorem types_q (fuel : Nat) (a0 : GV) : gexec types_E (LSc (types_e0 fuel) fuel (LZ)) Try.f14.ntmps Try.f14.results.toList types_sg types_c [a0] = types_f fuel a0 := by kernel_rfl
theorem types_calls (hS : SpecsOk Try.prog tl types_E.sp) (fuel : Nat) : CallsOk Try.prog tl 14 types_sg (gexec types_E (LSc (types_e0 fuel) fuel (LZ)) Try.f14.ntmps Try.f14.results.toList types_sg types_c) :=
  gexec_calls (E := types_E) hP hS Try.func14 (by kernel_rfl) (by kernel_rfl) (fun W => LSc_ok hP hS (LZ_ok) (types_k0 fuel) fuel)
def types_s : List GV → Option R
  | [a0] => types_f 1000 a0
  | _ => none
theorem types_ok : CallsOk Try.prog tl 14 types_sg types_s := (types_calls specs_nil 1000).of fun gs outs h => by
  rcases gs with _ | ⟨a0, _ | ⟨a1, t⟩⟩ <;> first | (cases h; done) | skip
  rw [types_q 1000]; exact h

/-! spec. -/
def spec_sg : FSig := FSig.mk [3, 49] [(33, [])] false
noncomputable def spec_c : Code := Try.f13.body.getD .skip
def spec_E : Env := ⟨tl, [(5, pick_sg, pick_s), (29, encodings_sg, encodings_s)], dirsOf [], dirsOf [], dirsOf [], joinsOf tl [(9, mkJP tl [Dir.only [3, 4, 5], Dir.sort [3, 4, 5], Dir.keep [3, 4, 5, 7]] [(Ex.normal, Shp.mk 82 [(3, ASh.one (SSh.ptr 3 [(0, 0)])), (4, ASh.one (SSh.ptr 4 [(0, 0)])), (5, ASh.one (SSh.ptr 5 [(0, 0)])), (7, ASh.one (SSh.s CK.bool))]
  [(3, RSh.rowA 2 49 [0, 0, 0, 0, 0]), (4, RSh.rowA 2 33 [0, 0, 0, 0, 0, 0]), (5, RSh.rowA 2 33 [0, 0, 0, 0, 0, 0])])]),
  (14, mkJP tl [Dir.only [3, 4, 5], Dir.sort [3, 4, 5], Dir.keep [3, 4, 5, 7, 8]] [(Ex.normal, Shp.mk 82
  [(3, ASh.one (SSh.ptr 3 [(0, 0)])), (4, ASh.one (SSh.ptr 4 [(0, 0)])), (5, ASh.one (SSh.ptr 5 [(0, 0)])), (7, ASh.one (SSh.s CK.bool)),
    (8, ASh.one (SSh.s (CK.int IntKind.i64)))]
  [(3, RSh.rowA 2 49 [0, 0, 0, 0, 0]), (4, RSh.rowA 2 33 [0, 0, 0, 0, 0, 0]), (5, RSh.rowA 2 33 [0, 0, 0, 0, 0, 0])])]),
  (16, mkJP tl [Dir.only [3, 4, 5], Dir.sort [3, 4, 5], Dir.keep [3, 4, 5, 7, 8]] [(Ex.normal, Shp.mk 82
  [(3, ASh.one (SSh.ptr 3 [(0, 0)])), (4, ASh.one (SSh.ptr 4 [(0, 0)])), (5, ASh.one (SSh.ptr 5 [(0, 0)])), (7, ASh.one (SSh.s CK.bool)),
    (8, ASh.one (SSh.s (CK.int IntKind.i64)))]
  [(3, RSh.rowA 2 49 [0, 0, 0, 0, 0]), (4, RSh.rowA 2 33 [0, 0, 0, 0, 0, 0]), (5, RSh.rowA 2 33 [0, 0, 0, 0, 0, 0])])]),
  (19, mkJP tl [Dir.only [4, 5], Dir.sort [4, 5], Dir.keep [4, 5]] [(Ex.normal, Shp.mk 82 [(4, ASh.one (SSh.ptr 4 [(0, 0)])), (5, ASh.one (SSh.ptr 5 [(0, 0)]))] [(4, RSh.rowA 2 33 [0, 0, 0, 0, 0, 0]), (5, RSh.rowA 2 33 [0, 0, 0, 0, 0, 0])])]),
  (21, mkJP tl [Dir.only [4, 5], Dir.sort [4, 5], Dir.keep [4, 5]] [(Ex.normal, Shp.mk 82 [(4, ASh.one (SSh.ptr 4 [(0, 0)])), (5, ASh.one (SSh.ptr 5 [(0, 0)]))] [(4, RSh.rowA 2 33 [0, 0, 0, 0, 0, 0]), (5, RSh.rowA 2 33 [0, 0, 0, 0, 0, 0])])])]⟩
def spec_f (fuel : Nat) (a0 a1 : GV) : Option R :=
  (pick_s [cellG true a1 2, GV.int (↑(encL (IntKind.i64.wrap (1 + pickZ (cellG true a1 1).asInt 9))).length : Int)]).bind fun o0 =>
  bif inRange (nth o0 0).asInt (encL (IntKind.i64.wrap (1 + pickZ (cellG true a1 1).asInt 9))).length && true && true && true then
    (bif
            bif bif IntKind.i64.wrap (1 + pickZ (cellG true a1 1).asInt 9) == 8 then true else IntKind.i64.wrap (1 + pickZ (cellG true a1 1).asInt 9) == 9 then
              pickZ (cellG true a1 3).asInt 5 == 0
            else false then
          some
            [GV.int 0,
              GV.bool
                (bif IntKind.i64.wrap (1 + pickZ (cellG true a1 1).asInt 9) == 8 then true else IntKind.i64.wrap (1 + pickZ (cellG true a1 1).asInt 9) == 9),
              cellG true a1 0, cellG true a1 1, cellG true a1 2, cellG true a1 3, cellG true a1 4, GV.int 0, GV.int 0, GV.int 0, GV.int 0, GV.int 0, GV.int 0, a0,
              GV.int (IntKind.i64.wrap (1 + pickZ (cellG true a1 1).asInt 9)),
              nth (GV.list 2 true (encL (IntKind.i64.wrap (1 + pickZ (cellG true a1 1).asInt 9))) []).all (nth o0 0).asInt.toNat, GV.int 3,
              GV.int 0, GV.int 0]
        else
          some
            [GV.int 0,
              GV.bool
                (bif IntKind.i64.wrap (1 + pickZ (cellG true a1 1).asInt 9) == 8 then true else IntKind.i64.wrap (1 + pickZ (cellG true a1 1).asInt 9) == 9),
              cellG true a1 0, cellG true a1 1, cellG true a1 2, cellG true a1 3, cellG true a1 4, GV.int 0, GV.int 0, GV.int 0, GV.int 0, GV.int 0, GV.int 0, a0,
              GV.int (IntKind.i64.wrap (1 + pickZ (cellG true a1 1).asInt 9)),
              nth (GV.list 2 true (encL (IntKind.i64.wrap (1 + pickZ (cellG true a1 1).asInt 9))) []).all (nth o0 0).asInt.toNat,
              GV.int (pickZ (cellG true a1 3).asInt 5), GV.int 0, GV.int 0]).bind
      fun o1 =>
      (bif decide ((nth o1 16).asInt > 0) then
            bif inRange (pickZ (IntKind.i64.wrap ((nth o1 4).asInt.tdiv 8)) 4) 4 && true && true && true then
              (bif (nth o1 16).asInt == 1 then
                    some
                      [GV.int 0, nth o1 1, GV.int 9, nth o1 2, nth o1 3, nth o1 4, nth o1 5, nth o1 6, nth o1 7, nth o1 8, nth o1 9, nth o1 10,
                        nth o1 11, nth o1 12, nth o1 13, nth o1 14, nth o1 15, nth o1 16,
                        nth [GV.int 1, GV.int 2, GV.int 4, GV.int 5] (pickZ (IntKind.i64.wrap ((nth o1 4).asInt.tdiv 8)) 4).toNat, nth o1 18]
                  else
                    some
                      [GV.int 0, nth o1 1, GV.int 120, nth o1 2, nth o1 3, nth o1 4, nth o1 5, nth o1 6, nth o1 7, nth o1 8, nth o1 9, nth o1 10,
                        nth o1 11, nth o1 12, nth o1 13, nth o1 14, nth o1 15, nth o1 16,
                        nth [GV.int 1, GV.int 2, GV.int 4, GV.int 5] (pickZ (IntKind.i64.wrap ((nth o1 4).asInt.tdiv 8)) 4).toNat, nth o1 18]).bind
                fun o2 =>
                bif (nth o2 17).asInt == 2 then
                  some
                    [GV.int 0, nth o2 1, GV.int 99, nth o2 3, nth o2 4, nth o2 5, nth o2 6, nth o2 7, nth o2 8, nth o2 9, nth o2 10, nth o2 11,
                      nth o2 12, nth o2 13, nth o2 14, nth o2 15, nth o2 16, nth o2 17, nth o2 18, nth o2 19]
                else
                  some
                    [GV.int 0, nth o2 1, nth o2 2, nth o2 3, nth o2 4, nth o2 5, nth o2 6, nth o2 7, nth o2 8, nth o2 9, nth o2 10, nth o2 11,
                      nth o2 12, nth o2 13, nth o2 14, nth o2 15, nth o2 16, nth o2 17, nth o2 18, nth o2 19]
            else none
          else
            some
              [GV.int 0, nth o1 1, GV.int 120, nth o1 2, nth o1 3, nth o1 4, nth o1 5, nth o1 6, nth o1 7, nth o1 8, nth o1 9, nth o1 10, nth o1 11,
                nth o1 12, nth o1 13, nth o1 14, nth o1 15, nth o1 16, nth o1 17, nth o1 18]).bind
        fun o3 =>
        (pick_s [nth o3 7, nth o3 2]).bind fun o4 =>
          (bif (nth o3 1).asBool then
                some
                  [GV.int 0, nth o3 8, nth o3 9, nth o3 10, nth o3 11, nth o3 12, nth o3 13, nth o3 14, nth o3 15, nth o3 16, nth o3 17, nth o3 18,
                    GV.int (maxI (IntKind.i64.wrap (1 + (nth o4 0).asInt)) 4)]
              else
                some
                  [GV.int 0, nth o3 8, nth o3 9, nth o3 10, nth o3 11, nth o3 12, nth o3 13, nth o3 14, nth o3 15, nth o3 16, nth o3 17, nth o3 18,
                    GV.int (IntKind.i64.wrap (1 + (nth o4 0).asInt))]).bind
            fun o5 =>
            (bif (nth o5 8).asInt == 7 then
                  some
                    [GV.int 0, nth o5 1, nth o5 2, nth o5 3, nth o5 4, nth o5 5, nth o5 6, nth o5 7, nth o5 8, nth o5 9, nth o5 10, nth o5 11,
                      GV.int (maxI (nth o5 12).asInt 2)]
                else
                  some
                    [GV.int 0, nth o5 1, nth o5 2, nth o5 3, nth o5 4, nth o5 5, nth o5 6, nth o5 7, nth o5 8, nth o5 9, nth o5 10, nth o5 11,
                      nth o5 12]).bind
              fun o6 => some [GV.agg [nth o6 7, nth o6 8, nth o6 9, nth o6 10, nth o6 11, nth o6 12]]
  else none
theorem spec_q (fuel : Nat) (a0 a1 : GV) : gexec spec_E (LZ) Try.f13.ntmps Try.f13.results.toList spec_sg spec_c [a0, a1] = spec_f fuel a0 a1 := by kernel_rfl
theorem spec_calls (hS : SpecsOk Try.prog tl spec_E.sp) (fuel : Nat) : CallsOk Try.prog tl 13 spec_sg (gexec spec_E (LZ) Try.f13.ntmps Try.f13.results.toList spec_sg spec_c) :=
  gexec_calls (E := spec_E) hP hS Try.func13 (by kernel_rfl) (by kernel_rfl) (fun W => LZ_ok)
def spec_s : List GV → Option R
  | [a0, a1] => spec_f 1000 a0 a1
  | _ => none
theorem spec_ok : CallsOk Try.prog tl 13 spec_sg spec_s := (spec_calls (specs_cons (specs_cons specs_nil encodings_ok Try.call29) pick_ok Try.call5) 1000).of fun gs outs h => by
  rcases gs with _ | ⟨a0, _ | ⟨a1, _ | ⟨a2, t⟩⟩⟩ <;> first | (cases h; done) | skip
  rw [spec_q 1000]; exact h

/-! rule10. -/
def rule10_sg : FSig := FSig.mk [26, 9, 49] [(30, [0, 2, 2])] true
noncomputable def rule10_c : Code := Try.f15.body.getD .skip
def rule10_E : Env := ⟨tl, [(5, pick_sg, pick_s)], dirsOf [], dirsOf [(0, [Dir.only [3, 5, 6, 7], Dir.sort [3, 5, 6, 7], Dir.keep [3, 5, 6, 7, 8]])], dirsOf [(0, [Dir.only [6, 7], Dir.sort [6, 7], Dir.keep [6, 7]])], joinsOf tl []⟩
def rule10_sh0 : Shp := Shp.mk 66
  [(3, ASh.one (SSh.ptr 3 [(0, 0)])), (5, ASh.one (SSh.ptr 5 [(0, 0)])), (6, ASh.one (SSh.ptr 6 [(0, 0)])), (7, ASh.one (SSh.ptr 7 [(0, 0)])),
    (8, ASh.one (SSh.s (CK.int IntKind.i64)))]
  [(3, RSh.rowA 2 26 [0, 0, 0, 0, 1, 1, 0]), (5, RSh.rowA 2 49 [0, 0, 0, 0, 0]), (6, RSh.rowA 2 30 [0, 3, 3]), (7, RSh.rowA 2 30 [0, 3, 3])]
def rule10_xs0 : Outs := [(Ex.exit 0, Shp.mk 66 [(6, ASh.one (SSh.ptr 6 [(0, 0)])), (7, ASh.one (SSh.ptr 7 [(0, 0)]))] [(6, RSh.rowA 2 30 [0, 3, 3]), (7, RSh.rowA 2 30 [0, 3, 3])])]
def rule10_b0 {β : Type} (fuel : Nat) (g0 g1 g2 g3 g4 g5 g6 g7 g8 g9 g10 g11 g12 g13 g14 g15 g16 g17 g18 : GV) (kn : List GV → Option β) (kx : Nat → List GV → Option β) : Option β :=
  bif decide (g0.asInt < (↑g5.asList.length : Int)) then
  bif inRange (g0.asInt.tmod 4) 4 && true && true && true then
    bif !decide (IntKind.i64.wrap (3 * IntKind.i64.wrap (g0.asInt.tdiv 4)) < 0) then
      bif pickZ (shrI IntKind.i64 (nth [g9, g10, g11, g12] (g0.asInt.tmod 4).toNat).asInt (IntKind.i64.wrap (3 * IntKind.i64.wrap (g0.asInt.tdiv 4)))) 4 == 0 then
        bif pickZ (shrI IntKind.i64 (nth [g9, g10, g11, g12] (g0.asInt.tmod 4).toNat).asInt (IntKind.i64.wrap (3 * IntKind.i64.wrap (g0.asInt.tdiv 4)))) 4 == 0 then
          bif inRange g0.asInt g5.asList.length then
            bif lim tl 3 g17.asList.length 1 then
              kn
                [GV.int (IntKind.i64.wrap (g0.asInt + 1)), g1, g2, g3, g4, GV.list 0 g5.asZ g5.asList g5.asSp, GV.list 0 g6.asZ g6.asList g6.asSp, g7, g8, g9, g10, g11, g12, g13,
                  GV.list 2 g14.asZ g14.asList [], GV.list 2 g15.asZ g15.asList [], g16,
                  GV.list 2 (g17.asZ && true) (g17.asList ++ [cellG true (nth (GV.list 0 g5.asZ g5.asList g5.asSp).all g0.asInt.toNat) 0]) [], GV.list 2 g18.asZ g18.asList []]
            else none
          else none
        else
          bif pickZ (shrI IntKind.i64 (nth [g9, g10, g11, g12] (g0.asInt.tmod 4).toNat).asInt (IntKind.i64.wrap (3 * IntKind.i64.wrap (g0.asInt.tdiv 4)))) 4 == 2 then
            bif inRange g0.asInt g5.asList.length then
              bif lim tl 3 g18.asList.length 1 then
                kn
                  [GV.int (IntKind.i64.wrap (g0.asInt + 1)), g1, g2, g3, g4, GV.list 0 g5.asZ g5.asList g5.asSp, GV.list 0 g6.asZ g6.asList g6.asSp, g7, g8, g9, g10, g11, g12, g13,
                    GV.list 2 g14.asZ g14.asList [], GV.list 2 g15.asZ g15.asList [], g16, GV.list 2 g17.asZ g17.asList [],
                    GV.list 2 (g18.asZ && true) (g18.asList ++ [cellG true (nth (GV.list 0 g5.asZ g5.asList g5.asSp).all g0.asInt.toNat) 0]) []]
              else none
            else none
          else
            kn
              [GV.int (IntKind.i64.wrap (g0.asInt + 1)), g1, g2, g3, g4, GV.list 0 g5.asZ g5.asList g5.asSp, GV.list 0 g6.asZ g6.asList g6.asSp, g7, g8, g9, g10, g11, g12, g13, GV.list 2 g14.asZ g14.asList [],
                GV.list 2 g15.asZ g15.asList [], g16, GV.list 2 g17.asZ g17.asList [], GV.list 2 g18.asZ g18.asList []]
      else
        bif pickZ (shrI IntKind.i64 (nth [g9, g10, g11, g12] (g0.asInt.tmod 4).toNat).asInt (IntKind.i64.wrap (3 * IntKind.i64.wrap (g0.asInt.tdiv 4)))) 4 == 1 then
          bif inRange g0.asInt g5.asList.length then
            bif lim tl 3 g17.asList.length 1 then
              kn
                [GV.int (IntKind.i64.wrap (g0.asInt + 1)), g1, g2, g3, g4, GV.list 0 g5.asZ g5.asList g5.asSp, GV.list 0 g6.asZ g6.asList g6.asSp, g7, g8, g9, g10, g11, g12, g13,
                  GV.list 2 g14.asZ g14.asList [], GV.list 2 g15.asZ g15.asList [], g16,
                  GV.list 2 (g17.asZ && true) (g17.asList ++ [cellG true (nth (GV.list 0 g5.asZ g5.asList g5.asSp).all g0.asInt.toNat) 0]) [], GV.list 2 g18.asZ g18.asList []]
            else none
          else none
        else
          bif pickZ (shrI IntKind.i64 (nth [g9, g10, g11, g12] (g0.asInt.tmod 4).toNat).asInt (IntKind.i64.wrap (3 * IntKind.i64.wrap (g0.asInt.tdiv 4)))) 4 == 2 then
            bif inRange g0.asInt g5.asList.length then
              bif lim tl 3 g18.asList.length 1 then
                kn
                  [GV.int (IntKind.i64.wrap (g0.asInt + 1)), g1, g2, g3, g4, GV.list 0 g5.asZ g5.asList g5.asSp, GV.list 0 g6.asZ g6.asList g6.asSp, g7, g8, g9, g10, g11, g12, g13,
                    GV.list 2 g14.asZ g14.asList [], GV.list 2 g15.asZ g15.asList [], g16, GV.list 2 g17.asZ g17.asList [],
                    GV.list 2 (g18.asZ && true) (g18.asList ++ [cellG true (nth (GV.list 0 g5.asZ g5.asList g5.asSp).all g0.asInt.toNat) 0]) []]
              else none
            else none
          else
            kn
              [GV.int (IntKind.i64.wrap (g0.asInt + 1)), g1, g2, g3, g4, GV.list 0 g5.asZ g5.asList g5.asSp, GV.list 0 g6.asZ g6.asList g6.asSp, g7, g8, g9, g10, g11, g12, g13, GV.list 2 g14.asZ g14.asList [],
                GV.list 2 g15.asZ g15.asList [], g16, GV.list 2 g17.asZ g17.asList [], GV.list 2 g18.asZ g18.asList []]
    else none
  else none
else kx 0 [g13, GV.list 2 g14.asZ g14.asList [], GV.list 2 g15.asZ g15.asList [], g16, GV.list 2 g17.asZ g17.asList [], GV.list 2 g18.asZ g18.asList []]
def rule10_e0 (fuel : Nat) : LEnt := ⟨0, rule10_sh0, rule10_xs0, fun gs kn kx => rule10_b0 fuel (nth gs 0) (nth gs 1) (nth gs 2) (nth gs 3) (nth gs 4) (nth gs 5) (nth gs 6) (nth gs 7) (nth gs 8) (nth gs 9) (nth gs 10) (nth gs 11) (nth gs 12) (nth gs 13) (nth gs 14) (nth gs 15) (nth gs 16) (nth gs 17) (nth gs 18) kn kx⟩
def rule10_l0 (fuel : Nat) (gs : List GV) : Option (Nat × List GV) := loopR (rule10_e0 fuel).step fuel gs
theorem rule10_t0 {β : Type} (fuel : Nat) (g0 g1 g2 g3 g4 g5 g6 g7 g8 g9 g10 g11 g12 g13 g14 g15 g16 g17 g18 : GV) (kn : List GV → Option β) (kx : Nat → List GV → Option β) : (rule10_e0 fuel).step [g0, g1, g2, g3, g4, g5, g6, g7, g8, g9, g10, g11, g12, g13, g14, g15, g16, g17, g18] kn kx = rule10_b0 fuel g0 g1 g2 g3 g4 g5 g6 g7 g8 g9 g10 g11 g12 g13 g14 g15 g16 g17 g18 kn kx := rfl
theorem rule10_k0 (fuel : Nat) : StepOk rule10_E rule10_c (LZ) (rule10_e0 fuel) :=
  ⟨by kernel_rfl, fun gs kn kx => by kernel_rfl, fun f gs kn kx => by simp only [rule10_e0, rule10_b0, bind_cond, Option.bind_assoc, Option.bind_none]⟩
def rule10_f (fuel : Nat) (a0 a1 a2 : GV) : Option R :=
  (rule10_l0 fuel
      [GV.int 0, cellG true a0 0, cellG true a0 1, cellG true a0 2, cellG true a0 3, GV.list 0 (cellG true a0 4).asZ (cellG true a0 4).asList (cellG true a0 4).asSp,
        GV.list 0 (cellG true a0 5).asZ (cellG true a0 5).asList (cellG true a0 5).asSp, cellG true a0 6, cellG true a2 0, cellG true a2 1, cellG true a2 2, cellG true a2 3,
        cellG true a2 4, GV.str (ByteArray.mk #[]), GV.list 2 true [] [], GV.list 2 true [] [], a1, GV.list 2 true [] [], GV.list 2 true [] []]).bind
  fun r0 => some [GV.agg [nth r0.snd 3, GV.list 2 (nth r0.snd 4).asZ (nth r0.snd 4).asList [], GV.list 2 (nth r0.snd 5).asZ (nth r0.snd 5).asList []]]
theorem rule10_q (fuel : Nat) (a0 a1 a2 : GV) : gexec rule10_E (LSc (rule10_e0 fuel) fuel (LZ)) Try.f15.ntmps Try.f15.results.toList rule10_sg rule10_c [a0, a1, a2] = rule10_f fuel a0 a1 a2 := by kernel_rfl
theorem rule10_calls (hS : SpecsOk Try.prog tl rule10_E.sp) (fuel : Nat) : CallsOk Try.prog tl 15 rule10_sg (gexec rule10_E (LSc (rule10_e0 fuel) fuel (LZ)) Try.f15.ntmps Try.f15.results.toList rule10_sg rule10_c) :=
  gexec_calls (E := rule10_E) hP hS Try.func15 (by kernel_rfl) (by kernel_rfl) (fun W => LSc_ok hP hS (LZ_ok) (rule10_k0 fuel) fuel)
def rule10_s : List GV → Option R
  | [a0, a1, a2] => rule10_f 1000 a0 a1 a2
  | _ => none
theorem rule10_ok : CallsOk Try.prog tl 15 rule10_sg rule10_s := (rule10_calls (specs_cons specs_nil pick_ok Try.call5) 1000).of fun gs outs h => by
  rcases gs with _ | ⟨a0, _ | ⟨a1, _ | ⟨a2, _ | ⟨a3, t⟩⟩⟩⟩ <;> first | (cases h; done) | skip
  rw [rule10_q 1000]; exact h

end Go.Proofs.Ytgneobkmmmpbiaa
