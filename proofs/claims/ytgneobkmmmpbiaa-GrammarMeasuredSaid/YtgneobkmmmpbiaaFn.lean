/- The law: the function itself. -/
import Derived.Test.YtgneobkmmmpbiaaFm
namespace Go.Proofs.Ytgneobkmmmpbiaa
open Go Go.Proofs Go.Eng
set_option linter.unusedVariables false
set_option linter.unusedSimpArgs false

/-! law. -/
def law_sg : FSig := FSig.mk [22, 22, 3, 3] [(4, [])] false
noncomputable def law_c : Code := Try.f3.body.getD .skip
def law_E : Env := ⟨tl, [(4, made_sg, made_s), (5, pick_sg, pick_s), (6, isin_sg, isin_s), (7, prefix_sg, prefix_s), (8, width_sg, width_s), (9, mapOf_sg, mapOf_s), (10, encode_sg, encode_s), (11, pack_sg, pack_s), (12, most_sg, most_s)], dirsOf [(1, [.freeze 9])], dirsOf [(0, [Dir.own 11 3 1011, Dir.only [10, 1011], Dir.sort [10, 1011], Dir.keep [9, 10, 11, 12, 13]])], dirsOf [(0, [Dir.own 11 3 1011, Dir.only [10, 1011], Dir.sort [10, 1011], Dir.keep [8, 9, 10, 11, 12]])], joinsOf tl []⟩
def law_sh0 : Shp := Shp.mk 162
  [(9, ASh.one (SSh.eptr 26 0)), (10, ASh.one (SSh.ptr 10 [(0, 0)])), (11, ASh.one (SSh.ref 3 1011)), (12, ASh.one (SSh.s (CK.int IntKind.i64))),
    (13, ASh.one (SSh.s (CK.int IntKind.i64)))]
  [(10, RSh.rowA 2 30 [0, 1, 1]), (1011, RSh.val 3 3)]
def law_xs0 : Outs := [(Ex.ret, Shp.mk 162
  [(8, ASh.one (SSh.s CK.bool)), (9, ASh.one (SSh.eptr 26 0)), (10, ASh.one (SSh.ptr 10 [(0, 0)])), (11, ASh.one (SSh.ref 3 1011)),
    (12, ASh.one (SSh.s (CK.int IntKind.i64)))]
  [(10, RSh.rowA 2 30 [0, 1, 1]), (1011, RSh.val 3 3)]),
  (Ex.exit 0, Shp.mk 162
  [(8, ASh.one SSh.dead), (9, ASh.one (SSh.eptr 26 0)), (10, ASh.one (SSh.ptr 10 [(0, 0)])), (11, ASh.one (SSh.ref 3 1011)),
    (12, ASh.one (SSh.s (CK.int IntKind.i64)))]
  [(10, RSh.rowA 2 30 [0, 1, 1]), (1011, RSh.val 3 3)])]
def law_b0 {β : Type} (fuel : Nat) (g0 g1 g2 g3 g4 g5 g6 : GV) (kn : List GV → Option β) (kx : Nat → List GV → Option β) : Option β :=
  bif decide (g2.asInt < (↑(cellG true g0 4).asList.length : Int)) then
  bif inRange g2.asInt (cellG true g0 4).asList.length then
    (isin_s [GV.list 0 g4.asZ g4.asList g4.asSp, cellG true (nth (cellG true g0 4).all g2.asInt.toNat) 0]).bind fun o2 =>
      (isin_s [GV.list 0 g5.asZ g5.asList g5.asSp, cellG true (nth (cellG true g0 4).all g2.asInt.toNat) 0]).bind fun o3 =>
        bif bif !(nth o2 0).asBool then !(nth o3 0).asBool else false then
          kn [g0, g1, GV.int (IntKind.i64.wrap (g2.asInt + 1)), g3, GV.list 0 g4.asZ g4.asList g4.asSp, GV.list 0 g5.asZ g5.asList g5.asSp, GV.list 2 g6.asZ g6.asList []]
        else
          bif lim tl 3 g6.asList.length 1 then
            bif decide ((cellG true (nth (cellG true g0 4).all g2.asInt.toNat) 3).asInt > 0) then
              (prefix_s
                    [cellG true (nth (cellG true g0 4).all g2.asInt.toNat) 4, cellG true (nth (cellG true g0 4).all g2.asInt.toNat) 3,
                      cellG true (nth (cellG true g0 4).all g2.asInt.toNat) 5]).bind
                fun o4 =>
                bif (nth o4 1).asInt != 0 then
                  kx 0
                    [GV.bool false, g0, g1, g3, GV.list 0 g4.asZ g4.asList g4.asSp, GV.list 0 g5.asZ g5.asList g5.asSp,
                      GV.list 2 (g6.asZ && true) (g6.asList ++ [cellG true (nth (cellG true g0 4).all g2.asInt.toNat) 0]) []]
                else
                  kn
                    [g0,
                      GV.int
                        (IntKind.i64.wrap
                          (IntKind.i64.wrap (g1.asInt + (↑(nth o4 0).asStr.size : Int)) +
                            widthZ (cellG true (nth (cellG true g0 4).all g2.asInt.toNat) 2).asInt (cellG true (nth (cellG true g0 4).all g2.asInt.toNat) 5).asInt)),
                      GV.int (IntKind.i64.wrap (g2.asInt + 1)), g3, GV.list 0 g4.asZ g4.asList g4.asSp, GV.list 0 g5.asZ g5.asList g5.asSp,
                      GV.list 2 (g6.asZ && true) (g6.asList ++ [cellG true (nth (cellG true g0 4).all g2.asInt.toNat) 0]) []]
            else
              kn
                [g0,
                  GV.int
                    (IntKind.i64.wrap
                      (g1.asInt + widthZ (cellG true (nth (cellG true g0 4).all g2.asInt.toNat) 2).asInt (cellG true (nth (cellG true g0 4).all g2.asInt.toNat) 5).asInt)),
                  GV.int (IntKind.i64.wrap (g2.asInt + 1)), g3, GV.list 0 g4.asZ g4.asList g4.asSp, GV.list 0 g5.asZ g5.asList g5.asSp,
                  GV.list 2 (g6.asZ && true) (g6.asList ++ [cellG true (nth (cellG true g0 4).all g2.asInt.toNat) 0]) []]
          else none
  else none
else kx 1 [g0, g1, g3, GV.list 0 g4.asZ g4.asList g4.asSp, GV.list 0 g5.asZ g5.asList g5.asSp, GV.list 2 g6.asZ g6.asList []]
def law_e0 (fuel : Nat) : LEnt := ⟨0, law_sh0, law_xs0, fun gs kn kx => law_b0 fuel (nth gs 0) (nth gs 1) (nth gs 2) (nth gs 3) (nth gs 4) (nth gs 5) (nth gs 6) kn kx⟩
def law_l0 (fuel : Nat) (gs : List GV) : Option (Nat × List GV) := loopR (law_e0 fuel).step fuel gs
theorem law_t0 {β : Type} (fuel : Nat) (g0 g1 g2 g3 g4 g5 g6 : GV) (kn : List GV → Option β) (kx : Nat → List GV → Option β) : (law_e0 fuel).step [g0, g1, g2, g3, g4, g5, g6] kn kx = law_b0 fuel g0 g1 g2 g3 g4 g5 g6 kn kx := rfl
theorem law_k0 (fuel : Nat) : StepOk law_E law_c (LZ) (law_e0 fuel) :=
  ⟨by kernel_rfl, fun gs kn kx => by kernel_rfl, fun f gs kn kx => by simp only [law_e0, law_b0, bind_cond, Option.bind_assoc, Option.bind_none]⟩
def law_f (fuel : Nat) (a0 a1 a2 a3 : GV) : Option R :=
  (made_s [a0, a1, a2]).bind fun o0 =>
  (pick_s [a3, GV.int (↑(cellG true (nth o0 0) 5).asList.length : Int)]).bind fun o1 =>
    bif inRange (nth o1 0).asInt (cellG true (nth o0 0) 5).asList.length then
      (law_l0 fuel
            [GV.agg
                [cellG true (nth o0 0) 0, cellG true (nth o0 0) 1, cellG true (nth o0 0) 2, cellG true (nth o0 0) 3,
                  GV.list 2 (cellG true (nth o0 0) 4).asZ (cellG true (nth o0 0) 4).asList (cellG true (nth o0 0) 4).asSp,
                  GV.list 2 (cellG true (nth o0 0) 5).asZ (cellG true (nth o0 0) 5).asList (cellG true (nth o0 0) 5).asSp, cellG true (nth o0 0) 6],
              GV.int 0, GV.int 0,
              cellG true (nth (GV.list 2 (cellG true (nth o0 0) 5).asZ (cellG true (nth o0 0) 5).asList (cellG true (nth o0 0) 5).asSp).all (nth o1 0).asInt.toNat) 0,
              GV.list 0
                (cellG true (nth (GV.list 2 (cellG true (nth o0 0) 5).asZ (cellG true (nth o0 0) 5).asList (cellG true (nth o0 0) 5).asSp).all (nth o1 0).asInt.toNat)
                    1).asZ
                (cellG true (nth (GV.list 2 (cellG true (nth o0 0) 5).asZ (cellG true (nth o0 0) 5).asList (cellG true (nth o0 0) 5).asSp).all (nth o1 0).asInt.toNat)
                    1).asList
                (cellG true (nth (GV.list 2 (cellG true (nth o0 0) 5).asZ (cellG true (nth o0 0) 5).asList (cellG true (nth o0 0) 5).asSp).all (nth o1 0).asInt.toNat)
                    1).asSp,
              GV.list 0
                (cellG true (nth (GV.list 2 (cellG true (nth o0 0) 5).asZ (cellG true (nth o0 0) 5).asList (cellG true (nth o0 0) 5).asSp).all (nth o1 0).asInt.toNat)
                    2).asZ
                (cellG true (nth (GV.list 2 (cellG true (nth o0 0) 5).asZ (cellG true (nth o0 0) 5).asList (cellG true (nth o0 0) 5).asSp).all (nth o1 0).asInt.toNat)
                    2).asList
                (cellG true (nth (GV.list 2 (cellG true (nth o0 0) 5).asZ (cellG true (nth o0 0) 5).asList (cellG true (nth o0 0) 5).asSp).all (nth o1 0).asInt.toNat)
                    2).asSp,
              GV.list 2 true [] []]).bind
        fun r5 =>
        bif r5.fst.beq 0 then some [nth r5.snd 0]
        else
          (mapOf_s [GV.list 2 (nth r5.snd 5).asZ (nth r5.snd 5).asList []]).bind fun o6 =>
            (encode_s [cellG true (nth r5.snd 0) 3, GV.agg [cellG true (nth o6 0) 0, cellG true (nth o6 0) 1]]).bind fun o7 =>
              (pack_s [cellG true (nth r5.snd 0) 2, nth r5.snd 2]).bind fun o8 =>
                (most_s [nth r5.snd 0, nth r5.snd 2]).bind fun o9 =>
                  (most_s [nth r5.snd 0, GV.str (ByteArray.mk #[48, 52, 48, 48])]).bind fun o10 =>
                    some
                      [GV.bool
                          (bif
                              bif bif bif bif (nth o6 1).asInt == 0 then (nth o7 1).asInt == 0 else false then (nth o8 1).asInt == 0 else false then (nth o9 1).asInt == 0 else false then
                                (nth o10 1).asInt == 110
                              else false then
                            (nth o9 0).asInt == IntKind.i64.wrap (IntKind.i64.wrap ((↑(nth o8 0).asStr.size : Int) + (↑(nth o7 0).asStr.size : Int)) + (nth r5.snd 1).asInt)
                          else false)]
    else none
theorem law_q (fuel : Nat) (a0 a1 a2 a3 : GV) : gexec law_E (LSc (law_e0 fuel) fuel (LZ)) Try.f3.ntmps Try.f3.results.toList law_sg law_c [a0, a1, a2, a3] = law_f fuel a0 a1 a2 a3 := by kernel_rfl
theorem law_calls (hS : SpecsOk Try.prog tl law_E.sp) (fuel : Nat) : CallsOk Try.prog tl 3 law_sg (gexec law_E (LSc (law_e0 fuel) fuel (LZ)) Try.f3.ntmps Try.f3.results.toList law_sg law_c) :=
  gexec_calls (E := law_E) hP hS Try.func3 (by kernel_rfl) (by kernel_rfl) (fun W => LSc_ok hP hS (LZ_ok) (law_k0 fuel) fuel)
def law_s : List GV → Option R
  | [a0, a1, a2, a3] => law_f 1000 a0 a1 a2 a3
  | _ => none
theorem law_ok : CallsOk Try.prog tl 3 law_sg law_s := (law_calls (specs_cons (specs_cons (specs_cons (specs_cons (specs_cons (specs_cons (specs_cons (specs_cons (specs_cons specs_nil most_ok Try.call12) pack_ok Try.call11) encode_ok Try.call10) mapOf_ok Try.call9) width_ok Try.call8) prefix_ok Try.call7) isin_ok Try.call6) pick_ok Try.call5) made_ok Try.call4) 1000).of fun gs outs h => by
  rcases gs with _ | ⟨a0, _ | ⟨a1, _ | ⟨a2, _ | ⟨a3, _ | ⟨a4, t⟩⟩⟩⟩⟩ <;> first | (cases h; done) | skip
  rw [law_q 1000]; exact h

end Go.Proofs.Ytgneobkmmmpbiaa
