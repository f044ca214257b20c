/- What is made out of raw numbers, and the law: the functions themselves. -/
import Derived.Test.YtgneobkmmmpbiaaFl
namespace Go.Proofs.Ytgneobkmmmpbiaa
open Go Go.Proofs Go.Eng
set_option linter.unusedVariables false
set_option linter.unusedSimpArgs false

/-! made. -/
def made_sg : FSig := FSig.mk [22, 22, 3] [(26, [0, 0, 0, 0, 2, 2, 0])] false
noncomputable def made_c : Code := Try.f4.body.getD .skip
def made_E : Env := ⟨tl, [(5, pick_sg, pick_s), (13, spec_sg, spec_s), (14, types_sg, types_s), (15, rule10_sg, rule10_s)], dirsOf [], dirsOf [(0, [Dir.only [6, 7], Dir.sort [6, 7], Dir.keep [0, 1, 6, 7, 8, 9, 10]]), (1, [Dir.only [6, 7, 111], Dir.sort [6, 7, 111], Dir.keep [1, 6, 7, 11, 12, 13]])], dirsOf [(0, [Dir.only [6, 7], Dir.sort [6, 7], Dir.keep [1, 6, 7]]), (1, [Dir.only [6, 7, 111], Dir.sort [6, 7, 111], Dir.keep [6, 7, 11]])], joinsOf tl [(9, mkJP tl [Dir.only [6, 7], Dir.sort [6, 7], Dir.keep [0, 1, 6, 7, 8]] [(Ex.normal, Shp.mk 166
  [(0, ASh.one (SSh.s (CK.slice 49))), (1, ASh.one (SSh.s (CK.slice 49))), (6, ASh.one (SSh.ptr 6 [(0, 0)])), (7, ASh.one (SSh.ptr 7 [(0, 0)])),
    (8, ASh.one (SSh.s (CK.int IntKind.i64)))]
  [(6, RSh.rowA 2 26 [0, 0, 0, 0, 3, 3, 0]), (7, RSh.rowA 2 26 [0, 0, 0, 0, 3, 3, 0])])]),
  (16, mkJP tl [Dir.only [6, 7], Dir.sort [6, 7], Dir.keep [0, 1, 6, 7, 8, 9, 10]] [(Ex.normal, Shp.mk 166
  [(0, ASh.one (SSh.s (CK.slice 49))), (1, ASh.one (SSh.s (CK.slice 49))), (6, ASh.one (SSh.ptr 6 [(0, 0)])), (7, ASh.one (SSh.ptr 7 [(0, 0)])),
    (8, ASh.one (SSh.s (CK.int IntKind.i64))), (9, ASh.one (SSh.s (CK.int IntKind.i64))), (10, ASh.one (SSh.s (CK.int IntKind.i64)))]
  [(6, RSh.rowA 2 26 [0, 0, 0, 0, 3, 3, 0]), (7, RSh.rowA 2 26 [0, 0, 0, 0, 3, 3, 0])])]),
  (20, mkJP tl [Dir.only [6, 7], Dir.sort [6, 7], Dir.keep [1, 6, 7]] [(Ex.normal, Shp.mk 166 [(1, ASh.one (SSh.s (CK.slice 49))), (6, ASh.one (SSh.ptr 6 [(0, 0)])), (7, ASh.one (SSh.ptr 7 [(0, 0)]))]
  [(6, RSh.rowA 2 26 [0, 0, 0, 0, 3, 3, 0]), (7, RSh.rowA 2 26 [0, 0, 0, 0, 3, 3, 0])])]),
  (22, mkJP tl [Dir.only [6, 7], Dir.sort [6, 7], Dir.keep [1, 6, 7]] [(Ex.normal, Shp.mk 166 [(1, ASh.one (SSh.s (CK.slice 49))), (6, ASh.one (SSh.ptr 6 [(0, 0)])), (7, ASh.one (SSh.ptr 7 [(0, 0)]))]
  [(6, RSh.rowA 2 26 [0, 0, 0, 0, 3, 3, 0]), (7, RSh.rowA 2 26 [0, 0, 0, 0, 3, 3, 0])])]),
  (32, mkJP tl [Dir.only [6, 7], Dir.sort [6, 7], Dir.keep [6, 7]] [(Ex.normal, Shp.mk 166 [(6, ASh.one (SSh.ptr 6 [(0, 0)])), (7, ASh.one (SSh.ptr 7 [(0, 0)]))] [(6, RSh.rowA 2 26 [0, 0, 0, 0, 3, 3, 0]), (7, RSh.rowA 2 26 [0, 0, 0, 0, 3, 3, 0])])])]⟩
def made_sh1 : Shp := Shp.mk 166
  [(1, ASh.one (SSh.s (CK.slice 49))), (6, ASh.one (SSh.ptr 6 [(0, 0)])), (7, ASh.one (SSh.ptr 7 [(0, 0)])), (11, ASh.one (SSh.ref 9 111)),
    (12, ASh.one (SSh.s (CK.int IntKind.i64))), (13, ASh.one (SSh.s (CK.int IntKind.i64)))]
  [(6, RSh.rowA 2 26 [0, 0, 0, 0, 3, 3, 0]), (7, RSh.rowA 2 26 [0, 0, 0, 0, 3, 3, 0]), (111, RSh.val 2 9)]
def made_xs1 : Outs := [(Ex.exit 2, Shp.mk 166 [(6, ASh.one (SSh.ptr 6 [(0, 0)])), (7, ASh.one (SSh.ptr 7 [(0, 0)])), (11, ASh.one (SSh.ref 9 111))]
  [(6, RSh.rowA 2 26 [0, 0, 0, 0, 3, 3, 0]), (7, RSh.rowA 2 26 [0, 0, 0, 0, 3, 3, 0]), (111, RSh.val 2 9)])]
def made_b1 {β : Type} (fuel : Nat) (g0 g1 g2 g3 g4 g5 g6 g7 g8 g9 g10 g11 g12 g13 g14 g15 g16 g17 : GV) (kn : List GV → Option β) (kx : Nat → List GV → Option β) : Option β :=
  bif bif decide (g2.asInt < (↑g0.asList.length : Int)) then decide (g2.asInt < 6) else false then
  bif inRange g2.asInt g0.asList.length then
    bif decide (IntKind.i64.wrap (IntKind.i64.wrap (g1.asInt + 1) + pickZ (cellG true (nth g0.all g2.asInt.toNat) 0).asInt 6) ≥ (↑g17.asList.length : Int)) then
      kx 0
        [g3, g4, g5, g6, GV.list 2 g7.asZ g7.asList [], GV.list 2 g8.asZ g8.asList [], g9, g10, g11, g12, g13, GV.list 2 g14.asZ g14.asList [], GV.list 2 g15.asZ g15.asList [], g16,
          GV.list 2 g17.asZ g17.asList g17.asSp]
    else
      bif inRange (IntKind.i64.wrap (IntKind.i64.wrap (g1.asInt + 1) + pickZ (cellG true (nth g0.all g2.asInt.toNat) 0).asInt 6)) g17.asList.length && true && true && true then
        bif inRange g2.asInt g0.asList.length then
          (rule10_s
                [GV.agg [g10, g11, g12, g13, GV.list 2 g14.asZ g14.asList [], GV.list 2 g15.asZ g15.asList [], g16],
                  nth (GV.list 2 g17.asZ g17.asList g17.asSp).all
                    (IntKind.i64.wrap (IntKind.i64.wrap (g1.asInt + 1) + pickZ (cellG true (nth g0.all g2.asInt.toNat) 0).asInt 6)).toNat,
                  nth g0.all g2.asInt.toNat]).bind
            fun o7 =>
            bif lim tl 30 g15.asList.length 1 then
              kn
                [g0, GV.int (IntKind.i64.wrap (IntKind.i64.wrap (g1.asInt + 1) + pickZ (cellG true (nth g0.all g2.asInt.toNat) 0).asInt 6)),
                  GV.int (IntKind.i64.wrap (g2.asInt + 1)), g3, g4, g5, g6, GV.list 2 g7.asZ g7.asList [], GV.list 2 g8.asZ g8.asList [], g9, g10, g11, g12, g13, GV.list 2 g14.asZ g14.asList [],
                  GV.list 2 (g15.asZ && true)
                    (g15.asList ++
                      [GV.agg
                          [cellG true (nth o7 0) 0, GV.list 0 (cellG true (nth o7 0) 1).asZ (cellG true (nth o7 0) 1).asList (cellG true (nth o7 0) 1).asSp,
                            GV.list 0 (cellG true (nth o7 0) 2).asZ (cellG true (nth o7 0) 2).asList (cellG true (nth o7 0) 2).asSp]])
                    [],
                  g16, GV.list 2 g17.asZ g17.asList g17.asSp]
            else none
        else none
      else none
  else none
else
  kx 0
    [g3, g4, g5, g6, GV.list 2 g7.asZ g7.asList [], GV.list 2 g8.asZ g8.asList [], g9, g10, g11, g12, g13, GV.list 2 g14.asZ g14.asList [], GV.list 2 g15.asZ g15.asList [], g16,
      GV.list 2 g17.asZ g17.asList g17.asSp]
def made_e1 (fuel : Nat) : LEnt := ⟨1, made_sh1, made_xs1, fun gs kn kx => made_b1 fuel (nth gs 0) (nth gs 1) (nth gs 2) (nth gs 3) (nth gs 4) (nth gs 5) (nth gs 6) (nth gs 7) (nth gs 8) (nth gs 9) (nth gs 10) (nth gs 11) (nth gs 12) (nth gs 13) (nth gs 14) (nth gs 15) (nth gs 16) (nth gs 17) kn kx⟩
def made_l1 (fuel : Nat) (gs : List GV) : Option (Nat × List GV) := loopR (made_e1 fuel).step fuel gs
theorem made_t1 {β : Type} (fuel : Nat) (g0 g1 g2 g3 g4 g5 g6 g7 g8 g9 g10 g11 g12 g13 g14 g15 g16 g17 : GV) (kn : List GV → Option β) (kx : Nat → List GV → Option β) : (made_e1 fuel).step [g0, g1, g2, g3, g4, g5, g6, g7, g8, g9, g10, g11, g12, g13, g14, g15, g16, g17] kn kx = made_b1 fuel g0 g1 g2 g3 g4 g5 g6 g7 g8 g9 g10 g11 g12 g13 g14 g15 g16 g17 kn kx := rfl
theorem made_k1 (fuel : Nat) : StepOk made_E made_c (LZ) (made_e1 fuel) :=
  ⟨by kernel_rfl, fun gs kn kx => by kernel_rfl, fun f gs kn kx => by simp only [made_e1, made_b1, bind_cond, Option.bind_assoc, Option.bind_none]⟩
def made_sh0 : Shp := Shp.mk 166
  [(0, ASh.one (SSh.s (CK.slice 49))), (1, ASh.one (SSh.s (CK.slice 49))), (6, ASh.one (SSh.ptr 6 [(0, 0)])), (7, ASh.one (SSh.ptr 7 [(0, 0)])),
    (8, ASh.one (SSh.s (CK.int IntKind.i64))), (9, ASh.one (SSh.s (CK.int IntKind.i64))), (10, ASh.one (SSh.s (CK.int IntKind.i64)))]
  [(6, RSh.rowA 2 26 [0, 0, 0, 0, 3, 3, 0]), (7, RSh.rowA 2 26 [0, 0, 0, 0, 3, 3, 0])]
def made_xs0 : Outs := [(Ex.exit 0, Shp.mk 166 [(1, ASh.one (SSh.s (CK.slice 49))), (6, ASh.one (SSh.ptr 6 [(0, 0)])), (7, ASh.one (SSh.ptr 7 [(0, 0)]))]
  [(6, RSh.rowA 2 26 [0, 0, 0, 0, 3, 3, 0]), (7, RSh.rowA 2 26 [0, 0, 0, 0, 3, 3, 0])])]
def made_b0 {β : Type} (fuel : Nat) (g0 g1 g2 g3 g4 g5 g6 g7 g8 g9 g10 g11 g12 g13 g14 g15 g16 g17 g18 : GV) (kn : List GV → Option β) (kx : Nat → List GV → Option β) : Option β :=
  bif bif decide (g4.asInt < (↑g0.asList.length : Int)) then decide (g4.asInt < 20) else false then
  bif inRange g4.asInt g0.asList.length then
    (bif IntKind.i64.wrap (IntKind.i64.wrap (g3.asInt + 1) + pickZ (cellG true (nth g0.all g4.asInt.toNat) 0).asInt 12) == 65 then
          some
            [GV.int 0, g0, g1, g2, GV.int 66, g4, g5, g6, g7, g8, GV.list 2 g9.asZ g9.asList [], GV.list 2 g10.asZ g10.asList [], g11, g12, g13, g14, g15, GV.list 2 g16.asZ g16.asList [],
              GV.list 2 g17.asZ g17.asList [], g18]
        else
          some
            [GV.int 0, g0, g1, g2, GV.int (IntKind.i64.wrap (IntKind.i64.wrap (g3.asInt + 1) + pickZ (cellG true (nth g0.all g4.asInt.toNat) 0).asInt 12)), g4, g5, g6, g7, g8,
              GV.list 2 g9.asZ g9.asList [], GV.list 2 g10.asZ g10.asList [], g11, g12, g13, g14, g15, GV.list 2 g16.asZ g16.asList [], GV.list 2 g17.asZ g17.asList [], g18]).bind
      fun o1 =>
      bif decide ((nth o1 4).asInt > (nth o1 3).asInt) then
        kx 0
          [nth o1 2, nth o1 6, nth o1 7, nth o1 8, nth o1 9, GV.list 2 (nth o1 10).asZ (nth o1 10).asList [], GV.list 2 (nth o1 11).asZ (nth o1 11).asList [],
            nth o1 12, nth o1 13, nth o1 14, nth o1 15, nth o1 16, GV.list 2 (nth o1 17).asZ (nth o1 17).asList [],
            GV.list 2 (nth o1 18).asZ (nth o1 18).asList [], nth o1 19]
      else
        bif inRange (nth o1 5).asInt (nth o1 1).asList.length then
          (spec_s [nth o1 4, nth (nth o1 1).all (nth o1 5).asInt.toNat]).bind fun o2 =>
            bif lim tl 33 (nth o1 17).asList.length 1 then
              kn
                [nth o1 1, nth o1 2, nth o1 3, nth o1 4, GV.int (IntKind.i64.wrap ((nth o1 5).asInt + 1)), nth o1 6, nth o1 7, nth o1 8, nth o1 9,
                  GV.list 2 (nth o1 10).asZ (nth o1 10).asList [], GV.list 2 (nth o1 11).asZ (nth o1 11).asList [], nth o1 12, nth o1 13, nth o1 14, nth o1 15,
                  nth o1 16,
                  GV.list 2 ((nth o1 17).asZ && true)
                    ((nth o1 17).asList ++
                      [GV.agg
                          [cellG true (nth o2 0) 0, cellG true (nth o2 0) 1, cellG true (nth o2 0) 2, cellG true (nth o2 0) 3, cellG true (nth o2 0) 4,
                            cellG true (nth o2 0) 5]])
                    [],
                  GV.list 2 (nth o1 18).asZ (nth o1 18).asList [], nth o1 19]
            else none
        else none
  else none
else kx 0 [g1, g5, g6, g7, g8, GV.list 2 g9.asZ g9.asList [], GV.list 2 g10.asZ g10.asList [], g11, g12, g13, g14, g15, GV.list 2 g16.asZ g16.asList [], GV.list 2 g17.asZ g17.asList [], g18]
def made_e0 (fuel : Nat) : LEnt := ⟨0, made_sh0, made_xs0, fun gs kn kx => made_b0 fuel (nth gs 0) (nth gs 1) (nth gs 2) (nth gs 3) (nth gs 4) (nth gs 5) (nth gs 6) (nth gs 7) (nth gs 8) (nth gs 9) (nth gs 10) (nth gs 11) (nth gs 12) (nth gs 13) (nth gs 14) (nth gs 15) (nth gs 16) (nth gs 17) (nth gs 18) kn kx⟩
def made_l0 (fuel : Nat) (gs : List GV) : Option (Nat × List GV) := loopR (made_e0 fuel).step fuel gs
theorem made_t0 {β : Type} (fuel : Nat) (g0 g1 g2 g3 g4 g5 g6 g7 g8 g9 g10 g11 g12 g13 g14 g15 g16 g17 g18 : GV) (kn : List GV → Option β) (kx : Nat → List GV → Option β) : (made_e0 fuel).step [g0, g1, g2, g3, g4, g5, g6, g7, g8, g9, g10, g11, g12, g13, g14, g15, g16, g17, g18] kn kx = made_b0 fuel g0 g1 g2 g3 g4 g5 g6 g7 g8 g9 g10 g11 g12 g13 g14 g15 g16 g17 g18 kn kx := rfl
theorem made_k0 (fuel : Nat) : StepOk made_E made_c (LSc (made_e1 fuel) fuel (LZ)) (made_e0 fuel) :=
  ⟨by kernel_rfl, fun gs kn kx => by kernel_rfl, fun f gs kn kx => by simp only [made_e0, made_b0, bind_cond, Option.bind_assoc, Option.bind_none]⟩
def made_f (fuel : Nat) (a0 a1 a2 : GV) : Option R :=
  bif
    (inRange (IntKind.i64.wrap (pickZ a2.asInt 10 + 1)) 11 &&
          inRange (pickZ a2.asInt 10) ((IntKind.i64.wrap (pickZ a2.asInt 10 + 1)).toNat + 1),
        (pickZ a2.asInt 10).toNat, (IntKind.i64.wrap (pickZ a2.asInt 10 + 1)).toNat).fst then
  bif
      (5 +
            ((ByteArray.mk #[48, 49, 50, 51, 52, 53, 54, 55, 56, 57]).extract
                (inRange (IntKind.i64.wrap (pickZ a2.asInt 10 + 1)) 11 &&
                        inRange (pickZ a2.asInt 10) ((IntKind.i64.wrap (pickZ a2.asInt 10 + 1)).toNat + 1),
                      (pickZ a2.asInt 10).toNat, (IntKind.i64.wrap (pickZ a2.asInt 10 + 1)).toNat).snd.fst
                (inRange (IntKind.i64.wrap (pickZ a2.asInt 10 + 1)) 11 &&
                        inRange (pickZ a2.asInt 10) ((IntKind.i64.wrap (pickZ a2.asInt 10 + 1)).toNat + 1),
                      (pickZ a2.asInt 10).toNat, (IntKind.i64.wrap (pickZ a2.asInt 10 + 1)).toNat).snd.snd).size).ble
        140737488351232 then
    bif inRange (pickZ (IntKind.i64.wrap (a2.asInt.tdiv 20)) 3) 3 && true && true && true then
      bif inRange (pickZ (IntKind.i64.wrap (a2.asInt.tdiv 60)) 3) 3 && true && true && true then
        bif inRange (pickZ (IntKind.i64.wrap (a2.asInt.tdiv 180)) 3) 3 && true && true && true then
          (bif decide ((nth [GV.int 0, GV.int 64, GV.int 128] (pickZ (IntKind.i64.wrap (a2.asInt.tdiv 180)) 3).toNat).asInt > 0) then
                some
                  [GV.int 0, a0, a1,
                    GV.int (IntKind.i64.wrap ((nth [GV.int 0, GV.int 64, GV.int 128] (pickZ (IntKind.i64.wrap (a2.asInt.tdiv 180)) 3).toNat).asInt - 1)),
                    GV.str (ByteArray.mk #[]), GV.int 0, GV.int 0, GV.int 0, GV.list 2 true [] [], GV.list 2 true [] [], GV.int 0,
                    GV.str
                      (ByteArray.mk #[109, 97, 100, 101, 45] ++
                        (ByteArray.mk #[48, 49, 50, 51, 52, 53, 54, 55, 56, 57]).extract
                          (inRange (IntKind.i64.wrap (pickZ a2.asInt 10 + 1)) 11 &&
                                  inRange (pickZ a2.asInt 10) ((IntKind.i64.wrap (pickZ a2.asInt 10 + 1)).toNat + 1),
                                (pickZ a2.asInt 10).toNat, (IntKind.i64.wrap (pickZ a2.asInt 10 + 1)).toNat).snd.fst
                          (inRange (IntKind.i64.wrap (pickZ a2.asInt 10 + 1)) 11 &&
                                  inRange (pickZ a2.asInt 10) ((IntKind.i64.wrap (pickZ a2.asInt 10 + 1)).toNat + 1),
                                (pickZ a2.asInt 10).toNat, (IntKind.i64.wrap (pickZ a2.asInt 10 + 1)).toNat).snd.snd),
                    GV.int (pickZ (IntKind.i64.wrap (a2.asInt.tdiv 10)) 2),
                    nth [GV.int 1, GV.int 2, GV.int 4] (pickZ (IntKind.i64.wrap (a2.asInt.tdiv 20)) 3).toNat,
                    nth [GV.int 5, GV.int 1, GV.int 4] (pickZ (IntKind.i64.wrap (a2.asInt.tdiv 60)) 3).toNat, GV.list 2 true [] [], GV.list 2 true [] [],
                    nth [GV.int 0, GV.int 64, GV.int 128] (pickZ (IntKind.i64.wrap (a2.asInt.tdiv 180)) 3).toNat]
              else
                some
                  [GV.int 0, a0, a1, GV.int 128, GV.str (ByteArray.mk #[]), GV.int 0, GV.int 0, GV.int 0, GV.list 2 true [] [], GV.list 2 true [] [], GV.int 0,
                    GV.str
                      (ByteArray.mk #[109, 97, 100, 101, 45] ++
                        (ByteArray.mk #[48, 49, 50, 51, 52, 53, 54, 55, 56, 57]).extract
                          (inRange (IntKind.i64.wrap (pickZ a2.asInt 10 + 1)) 11 &&
                                  inRange (pickZ a2.asInt 10) ((IntKind.i64.wrap (pickZ a2.asInt 10 + 1)).toNat + 1),
                                (pickZ a2.asInt 10).toNat, (IntKind.i64.wrap (pickZ a2.asInt 10 + 1)).toNat).snd.fst
                          (inRange (IntKind.i64.wrap (pickZ a2.asInt 10 + 1)) 11 &&
                                  inRange (pickZ a2.asInt 10) ((IntKind.i64.wrap (pickZ a2.asInt 10 + 1)).toNat + 1),
                                (pickZ a2.asInt 10).toNat, (IntKind.i64.wrap (pickZ a2.asInt 10 + 1)).toNat).snd.snd),
                    GV.int (pickZ (IntKind.i64.wrap (a2.asInt.tdiv 10)) 2),
                    nth [GV.int 1, GV.int 2, GV.int 4] (pickZ (IntKind.i64.wrap (a2.asInt.tdiv 20)) 3).toNat,
                    nth [GV.int 5, GV.int 1, GV.int 4] (pickZ (IntKind.i64.wrap (a2.asInt.tdiv 60)) 3).toNat, GV.list 2 true [] [], GV.list 2 true [] [],
                    nth [GV.int 0, GV.int 64, GV.int 128] (pickZ (IntKind.i64.wrap (a2.asInt.tdiv 180)) 3).toNat]).bind
            fun o0 =>
            (made_l0 fuel
                  [nth o0 1, nth o0 2, nth o0 3, GV.int 1, GV.int 0, nth o0 4, nth o0 5, nth o0 6, nth o0 7, GV.list 2 (nth o0 8).asZ (nth o0 8).asList [],
                    GV.list 2 (nth o0 9).asZ (nth o0 9).asList [], nth o0 10, nth o0 11, nth o0 12, nth o0 13, nth o0 14,
                    GV.list 2 (nth o0 15).asZ (nth o0 15).asList [], GV.list 2 (nth o0 16).asZ (nth o0 16).asList [], nth o0 17]).bind
              fun r3 =>
              (bif decide ((nth r3.snd 14).asInt > 0) then
                    bif lim tl 33 (nth r3.snd 12).asList.length 1 then
                      some
                        [GV.int 0, nth r3.snd 0, nth r3.snd 1, nth r3.snd 2, nth r3.snd 3, nth r3.snd 4, GV.list 2 (nth r3.snd 5).asZ (nth r3.snd 5).asList [],
                          GV.list 2 (nth r3.snd 6).asZ (nth r3.snd 6).asList [], nth r3.snd 7, nth r3.snd 8, nth r3.snd 9, nth r3.snd 10, nth r3.snd 11,
                          GV.list 2 ((nth r3.snd 12).asZ && true) ((nth r3.snd 12).asList ++ [GV.agg [nth r3.snd 14, GV.int 5, GV.int 5, GV.int 0, GV.int 0, GV.int 8]])
                            [],
                          GV.list 2 (nth r3.snd 13).asZ (nth r3.snd 13).asList [], nth r3.snd 14]
                    else none
                  else
                    some
                      [GV.int 0, nth r3.snd 0, nth r3.snd 1, nth r3.snd 2, nth r3.snd 3, nth r3.snd 4, GV.list 2 (nth r3.snd 5).asZ (nth r3.snd 5).asList [],
                        GV.list 2 (nth r3.snd 6).asZ (nth r3.snd 6).asList [], nth r3.snd 7, nth r3.snd 8, nth r3.snd 9, nth r3.snd 10, nth r3.snd 11,
                        GV.list 2 (nth r3.snd 12).asZ (nth r3.snd 12).asList [], GV.list 2 (nth r3.snd 13).asZ (nth r3.snd 13).asList [], nth r3.snd 14]).bind
                fun o4 =>
                (bif (↑(nth o4 13).asList.length : Int) == 0 then
                      bif lim tl 33 (nth o4 13).asList.length 1 then
                        some
                          [GV.int 0, nth o4 1, nth o4 2, nth o4 3, nth o4 4, nth o4 5, GV.list 2 (nth o4 6).asZ (nth o4 6).asList [],
                            GV.list 2 (nth o4 7).asZ (nth o4 7).asList [], nth o4 8, nth o4 9, nth o4 10, nth o4 11, nth o4 12,
                            GV.list 2 ((nth o4 13).asZ && true)
                              ((nth o4 13).asList ++
                                [GV.agg
                                    [GV.int 3, GV.int (IntKind.i64.wrap (1 + pickZ 0 9)), GV.int 1, GV.int (pickZ 0 5), GV.int 0,
                                      GV.int (IntKind.i64.wrap (1 + pickZ 0 120))]])
                              [],
                            GV.list 2 (nth o4 14).asZ (nth o4 14).asList [], nth o4 15]
                      else none
                    else
                      some
                        [GV.int 0, nth o4 1, nth o4 2, nth o4 3, nth o4 4, nth o4 5, GV.list 2 (nth o4 6).asZ (nth o4 6).asList [],
                          GV.list 2 (nth o4 7).asZ (nth o4 7).asList [], nth o4 8, nth o4 9, nth o4 10, nth o4 11, nth o4 12,
                          GV.list 2 (nth o4 13).asZ (nth o4 13).asList [], GV.list 2 (nth o4 14).asZ (nth o4 14).asList [], nth o4 15]).bind
                  fun o5 =>
                  (types_s [nth o5 10]).bind fun o6 =>
                    (made_l1 fuel
                          [nth o5 1, GV.int (-1), GV.int 0, nth o5 2, nth o5 3, nth o5 4, nth o5 5, GV.list 2 (nth o5 6).asZ (nth o5 6).asList [],
                            GV.list 2 (nth o5 7).asZ (nth o5 7).asList [], nth o5 8, nth o5 9, nth o5 10, nth o5 11, nth o5 12,
                            GV.list 2 (nth o5 13).asZ (nth o5 13).asList [], GV.list 2 (nth o5 14).asZ (nth o5 14).asList [], nth o5 15,
                            GV.list 2 (nth o6 0).asZ (nth o6 0).asList (nth o6 0).asSp]).bind
                      fun r8 =>
                      (bif (↑(nth r8.snd 12).asList.length : Int) == 0 then
                            bif inRange 0 (nth r8.snd 14).asList.length && true && true && true then
                              (rule10_s
                                    [GV.agg
                                        [nth r8.snd 7, nth r8.snd 8, nth r8.snd 9, nth r8.snd 10, GV.list 2 (nth r8.snd 11).asZ (nth r8.snd 11).asList [],
                                          GV.list 2 (nth r8.snd 12).asZ (nth r8.snd 12).asList [], nth r8.snd 13],
                                      nth (GV.list 2 (nth r8.snd 14).asZ (nth r8.snd 14).asList (nth r8.snd 14).asSp).all 0,
                                      GV.agg [GV.int 0, GV.int 0, GV.int 0, GV.int 0, GV.int 0]]).bind
                                fun o9 =>
                                bif lim tl 30 (nth r8.snd 12).asList.length 1 then
                                  some
                                    [GV.int 0, nth r8.snd 0, nth r8.snd 1, nth r8.snd 2, nth r8.snd 3, GV.list 2 (nth r8.snd 4).asZ (nth r8.snd 4).asList [],
                                      GV.list 2 (nth r8.snd 5).asZ (nth r8.snd 5).asList [], nth r8.snd 6, nth r8.snd 7, nth r8.snd 8, nth r8.snd 9, nth r8.snd 10,
                                      GV.list 2 (nth r8.snd 11).asZ (nth r8.snd 11).asList [],
                                      GV.list 2 ((nth r8.snd 12).asZ && true)
                                        ((nth r8.snd 12).asList ++
                                          [GV.agg
                                              [cellG true (nth o9 0) 0, GV.list 0 (cellG true (nth o9 0) 1).asZ (cellG true (nth o9 0) 1).asList (cellG true (nth o9 0) 1).asSp,
                                                GV.list 0 (cellG true (nth o9 0) 2).asZ (cellG true (nth o9 0) 2).asList (cellG true (nth o9 0) 2).asSp]])
                                        [],
                                      nth r8.snd 13]
                                else none
                            else none
                          else
                            some
                              [GV.int 0, nth r8.snd 0, nth r8.snd 1, nth r8.snd 2, nth r8.snd 3, GV.list 2 (nth r8.snd 4).asZ (nth r8.snd 4).asList [],
                                GV.list 2 (nth r8.snd 5).asZ (nth r8.snd 5).asList [], nth r8.snd 6, nth r8.snd 7, nth r8.snd 8, nth r8.snd 9, nth r8.snd 10,
                                GV.list 2 (nth r8.snd 11).asZ (nth r8.snd 11).asList [], GV.list 2 (nth r8.snd 12).asZ (nth r8.snd 12).asList [], nth r8.snd 13]).bind
                        fun o10 =>
                        some
                          [GV.agg
                              [nth o10 8, nth o10 9, nth o10 10, nth o10 11, GV.list 2 (nth o10 12).asZ (nth o10 12).asList [],
                                GV.list 2 (nth o10 13).asZ (nth o10 13).asList [], nth o10 14]]
        else none
      else none
    else none
  else none
else none
theorem made_q (fuel : Nat) (a0 a1 a2 : GV) : gexec made_E (LSc (made_e0 fuel) fuel (LSc (made_e1 fuel) fuel (LZ))) Try.f4.ntmps Try.f4.results.toList made_sg made_c [a0, a1, a2] = made_f fuel a0 a1 a2 := by kernel_rfl
theorem made_calls (hS : SpecsOk Try.prog tl made_E.sp) (fuel : Nat) : CallsOk Try.prog tl 4 made_sg (gexec made_E (LSc (made_e0 fuel) fuel (LSc (made_e1 fuel) fuel (LZ))) Try.f4.ntmps Try.f4.results.toList made_sg made_c) :=
  gexec_calls (E := made_E) hP hS Try.func4 (by kernel_rfl) (by kernel_rfl) (fun W => LSc_ok hP hS (LSc_ok hP hS (LZ_ok) (made_k1 fuel) fuel) (made_k0 fuel) fuel)
def made_s : List GV → Option R
  | [a0, a1, a2] => made_f 1000 a0 a1 a2
  | _ => none
theorem made_ok : CallsOk Try.prog tl 4 made_sg made_s := (made_calls (specs_cons (specs_cons (specs_cons (specs_cons specs_nil rule10_ok Try.call15) types_ok Try.call14) spec_ok Try.call13) pick_ok Try.call5) 1000).of fun gs outs h => by
  rcases gs with _ | ⟨a0, _ | ⟨a1, _ | ⟨a2, _ | ⟨a3, t⟩⟩⟩⟩ <;> first | (cases h; done) | skip
  rw [made_q 1000]; exact h

end Go.Proofs.Ytgneobkmmmpbiaa
