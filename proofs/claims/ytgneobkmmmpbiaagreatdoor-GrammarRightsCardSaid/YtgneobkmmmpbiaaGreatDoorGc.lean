/- GrammarRights: the law returns true and leaves what it was handed, over the row that lists unicode/utf8 tables as the text lays them; no other condition. The functions that it reaches, by their contracts. Part 3. -/
import Derived.Test.YtgneobkmmmpbiaaGreatDoorGa
import Derived.Test.YtgneobkmmmpbiaaGreatDoorGb
import Derived.Test.YtgneobkmmmpbiaaGreatDoorRows
import Derived.Test.YtgneobkmmmpbiaaGreatDoorCards
import Derived.Test.YtgneobkmmmpbiaaGreatDoorTie
import Derived.LaidMore
import Derived.Lay
import Derived.SevenTiedAt
import Derived.Stop.Joined
import Derived.Test.YtgneobkmmmpbiaaGreatDoorEc
import Derived.WalkKit
import Derived.ProofKit
import Derived.OpenShut
import Derived.ShutString
import Derived.ChangeOld
import Derived.Below
import Derived.SizedLaws
/- lawRights -/
namespace Go.Proofs.YtgneobkmmmpbiaaGreatDoor
open Go Go.Proofs Go.Eng Go.RowKit
set_option linter.unusedVariables false
set_option linter.unusedSimpArgs false

/-! lawRights. -/
def lawRights_sg : FSig := FSig.mk [25, 3, 3] [(4, [])] false
noncomputable def lawRights_c : Code := Tryz.f3.body.getD .skip
def lawRights_E : Env := ⟨tl, [(10, least_sg, least_s), (11, r10Wide_sg, r10Wide_s), (12, rightG_sg, rightG_s), (13, r10Right_sg, r10Right_s), (14, r10TwinDialect_sg, r10TwinDialect_s), (15, r10StillDialect_sg, r10StillDialect_s), (16, pick_sg, pick_s)], dirsOf [], dirsOf [], dirsOf [], killOf [], joinsOf tl []⟩
def lawRights_f (fuel : Nat) (a0 a1 a2 : GV) : Option R :=
 (r10Wide_s
 [GV.agg
 [cellG true a0 0, cellG true a0 1, cellG true a0 2, cellG true a0 3, GV.list 0 (cellG true a0 4).asZ (cellG true a0 4).asList (cellG true a0 4).asSp,
 GV.list 0 (cellG true a0 5).asZ (cellG true a0 5).asList (cellG true a0 5).asSp, cellG true a0 6]]).bind
 fun o0 =>
 bif (nth o0 0).asBool then
 (rightG_s
 [GV.agg
 [cellG true a0 0, cellG true a0 1, cellG true a0 2, cellG true a0 3, GV.list 0 (cellG true a0 4).asZ (cellG true a0 4).asList (cellG true a0 4).asSp,
 GV.list 0 (cellG true a0 5).asZ (cellG true a0 5).asList (cellG true a0 5).asSp, cellG true a0 6]]).bind
 fun o1 =>
 (r10Right_s
 [GV.agg
 [cellG true a0 0, cellG true a0 1, cellG true a0 2, cellG true a0 3, GV.list 0 (cellG true a0 4).asZ (cellG true a0 4).asList (cellG true a0 4).asSp,
 GV.list 0 (cellG true a0 5).asZ (cellG true a0 5).asList (cellG true a0 5).asSp, cellG true a0 6]]).bind
 fun o2 => some [GV.bool (bif (nth o1 0).asInt == (nth o2 0).asInt then (nth o1 1).asInt == (nth o2 1).asInt else false)]
 else
 (r10TwinDialect_s
 [GV.agg
 [cellG true a0 0, cellG true a0 1, cellG true a0 2, cellG true a0 3, GV.list 0 (cellG true a0 4).asZ (cellG true a0 4).asList (cellG true a0 4).asSp,
 GV.list 0 (cellG true a0 5).asZ (cellG true a0 5).asList (cellG true a0 5).asSp, cellG true a0 6]]).bind
 fun o3 =>
 (rightG_s
 [GV.agg
 [cellG true (nth o3 0) 0, cellG true (nth o3 0) 1, cellG true (nth o3 0) 2, cellG true (nth o3 0) 3,
 GV.list 2 (cellG true (nth o3 0) 4).asZ (cellG true (nth o3 0) 4).asList (cellG true (nth o3 0) 4).asSp,
 GV.list 2 (cellG true (nth o3 0) 5).asZ (cellG true (nth o3 0) 5).asList (cellG true (nth o3 0) 5).asSp, cellG true (nth o3 0) 6]]).bind
 fun o4 =>
 (r10Right_s
 [GV.agg
 [cellG true a0 0, cellG true a0 1, cellG true a0 2, cellG true a0 3, GV.list 0 (cellG true a0 4).asZ (cellG true a0 4).asList (cellG true a0 4).asSp,
 GV.list 0 (cellG true a0 5).asZ (cellG true a0 5).asList (cellG true a0 5).asSp, cellG true a0 6]]).bind
 fun o5 =>
 (r10StillDialect_s
 [GV.agg
 [cellG true (nth o3 0) 0, cellG true (nth o3 0) 1, cellG true (nth o3 0) 2, cellG true (nth o3 0) 3,
 GV.list 2 (cellG true (nth o3 0) 4).asZ (cellG true (nth o3 0) 4).asList (cellG true (nth o3 0) 4).asSp,
 GV.list 2 (cellG true (nth o3 0) 5).asZ (cellG true (nth o3 0) 5).asList (cellG true (nth o3 0) 5).asSp, cellG true (nth o3 0) 6],
 GV.agg
 [cellG true a0 0, cellG true a0 1, cellG true a0 2, cellG true a0 3, GV.list 0 (cellG true a0 4).asZ (cellG true a0 4).asList (cellG true a0 4).asSp,
 GV.list 0 (cellG true a0 5).asZ (cellG true a0 5).asList (cellG true a0 5).asSp, cellG true a0 6]]).bind
 fun o6 =>
 (rightG_s
 [GV.agg
 [cellG true (nth o3 0) 0, cellG true (nth o3 0) 1, cellG true (nth o3 0) 2, cellG true (nth o3 0) 3,
 GV.list 2 (cellG true (nth o3 0) 4).asZ (cellG true (nth o3 0) 4).asList (cellG true (nth o3 0) 4).asSp,
 GV.list 2 (cellG true (nth o3 0) 5).asZ (cellG true (nth o3 0) 5).asList (cellG true (nth o3 0) 5).asSp, cellG true (nth o3 0) 6]]).bind
 fun o7 =>
 bif decide ((↑(cellG true (nth o3 0) 4).asList.length : Int) > 0) then
 (pick_s [a1, GV.int (↑(cellG true (nth o3 0) 4).asList.length : Int)]).bind fun o8 =>
 bif inRange (nth o8 0).asInt (cellG true (nth o3 0) 4).asList.length && true && true && true then
 bif decide ((↑(cellG true (nth o3 0) 5).asList.length : Int) > 0) then
 (pick_s [a1, GV.int (↑(cellG true (nth o3 0) 5).asList.length : Int)]).bind fun o9 =>
 bif inRange (nth o9 0).asInt (cellG true (nth o3 0) 5).asList.length && true && true && true then
 bif
 decide
 ((↑(cellG true
 (nth (GV.list 2 (cellG true (nth o3 0) 5).asZ (cellG true (nth o3 0) 5).asList (cellG true (nth o3 0) 5).asSp).all
 (nth o9 0).asInt.toNat)
 1).asList.length :
 Int) >
 0) then
 (pick_s
 [a2,
 GV.int
 (↑(cellG true
 (nth (GV.list 2 (cellG true (nth o3 0) 5).asZ (cellG true (nth o3 0) 5).asList (cellG true (nth o3 0) 5).asSp).all
 (nth o9 0).asInt.toNat)
 1).asList.length :
 Int)]).bind
 fun o10 =>
 bif
 inRange (nth o10 0).asInt
 (cellG true
 (nth (GV.list 2 (cellG true (nth o3 0) 5).asZ (cellG true (nth o3 0) 5).asList (cellG true (nth o3 0) 5).asSp).all
 (nth o9 0).asInt.toNat)
 1).asList.length &&
 ((cellG true
 (nth (GV.list 2 (cellG true (nth o3 0) 5).asZ (cellG true (nth o3 0) 5).asList (cellG true (nth o3 0) 5).asSp).all
 (nth o9 0).asInt.toNat)
 1).asOwn.beq
 1 ||
 (cellG true
 (nth (GV.list 2 (cellG true (nth o3 0) 5).asZ (cellG true (nth o3 0) 5).asList (cellG true (nth o3 0) 5).asSp).all
 (nth o9 0).asInt.toNat)
 1).asOwn.beq
 2) &&
 true &&
 true then
 (r10TwinDialect_s
 [GV.agg
 [cellG true (nth o3 0) 0, cellG true (nth o3 0) 1, cellG true (nth o3 0) 2, cellG true (nth o3 0) 3,
 GV.list 2 (cellG true (nth o3 0) 4).asZ
 (setAllL (GV.list 2 (cellG true (nth o3 0) 4).asZ (cellG true (nth o3 0) 4).asList (cellG true (nth o3 0) 4).asSp)
 ((GV.list 2 (cellG true (nth o3 0) 4).asZ (cellG true (nth o3 0) 4).asList (cellG true (nth o3 0) 4).asSp).all.set
 (nth o8 0).asInt.toNat
 (GV.agg
 (padSet
 (nth (GV.list 2 (cellG true (nth o3 0) 4).asZ (cellG true (nth o3 0) 4).asList (cellG true (nth o3 0) 4).asSp).all
 (nth o8 0).asInt.toNat).asAgg
 5 a2))))
 (setAllS (GV.list 2 (cellG true (nth o3 0) 4).asZ (cellG true (nth o3 0) 4).asList (cellG true (nth o3 0) 4).asSp)
 ((GV.list 2 (cellG true (nth o3 0) 4).asZ (cellG true (nth o3 0) 4).asList (cellG true (nth o3 0) 4).asSp).all.set
 (nth o8 0).asInt.toNat
 (GV.agg
 (padSet
 (nth (GV.list 2 (cellG true (nth o3 0) 4).asZ (cellG true (nth o3 0) 4).asList (cellG true (nth o3 0) 4).asSp).all
 (nth o8 0).asInt.toNat).asAgg
 5 a2)))),
 GV.list 2 (cellG true (nth o3 0) 5).asZ
 (setAllL (GV.list 2 (cellG true (nth o3 0) 5).asZ (cellG true (nth o3 0) 5).asList (cellG true (nth o3 0) 5).asSp)
 ((GV.list 2 (cellG true (nth o3 0) 5).asZ (cellG true (nth o3 0) 5).asList (cellG true (nth o3 0) 5).asSp).all.set
 (nth o9 0).asInt.toNat
 (GV.agg
 (padSet
 (nth (GV.list 2 (cellG true (nth o3 0) 5).asZ (cellG true (nth o3 0) 5).asList (cellG true (nth o3 0) 5).asSp).all
 (nth o9 0).asInt.toNat).asAgg
 1
 (GV.list
 (cellG true
 (nth (GV.list 2 (cellG true (nth o3 0) 5).asZ (cellG true (nth o3 0) 5).asList (cellG true (nth o3 0) 5).asSp).all
 (nth o9 0).asInt.toNat)
 1).asOwn
 (cellG true
 (nth (GV.list 2 (cellG true (nth o3 0) 5).asZ (cellG true (nth o3 0) 5).asList (cellG true (nth o3 0) 5).asSp).all
 (nth o9 0).asInt.toNat)
 1).asZ
 (setAllL
 (cellG true
 (nth (GV.list 2 (cellG true (nth o3 0) 5).asZ (cellG true (nth o3 0) 5).asList (cellG true (nth o3 0) 5).asSp).all
 (nth o9 0).asInt.toNat)
 1)
 ((cellG true
 (nth (GV.list 2 (cellG true (nth o3 0) 5).asZ (cellG true (nth o3 0) 5).asList (cellG true (nth o3 0) 5).asSp).all
 (nth o9 0).asInt.toNat)
 1).all.set
 (nth o10 0).asInt.toNat (GV.int (pickZ a1.asInt 130))))
 (setAllS
 (cellG true
 (nth (GV.list 2 (cellG true (nth o3 0) 5).asZ (cellG true (nth o3 0) 5).asList (cellG true (nth o3 0) 5).asSp).all
 (nth o9 0).asInt.toNat)
 1)
 ((cellG true
 (nth (GV.list 2 (cellG true (nth o3 0) 5).asZ (cellG true (nth o3 0) 5).asList (cellG true (nth o3 0) 5).asSp).all
 (nth o9 0).asInt.toNat)
 1).all.set
 (nth o10 0).asInt.toNat (GV.int (pickZ a1.asInt 130)))))))))
 (setAllS (GV.list 2 (cellG true (nth o3 0) 5).asZ (cellG true (nth o3 0) 5).asList (cellG true (nth o3 0) 5).asSp)
 ((GV.list 2 (cellG true (nth o3 0) 5).asZ (cellG true (nth o3 0) 5).asList (cellG true (nth o3 0) 5).asSp).all.set
 (nth o9 0).asInt.toNat
 (GV.agg
 (padSet
 (nth (GV.list 2 (cellG true (nth o3 0) 5).asZ (cellG true (nth o3 0) 5).asList (cellG true (nth o3 0) 5).asSp).all
 (nth o9 0).asInt.toNat).asAgg
 1
 (GV.list
 (cellG true
 (nth (GV.list 2 (cellG true (nth o3 0) 5).asZ (cellG true (nth o3 0) 5).asList (cellG true (nth o3 0) 5).asSp).all
 (nth o9 0).asInt.toNat)
 1).asOwn
 (cellG true
 (nth (GV.list 2 (cellG true (nth o3 0) 5).asZ (cellG true (nth o3 0) 5).asList (cellG true (nth o3 0) 5).asSp).all
 (nth o9 0).asInt.toNat)
 1).asZ
 (setAllL
 (cellG true
 (nth (GV.list 2 (cellG true (nth o3 0) 5).asZ (cellG true (nth o3 0) 5).asList (cellG true (nth o3 0) 5).asSp).all
 (nth o9 0).asInt.toNat)
 1)
 ((cellG true
 (nth (GV.list 2 (cellG true (nth o3 0) 5).asZ (cellG true (nth o3 0) 5).asList (cellG true (nth o3 0) 5).asSp).all
 (nth o9 0).asInt.toNat)
 1).all.set
 (nth o10 0).asInt.toNat (GV.int (pickZ a1.asInt 130))))
 (setAllS
 (cellG true
 (nth (GV.list 2 (cellG true (nth o3 0) 5).asZ (cellG true (nth o3 0) 5).asList (cellG true (nth o3 0) 5).asSp).all
 (nth o9 0).asInt.toNat)
 1)
 ((cellG true
 (nth (GV.list 2 (cellG true (nth o3 0) 5).asZ (cellG true (nth o3 0) 5).asList (cellG true (nth o3 0) 5).asSp).all
 (nth o9 0).asInt.toNat)
 1).all.set
 (nth o10 0).asInt.toNat (GV.int (pickZ a1.asInt 130))))))))),
 cellG true (nth o3 0) 6]]).bind
 fun o11 =>
 (rightG_s
 [GV.agg
 [cellG true (nth o3 0) 0, cellG true (nth o3 0) 1, cellG true (nth o3 0) 2, cellG true (nth o3 0) 3,
 GV.list 2 (cellG true (nth o3 0) 4).asZ
 (setAllL (GV.list 2 (cellG true (nth o3 0) 4).asZ (cellG true (nth o3 0) 4).asList (cellG true (nth o3 0) 4).asSp)
 ((GV.list 2 (cellG true (nth o3 0) 4).asZ (cellG true (nth o3 0) 4).asList (cellG true (nth o3 0) 4).asSp).all.set
 (nth o8 0).asInt.toNat
 (GV.agg
 (padSet
 (nth (GV.list 2 (cellG true (nth o3 0) 4).asZ (cellG true (nth o3 0) 4).asList (cellG true (nth o3 0) 4).asSp).all
 (nth o8 0).asInt.toNat).asAgg
 5 a2))))
 (setAllS (GV.list 2 (cellG true (nth o3 0) 4).asZ (cellG true (nth o3 0) 4).asList (cellG true (nth o3 0) 4).asSp)
 ((GV.list 2 (cellG true (nth o3 0) 4).asZ (cellG true (nth o3 0) 4).asList (cellG true (nth o3 0) 4).asSp).all.set
 (nth o8 0).asInt.toNat
 (GV.agg
 (padSet
 (nth (GV.list 2 (cellG true (nth o3 0) 4).asZ (cellG true (nth o3 0) 4).asList (cellG true (nth o3 0) 4).asSp).all
 (nth o8 0).asInt.toNat).asAgg
 5 a2)))),
 GV.list 2 (cellG true (nth o3 0) 5).asZ
 (setAllL (GV.list 2 (cellG true (nth o3 0) 5).asZ (cellG true (nth o3 0) 5).asList (cellG true (nth o3 0) 5).asSp)
 ((GV.list 2 (cellG true (nth o3 0) 5).asZ (cellG true (nth o3 0) 5).asList (cellG true (nth o3 0) 5).asSp).all.set
 (nth o9 0).asInt.toNat
 (GV.agg
 (padSet
 (nth (GV.list 2 (cellG true (nth o3 0) 5).asZ (cellG true (nth o3 0) 5).asList (cellG true (nth o3 0) 5).asSp).all
 (nth o9 0).asInt.toNat).asAgg
 1
 (GV.list
 (cellG true
 (nth (GV.list 2 (cellG true (nth o3 0) 5).asZ (cellG true (nth o3 0) 5).asList (cellG true (nth o3 0) 5).asSp).all
 (nth o9 0).asInt.toNat)
 1).asOwn
 (cellG true
 (nth (GV.list 2 (cellG true (nth o3 0) 5).asZ (cellG true (nth o3 0) 5).asList (cellG true (nth o3 0) 5).asSp).all
 (nth o9 0).asInt.toNat)
 1).asZ
 (setAllL
 (cellG true
 (nth (GV.list 2 (cellG true (nth o3 0) 5).asZ (cellG true (nth o3 0) 5).asList (cellG true (nth o3 0) 5).asSp).all
 (nth o9 0).asInt.toNat)
 1)
 ((cellG true
 (nth (GV.list 2 (cellG true (nth o3 0) 5).asZ (cellG true (nth o3 0) 5).asList (cellG true (nth o3 0) 5).asSp).all
 (nth o9 0).asInt.toNat)
 1).all.set
 (nth o10 0).asInt.toNat (GV.int (pickZ a1.asInt 130))))
 (setAllS
 (cellG true
 (nth (GV.list 2 (cellG true (nth o3 0) 5).asZ (cellG true (nth o3 0) 5).asList (cellG true (nth o3 0) 5).asSp).all
 (nth o9 0).asInt.toNat)
 1)
 ((cellG true
 (nth (GV.list 2 (cellG true (nth o3 0) 5).asZ (cellG true (nth o3 0) 5).asList (cellG true (nth o3 0) 5).asSp).all
 (nth o9 0).asInt.toNat)
 1).all.set
 (nth o10 0).asInt.toNat (GV.int (pickZ a1.asInt 130)))))))))
 (setAllS (GV.list 2 (cellG true (nth o3 0) 5).asZ (cellG true (nth o3 0) 5).asList (cellG true (nth o3 0) 5).asSp)
 ((GV.list 2 (cellG true (nth o3 0) 5).asZ (cellG true (nth o3 0) 5).asList (cellG true (nth o3 0) 5).asSp).all.set
 (nth o9 0).asInt.toNat
 (GV.agg
 (padSet
 (nth (GV.list 2 (cellG true (nth o3 0) 5).asZ (cellG true (nth o3 0) 5).asList (cellG true (nth o3 0) 5).asSp).all
 (nth o9 0).asInt.toNat).asAgg
 1
 (GV.list
 (cellG true
 (nth (GV.list 2 (cellG true (nth o3 0) 5).asZ (cellG true (nth o3 0) 5).asList (cellG true (nth o3 0) 5).asSp).all
 (nth o9 0).asInt.toNat)
 1).asOwn
 (cellG true
 (nth (GV.list 2 (cellG true (nth o3 0) 5).asZ (cellG true (nth o3 0) 5).asList (cellG true (nth o3 0) 5).asSp).all
 (nth o9 0).asInt.toNat)
 1).asZ
 (setAllL
 (cellG true
 (nth (GV.list 2 (cellG true (nth o3 0) 5).asZ (cellG true (nth o3 0) 5).asList (cellG true (nth o3 0) 5).asSp).all
 (nth o9 0).asInt.toNat)
 1)
 ((cellG true
 (nth (GV.list 2 (cellG true (nth o3 0) 5).asZ (cellG true (nth o3 0) 5).asList (cellG true (nth o3 0) 5).asSp).all
 (nth o9 0).asInt.toNat)
 1).all.set
 (nth o10 0).asInt.toNat (GV.int (pickZ a1.asInt 130))))
 (setAllS
 (cellG true
 (nth (GV.list 2 (cellG true (nth o3 0) 5).asZ (cellG true (nth o3 0) 5).asList (cellG true (nth o3 0) 5).asSp).all
 (nth o9 0).asInt.toNat)
 1)
 ((cellG true
 (nth (GV.list 2 (cellG true (nth o3 0) 5).asZ (cellG true (nth o3 0) 5).asList (cellG true (nth o3 0) 5).asSp).all
 (nth o9 0).asInt.toNat)
 1).all.set
 (nth o10 0).asInt.toNat (GV.int (pickZ a1.asInt 130))))))))),
 cellG true (nth o3 0) 6]]).bind
 fun o12 =>
 (r10Right_s
 [GV.agg
 [cellG true (nth o11 0) 0, cellG true (nth o11 0) 1, cellG true (nth o11 0) 2, cellG true (nth o11 0) 3,
 GV.list 2 (cellG true (nth o11 0) 4).asZ (cellG true (nth o11 0) 4).asList (cellG true (nth o11 0) 4).asSp,
 GV.list 2 (cellG true (nth o11 0) 5).asZ (cellG true (nth o11 0) 5).asList (cellG true (nth o11 0) 5).asSp,
 cellG true (nth o11 0) 6]]).bind
 fun o13 =>
 (r10StillDialect_s
 [GV.agg
 [cellG true (nth o3 0) 0, cellG true (nth o3 0) 1, cellG true (nth o3 0) 2, cellG true (nth o3 0) 3,
 GV.list 2 (cellG true (nth o3 0) 4).asZ
 (setAllL (GV.list 2 (cellG true (nth o3 0) 4).asZ (cellG true (nth o3 0) 4).asList (cellG true (nth o3 0) 4).asSp)
 ((GV.list 2 (cellG true (nth o3 0) 4).asZ (cellG true (nth o3 0) 4).asList (cellG true (nth o3 0) 4).asSp).all.set
 (nth o8 0).asInt.toNat
 (GV.agg
 (padSet
 (nth (GV.list 2 (cellG true (nth o3 0) 4).asZ (cellG true (nth o3 0) 4).asList (cellG true (nth o3 0) 4).asSp).all
 (nth o8 0).asInt.toNat).asAgg
 5 a2))))
 (setAllS (GV.list 2 (cellG true (nth o3 0) 4).asZ (cellG true (nth o3 0) 4).asList (cellG true (nth o3 0) 4).asSp)
 ((GV.list 2 (cellG true (nth o3 0) 4).asZ (cellG true (nth o3 0) 4).asList (cellG true (nth o3 0) 4).asSp).all.set
 (nth o8 0).asInt.toNat
 (GV.agg
 (padSet
 (nth (GV.list 2 (cellG true (nth o3 0) 4).asZ (cellG true (nth o3 0) 4).asList (cellG true (nth o3 0) 4).asSp).all
 (nth o8 0).asInt.toNat).asAgg
 5 a2)))),
 GV.list 2 (cellG true (nth o3 0) 5).asZ
 (setAllL (GV.list 2 (cellG true (nth o3 0) 5).asZ (cellG true (nth o3 0) 5).asList (cellG true (nth o3 0) 5).asSp)
 ((GV.list 2 (cellG true (nth o3 0) 5).asZ (cellG true (nth o3 0) 5).asList (cellG true (nth o3 0) 5).asSp).all.set
 (nth o9 0).asInt.toNat
 (GV.agg
 (padSet
 (nth (GV.list 2 (cellG true (nth o3 0) 5).asZ (cellG true (nth o3 0) 5).asList (cellG true (nth o3 0) 5).asSp).all
 (nth o9 0).asInt.toNat).asAgg
 1
 (GV.list
 (cellG true
 (nth (GV.list 2 (cellG true (nth o3 0) 5).asZ (cellG true (nth o3 0) 5).asList (cellG true (nth o3 0) 5).asSp).all
 (nth o9 0).asInt.toNat)
 1).asOwn
 (cellG true
 (nth (GV.list 2 (cellG true (nth o3 0) 5).asZ (cellG true (nth o3 0) 5).asList (cellG true (nth o3 0) 5).asSp).all
 (nth o9 0).asInt.toNat)
 1).asZ
 (setAllL
 (cellG true
 (nth (GV.list 2 (cellG true (nth o3 0) 5).asZ (cellG true (nth o3 0) 5).asList (cellG true (nth o3 0) 5).asSp).all
 (nth o9 0).asInt.toNat)
 1)
 ((cellG true
 (nth
 (GV.list 2 (cellG true (nth o3 0) 5).asZ (cellG true (nth o3 0) 5).asList (cellG true (nth o3 0) 5).asSp).all
 (nth o9 0).asInt.toNat)
 1).all.set
 (nth o10 0).asInt.toNat (GV.int (pickZ a1.asInt 130))))
 (setAllS
 (cellG true
 (nth (GV.list 2 (cellG true (nth o3 0) 5).asZ (cellG true (nth o3 0) 5).asList (cellG true (nth o3 0) 5).asSp).all
 (nth o9 0).asInt.toNat)
 1)
 ((cellG true
 (nth
 (GV.list 2 (cellG true (nth o3 0) 5).asZ (cellG true (nth o3 0) 5).asList (cellG true (nth o3 0) 5).asSp).all
 (nth o9 0).asInt.toNat)
 1).all.set
 (nth o10 0).asInt.toNat (GV.int (pickZ a1.asInt 130)))))))))
 (setAllS (GV.list 2 (cellG true (nth o3 0) 5).asZ (cellG true (nth o3 0) 5).asList (cellG true (nth o3 0) 5).asSp)
 ((GV.list 2 (cellG true (nth o3 0) 5).asZ (cellG true (nth o3 0) 5).asList (cellG true (nth o3 0) 5).asSp).all.set
 (nth o9 0).asInt.toNat
 (GV.agg
 (padSet
 (nth (GV.list 2 (cellG true (nth o3 0) 5).asZ (cellG true (nth o3 0) 5).asList (cellG true (nth o3 0) 5).asSp).all
 (nth o9 0).asInt.toNat).asAgg
 1
 (GV.list
 (cellG true
 (nth (GV.list 2 (cellG true (nth o3 0) 5).asZ (cellG true (nth o3 0) 5).asList (cellG true (nth o3 0) 5).asSp).all
 (nth o9 0).asInt.toNat)
 1).asOwn
 (cellG true
 (nth (GV.list 2 (cellG true (nth o3 0) 5).asZ (cellG true (nth o3 0) 5).asList (cellG true (nth o3 0) 5).asSp).all
 (nth o9 0).asInt.toNat)
 1).asZ
 (setAllL
 (cellG true
 (nth (GV.list 2 (cellG true (nth o3 0) 5).asZ (cellG true (nth o3 0) 5).asList (cellG true (nth o3 0) 5).asSp).all
 (nth o9 0).asInt.toNat)
 1)
 ((cellG true
 (nth
 (GV.list 2 (cellG true (nth o3 0) 5).asZ (cellG true (nth o3 0) 5).asList (cellG true (nth o3 0) 5).asSp).all
 (nth o9 0).asInt.toNat)
 1).all.set
 (nth o10 0).asInt.toNat (GV.int (pickZ a1.asInt 130))))
 (setAllS
 (cellG true
 (nth (GV.list 2 (cellG true (nth o3 0) 5).asZ (cellG true (nth o3 0) 5).asList (cellG true (nth o3 0) 5).asSp).all
 (nth o9 0).asInt.toNat)
 1)
 ((cellG true
 (nth
 (GV.list 2 (cellG true (nth o3 0) 5).asZ (cellG true (nth o3 0) 5).asList (cellG true (nth o3 0) 5).asSp).all
 (nth o9 0).asInt.toNat)
 1).all.set
 (nth o10 0).asInt.toNat (GV.int (pickZ a1.asInt 130))))))))),
 cellG true (nth o3 0) 6],
 GV.agg
 [cellG true (nth o11 0) 0, cellG true (nth o11 0) 1, cellG true (nth o11 0) 2, cellG true (nth o11 0) 3,
 GV.list 2 (cellG true (nth o11 0) 4).asZ (cellG true (nth o11 0) 4).asList (cellG true (nth o11 0) 4).asSp,
 GV.list 2 (cellG true (nth o11 0) 5).asZ (cellG true (nth o11 0) 5).asList (cellG true (nth o11 0) 5).asSp,
 cellG true (nth o11 0) 6]]).bind
 fun o14 =>
 some
 [GV.bool
 (bif
 bif
 bif
 bif
 bif bif bif (nth o6 0).asBool then (nth o14 0).asBool else false then (nth o4 0).asInt == (nth o5 0).asInt else false then
 (nth o4 1).asInt == (nth o5 1).asInt
 else false then
 (nth o7 0).asInt == (nth o5 0).asInt
 else false then
 (nth o7 1).asInt == (nth o5 1).asInt
 else false then
 (nth o12 0).asInt == (nth o13 0).asInt
 else false then
 (nth o12 1).asInt == (nth o13 1).asInt
 else false)]
 else none
 else
 (r10TwinDialect_s
 [GV.agg
 [cellG true (nth o3 0) 0, cellG true (nth o3 0) 1, cellG true (nth o3 0) 2, cellG true (nth o3 0) 3,
 GV.list 2 (cellG true (nth o3 0) 4).asZ
 (setAllL (GV.list 2 (cellG true (nth o3 0) 4).asZ (cellG true (nth o3 0) 4).asList (cellG true (nth o3 0) 4).asSp)
 ((GV.list 2 (cellG true (nth o3 0) 4).asZ (cellG true (nth o3 0) 4).asList (cellG true (nth o3 0) 4).asSp).all.set (nth o8 0).asInt.toNat
 (GV.agg
 (padSet
 (nth (GV.list 2 (cellG true (nth o3 0) 4).asZ (cellG true (nth o3 0) 4).asList (cellG true (nth o3 0) 4).asSp).all
 (nth o8 0).asInt.toNat).asAgg
 5 a2))))
 (setAllS (GV.list 2 (cellG true (nth o3 0) 4).asZ (cellG true (nth o3 0) 4).asList (cellG true (nth o3 0) 4).asSp)
 ((GV.list 2 (cellG true (nth o3 0) 4).asZ (cellG true (nth o3 0) 4).asList (cellG true (nth o3 0) 4).asSp).all.set (nth o8 0).asInt.toNat
 (GV.agg
 (padSet
 (nth (GV.list 2 (cellG true (nth o3 0) 4).asZ (cellG true (nth o3 0) 4).asList (cellG true (nth o3 0) 4).asSp).all
 (nth o8 0).asInt.toNat).asAgg
 5 a2)))),
 GV.list 2 (cellG true (nth o3 0) 5).asZ (cellG true (nth o3 0) 5).asList (cellG true (nth o3 0) 5).asSp, cellG true (nth o3 0) 6]]).bind
 fun o15 =>
 (rightG_s
 [GV.agg
 [cellG true (nth o3 0) 0, cellG true (nth o3 0) 1, cellG true (nth o3 0) 2, cellG true (nth o3 0) 3,
 GV.list 2 (cellG true (nth o3 0) 4).asZ
 (setAllL (GV.list 2 (cellG true (nth o3 0) 4).asZ (cellG true (nth o3 0) 4).asList (cellG true (nth o3 0) 4).asSp)
 ((GV.list 2 (cellG true (nth o3 0) 4).asZ (cellG true (nth o3 0) 4).asList (cellG true (nth o3 0) 4).asSp).all.set (nth o8 0).asInt.toNat
 (GV.agg
 (padSet
 (nth (GV.list 2 (cellG true (nth o3 0) 4).asZ (cellG true (nth o3 0) 4).asList (cellG true (nth o3 0) 4).asSp).all
 (nth o8 0).asInt.toNat).asAgg
 5 a2))))
 (setAllS (GV.list 2 (cellG true (nth o3 0) 4).asZ (cellG true (nth o3 0) 4).asList (cellG true (nth o3 0) 4).asSp)
 ((GV.list 2 (cellG true (nth o3 0) 4).asZ (cellG true (nth o3 0) 4).asList (cellG true (nth o3 0) 4).asSp).all.set (nth o8 0).asInt.toNat
 (GV.agg
 (padSet
 (nth (GV.list 2 (cellG true (nth o3 0) 4).asZ (cellG true (nth o3 0) 4).asList (cellG true (nth o3 0) 4).asSp).all
 (nth o8 0).asInt.toNat).asAgg
 5 a2)))),
 GV.list 2 (cellG true (nth o3 0) 5).asZ (cellG true (nth o3 0) 5).asList (cellG true (nth o3 0) 5).asSp,
 cellG true (nth o3 0) 6]]).bind
 fun o16 =>
 (r10Right_s
 [GV.agg
 [cellG true (nth o15 0) 0, cellG true (nth o15 0) 1, cellG true (nth o15 0) 2, cellG true (nth o15 0) 3,
 GV.list 2 (cellG true (nth o15 0) 4).asZ (cellG true (nth o15 0) 4).asList (cellG true (nth o15 0) 4).asSp,
 GV.list 2 (cellG true (nth o15 0) 5).asZ (cellG true (nth o15 0) 5).asList (cellG true (nth o15 0) 5).asSp,
 cellG true (nth o15 0) 6]]).bind
 fun o17 =>
 (r10StillDialect_s
 [GV.agg
 [cellG true (nth o3 0) 0, cellG true (nth o3 0) 1, cellG true (nth o3 0) 2, cellG true (nth o3 0) 3,
 GV.list 2 (cellG true (nth o3 0) 4).asZ
 (setAllL (GV.list 2 (cellG true (nth o3 0) 4).asZ (cellG true (nth o3 0) 4).asList (cellG true (nth o3 0) 4).asSp)
 ((GV.list 2 (cellG true (nth o3 0) 4).asZ (cellG true (nth o3 0) 4).asList (cellG true (nth o3 0) 4).asSp).all.set
 (nth o8 0).asInt.toNat
 (GV.agg
 (padSet
 (nth (GV.list 2 (cellG true (nth o3 0) 4).asZ (cellG true (nth o3 0) 4).asList (cellG true (nth o3 0) 4).asSp).all
 (nth o8 0).asInt.toNat).asAgg
 5 a2))))
 (setAllS (GV.list 2 (cellG true (nth o3 0) 4).asZ (cellG true (nth o3 0) 4).asList (cellG true (nth o3 0) 4).asSp)
 ((GV.list 2 (cellG true (nth o3 0) 4).asZ (cellG true (nth o3 0) 4).asList (cellG true (nth o3 0) 4).asSp).all.set
 (nth o8 0).asInt.toNat
 (GV.agg
 (padSet
 (nth (GV.list 2 (cellG true (nth o3 0) 4).asZ (cellG true (nth o3 0) 4).asList (cellG true (nth o3 0) 4).asSp).all
 (nth o8 0).asInt.toNat).asAgg
 5 a2)))),
 GV.list 2 (cellG true (nth o3 0) 5).asZ (cellG true (nth o3 0) 5).asList (cellG true (nth o3 0) 5).asSp, cellG true (nth o3 0) 6],
 GV.agg
 [cellG true (nth o15 0) 0, cellG true (nth o15 0) 1, cellG true (nth o15 0) 2, cellG true (nth o15 0) 3,
 GV.list 2 (cellG true (nth o15 0) 4).asZ (cellG true (nth o15 0) 4).asList (cellG true (nth o15 0) 4).asSp,
 GV.list 2 (cellG true (nth o15 0) 5).asZ (cellG true (nth o15 0) 5).asList (cellG true (nth o15 0) 5).asSp,
 cellG true (nth o15 0) 6]]).bind
 fun o18 =>
 some
 [GV.bool
 (bif
 bif
 bif
 bif
 bif bif bif (nth o6 0).asBool then (nth o18 0).asBool else false then (nth o4 0).asInt == (nth o5 0).asInt else false then
 (nth o4 1).asInt == (nth o5 1).asInt
 else false then
 (nth o7 0).asInt == (nth o5 0).asInt
 else false then
 (nth o7 1).asInt == (nth o5 1).asInt
 else false then
 (nth o16 0).asInt == (nth o17 0).asInt
 else false then
 (nth o16 1).asInt == (nth o17 1).asInt
 else false)]
 else none
 else
 (r10TwinDialect_s
 [GV.agg
 [cellG true (nth o3 0) 0, cellG true (nth o3 0) 1, cellG true (nth o3 0) 2, cellG true (nth o3 0) 3,
 GV.list 2 (cellG true (nth o3 0) 4).asZ
 (setAllL (GV.list 2 (cellG true (nth o3 0) 4).asZ (cellG true (nth o3 0) 4).asList (cellG true (nth o3 0) 4).asSp)
 ((GV.list 2 (cellG true (nth o3 0) 4).asZ (cellG true (nth o3 0) 4).asList (cellG true (nth o3 0) 4).asSp).all.set (nth o8 0).asInt.toNat
 (GV.agg
 (padSet
 (nth (GV.list 2 (cellG true (nth o3 0) 4).asZ (cellG true (nth o3 0) 4).asList (cellG true (nth o3 0) 4).asSp).all
 (nth o8 0).asInt.toNat).asAgg
 5 a2))))
 (setAllS (GV.list 2 (cellG true (nth o3 0) 4).asZ (cellG true (nth o3 0) 4).asList (cellG true (nth o3 0) 4).asSp)
 ((GV.list 2 (cellG true (nth o3 0) 4).asZ (cellG true (nth o3 0) 4).asList (cellG true (nth o3 0) 4).asSp).all.set (nth o8 0).asInt.toNat
 (GV.agg
 (padSet
 (nth (GV.list 2 (cellG true (nth o3 0) 4).asZ (cellG true (nth o3 0) 4).asList (cellG true (nth o3 0) 4).asSp).all
 (nth o8 0).asInt.toNat).asAgg
 5 a2)))),
 GV.list 2 (cellG true (nth o3 0) 5).asZ (cellG true (nth o3 0) 5).asList (cellG true (nth o3 0) 5).asSp, cellG true (nth o3 0) 6]]).bind
 fun o19 =>
 (rightG_s
 [GV.agg
 [cellG true (nth o3 0) 0, cellG true (nth o3 0) 1, cellG true (nth o3 0) 2, cellG true (nth o3 0) 3,
 GV.list 2 (cellG true (nth o3 0) 4).asZ
 (setAllL (GV.list 2 (cellG true (nth o3 0) 4).asZ (cellG true (nth o3 0) 4).asList (cellG true (nth o3 0) 4).asSp)
 ((GV.list 2 (cellG true (nth o3 0) 4).asZ (cellG true (nth o3 0) 4).asList (cellG true (nth o3 0) 4).asSp).all.set (nth o8 0).asInt.toNat
 (GV.agg
 (padSet
 (nth (GV.list 2 (cellG true (nth o3 0) 4).asZ (cellG true (nth o3 0) 4).asList (cellG true (nth o3 0) 4).asSp).all
 (nth o8 0).asInt.toNat).asAgg
 5 a2))))
 (setAllS (GV.list 2 (cellG true (nth o3 0) 4).asZ (cellG true (nth o3 0) 4).asList (cellG true (nth o3 0) 4).asSp)
 ((GV.list 2 (cellG true (nth o3 0) 4).asZ (cellG true (nth o3 0) 4).asList (cellG true (nth o3 0) 4).asSp).all.set (nth o8 0).asInt.toNat
 (GV.agg
 (padSet
 (nth (GV.list 2 (cellG true (nth o3 0) 4).asZ (cellG true (nth o3 0) 4).asList (cellG true (nth o3 0) 4).asSp).all
 (nth o8 0).asInt.toNat).asAgg
 5 a2)))),
 GV.list 2 (cellG true (nth o3 0) 5).asZ (cellG true (nth o3 0) 5).asList (cellG true (nth o3 0) 5).asSp, cellG true (nth o3 0) 6]]).bind
 fun o20 =>
 (r10Right_s
 [GV.agg
 [cellG true (nth o19 0) 0, cellG true (nth o19 0) 1, cellG true (nth o19 0) 2, cellG true (nth o19 0) 3,
 GV.list 2 (cellG true (nth o19 0) 4).asZ (cellG true (nth o19 0) 4).asList (cellG true (nth o19 0) 4).asSp,
 GV.list 2 (cellG true (nth o19 0) 5).asZ (cellG true (nth o19 0) 5).asList (cellG true (nth o19 0) 5).asSp,
 cellG true (nth o19 0) 6]]).bind
 fun o21 =>
 (r10StillDialect_s
 [GV.agg
 [cellG true (nth o3 0) 0, cellG true (nth o3 0) 1, cellG true (nth o3 0) 2, cellG true (nth o3 0) 3,
 GV.list 2 (cellG true (nth o3 0) 4).asZ
 (setAllL (GV.list 2 (cellG true (nth o3 0) 4).asZ (cellG true (nth o3 0) 4).asList (cellG true (nth o3 0) 4).asSp)
 ((GV.list 2 (cellG true (nth o3 0) 4).asZ (cellG true (nth o3 0) 4).asList (cellG true (nth o3 0) 4).asSp).all.set (nth o8 0).asInt.toNat
 (GV.agg
 (padSet
 (nth (GV.list 2 (cellG true (nth o3 0) 4).asZ (cellG true (nth o3 0) 4).asList (cellG true (nth o3 0) 4).asSp).all
 (nth o8 0).asInt.toNat).asAgg
 5 a2))))
 (setAllS (GV.list 2 (cellG true (nth o3 0) 4).asZ (cellG true (nth o3 0) 4).asList (cellG true (nth o3 0) 4).asSp)
 ((GV.list 2 (cellG true (nth o3 0) 4).asZ (cellG true (nth o3 0) 4).asList (cellG true (nth o3 0) 4).asSp).all.set (nth o8 0).asInt.toNat
 (GV.agg
 (padSet
 (nth (GV.list 2 (cellG true (nth o3 0) 4).asZ (cellG true (nth o3 0) 4).asList (cellG true (nth o3 0) 4).asSp).all
 (nth o8 0).asInt.toNat).asAgg
 5 a2)))),
 GV.list 2 (cellG true (nth o3 0) 5).asZ (cellG true (nth o3 0) 5).asList (cellG true (nth o3 0) 5).asSp, cellG true (nth o3 0) 6],
 GV.agg
 [cellG true (nth o19 0) 0, cellG true (nth o19 0) 1, cellG true (nth o19 0) 2, cellG true (nth o19 0) 3,
 GV.list 2 (cellG true (nth o19 0) 4).asZ (cellG true (nth o19 0) 4).asList (cellG true (nth o19 0) 4).asSp,
 GV.list 2 (cellG true (nth o19 0) 5).asZ (cellG true (nth o19 0) 5).asList (cellG true (nth o19 0) 5).asSp,
 cellG true (nth o19 0) 6]]).bind
 fun o22 =>
 some
 [GV.bool
 (bif
 bif
 bif
 bif
 bif bif bif (nth o6 0).asBool then (nth o22 0).asBool else false then (nth o4 0).asInt == (nth o5 0).asInt else false then
 (nth o4 1).asInt == (nth o5 1).asInt
 else false then
 (nth o7 0).asInt == (nth o5 0).asInt
 else false then
 (nth o7 1).asInt == (nth o5 1).asInt
 else false then
 (nth o20 0).asInt == (nth o21 0).asInt
 else false then
 (nth o20 1).asInt == (nth o21 1).asInt
 else false)]
 else none
 else
 bif decide ((↑(cellG true (nth o3 0) 5).asList.length : Int) > 0) then
 (pick_s [a1, GV.int (↑(cellG true (nth o3 0) 5).asList.length : Int)]).bind fun o23 =>
 bif inRange (nth o23 0).asInt (cellG true (nth o3 0) 5).asList.length && true && true && true then
 bif
 decide
 ((↑(cellG true
 (nth (GV.list 2 (cellG true (nth o3 0) 5).asZ (cellG true (nth o3 0) 5).asList (cellG true (nth o3 0) 5).asSp).all
 (nth o23 0).asInt.toNat)
 1).asList.length :
 Int) >
 0) then
 (pick_s
 [a2,
 GV.int
 (↑(cellG true
 (nth (GV.list 2 (cellG true (nth o3 0) 5).asZ (cellG true (nth o3 0) 5).asList (cellG true (nth o3 0) 5).asSp).all
 (nth o23 0).asInt.toNat)
 1).asList.length :
 Int)]).bind
 fun o24 =>
 bif
 inRange (nth o24 0).asInt
 (cellG true
 (nth (GV.list 2 (cellG true (nth o3 0) 5).asZ (cellG true (nth o3 0) 5).asList (cellG true (nth o3 0) 5).asSp).all
 (nth o23 0).asInt.toNat)
 1).asList.length &&
 ((cellG true
 (nth (GV.list 2 (cellG true (nth o3 0) 5).asZ (cellG true (nth o3 0) 5).asList (cellG true (nth o3 0) 5).asSp).all
 (nth o23 0).asInt.toNat)
 1).asOwn.beq
 1 ||
 (cellG true
 (nth (GV.list 2 (cellG true (nth o3 0) 5).asZ (cellG true (nth o3 0) 5).asList (cellG true (nth o3 0) 5).asSp).all
 (nth o23 0).asInt.toNat)
 1).asOwn.beq
 2) &&
 true &&
 true then
 (r10TwinDialect_s
 [GV.agg
 [cellG true (nth o3 0) 0, cellG true (nth o3 0) 1, cellG true (nth o3 0) 2, cellG true (nth o3 0) 3,
 GV.list 2 (cellG true (nth o3 0) 4).asZ (cellG true (nth o3 0) 4).asList (cellG true (nth o3 0) 4).asSp,
 GV.list 2 (cellG true (nth o3 0) 5).asZ
 (setAllL (GV.list 2 (cellG true (nth o3 0) 5).asZ (cellG true (nth o3 0) 5).asList (cellG true (nth o3 0) 5).asSp)
 ((GV.list 2 (cellG true (nth o3 0) 5).asZ (cellG true (nth o3 0) 5).asList (cellG true (nth o3 0) 5).asSp).all.set (nth o23 0).asInt.toNat
 (GV.agg
 (padSet
 (nth (GV.list 2 (cellG true (nth o3 0) 5).asZ (cellG true (nth o3 0) 5).asList (cellG true (nth o3 0) 5).asSp).all
 (nth o23 0).asInt.toNat).asAgg
 1
 (GV.list
 (cellG true
 (nth (GV.list 2 (cellG true (nth o3 0) 5).asZ (cellG true (nth o3 0) 5).asList (cellG true (nth o3 0) 5).asSp).all
 (nth o23 0).asInt.toNat)
 1).asOwn
 (cellG true
 (nth (GV.list 2 (cellG true (nth o3 0) 5).asZ (cellG true (nth o3 0) 5).asList (cellG true (nth o3 0) 5).asSp).all
 (nth o23 0).asInt.toNat)
 1).asZ
 (setAllL
 (cellG true
 (nth (GV.list 2 (cellG true (nth o3 0) 5).asZ (cellG true (nth o3 0) 5).asList (cellG true (nth o3 0) 5).asSp).all
 (nth o23 0).asInt.toNat)
 1)
 ((cellG true
 (nth (GV.list 2 (cellG true (nth o3 0) 5).asZ (cellG true (nth o3 0) 5).asList (cellG true (nth o3 0) 5).asSp).all
 (nth o23 0).asInt.toNat)
 1).all.set
 (nth o24 0).asInt.toNat (GV.int (pickZ a1.asInt 130))))
 (setAllS
 (cellG true
 (nth (GV.list 2 (cellG true (nth o3 0) 5).asZ (cellG true (nth o3 0) 5).asList (cellG true (nth o3 0) 5).asSp).all
 (nth o23 0).asInt.toNat)
 1)
 ((cellG true
 (nth (GV.list 2 (cellG true (nth o3 0) 5).asZ (cellG true (nth o3 0) 5).asList (cellG true (nth o3 0) 5).asSp).all
 (nth o23 0).asInt.toNat)
 1).all.set
 (nth o24 0).asInt.toNat (GV.int (pickZ a1.asInt 130)))))))))
 (setAllS (GV.list 2 (cellG true (nth o3 0) 5).asZ (cellG true (nth o3 0) 5).asList (cellG true (nth o3 0) 5).asSp)
 ((GV.list 2 (cellG true (nth o3 0) 5).asZ (cellG true (nth o3 0) 5).asList (cellG true (nth o3 0) 5).asSp).all.set (nth o23 0).asInt.toNat
 (GV.agg
 (padSet
 (nth (GV.list 2 (cellG true (nth o3 0) 5).asZ (cellG true (nth o3 0) 5).asList (cellG true (nth o3 0) 5).asSp).all
 (nth o23 0).asInt.toNat).asAgg
 1
 (GV.list
 (cellG true
 (nth (GV.list 2 (cellG true (nth o3 0) 5).asZ (cellG true (nth o3 0) 5).asList (cellG true (nth o3 0) 5).asSp).all
 (nth o23 0).asInt.toNat)
 1).asOwn
 (cellG true
 (nth (GV.list 2 (cellG true (nth o3 0) 5).asZ (cellG true (nth o3 0) 5).asList (cellG true (nth o3 0) 5).asSp).all
 (nth o23 0).asInt.toNat)
 1).asZ
 (setAllL
 (cellG true
 (nth (GV.list 2 (cellG true (nth o3 0) 5).asZ (cellG true (nth o3 0) 5).asList (cellG true (nth o3 0) 5).asSp).all
 (nth o23 0).asInt.toNat)
 1)
 ((cellG true
 (nth (GV.list 2 (cellG true (nth o3 0) 5).asZ (cellG true (nth o3 0) 5).asList (cellG true (nth o3 0) 5).asSp).all
 (nth o23 0).asInt.toNat)
 1).all.set
 (nth o24 0).asInt.toNat (GV.int (pickZ a1.asInt 130))))
 (setAllS
 (cellG true
 (nth (GV.list 2 (cellG true (nth o3 0) 5).asZ (cellG true (nth o3 0) 5).asList (cellG true (nth o3 0) 5).asSp).all
 (nth o23 0).asInt.toNat)
 1)
 ((cellG true
 (nth (GV.list 2 (cellG true (nth o3 0) 5).asZ (cellG true (nth o3 0) 5).asList (cellG true (nth o3 0) 5).asSp).all
 (nth o23 0).asInt.toNat)
 1).all.set
 (nth o24 0).asInt.toNat (GV.int (pickZ a1.asInt 130))))))))),
 cellG true (nth o3 0) 6]]).bind
 fun o25 =>
 (rightG_s
 [GV.agg
 [cellG true (nth o3 0) 0, cellG true (nth o3 0) 1, cellG true (nth o3 0) 2, cellG true (nth o3 0) 3,
 GV.list 2 (cellG true (nth o3 0) 4).asZ (cellG true (nth o3 0) 4).asList (cellG true (nth o3 0) 4).asSp,
 GV.list 2 (cellG true (nth o3 0) 5).asZ
 (setAllL (GV.list 2 (cellG true (nth o3 0) 5).asZ (cellG true (nth o3 0) 5).asList (cellG true (nth o3 0) 5).asSp)
 ((GV.list 2 (cellG true (nth o3 0) 5).asZ (cellG true (nth o3 0) 5).asList (cellG true (nth o3 0) 5).asSp).all.set (nth o23 0).asInt.toNat
 (GV.agg
 (padSet
 (nth (GV.list 2 (cellG true (nth o3 0) 5).asZ (cellG true (nth o3 0) 5).asList (cellG true (nth o3 0) 5).asSp).all
 (nth o23 0).asInt.toNat).asAgg
 1
 (GV.list
 (cellG true
 (nth (GV.list 2 (cellG true (nth o3 0) 5).asZ (cellG true (nth o3 0) 5).asList (cellG true (nth o3 0) 5).asSp).all
 (nth o23 0).asInt.toNat)
 1).asOwn
 (cellG true
 (nth (GV.list 2 (cellG true (nth o3 0) 5).asZ (cellG true (nth o3 0) 5).asList (cellG true (nth o3 0) 5).asSp).all
 (nth o23 0).asInt.toNat)
 1).asZ
 (setAllL
 (cellG true
 (nth (GV.list 2 (cellG true (nth o3 0) 5).asZ (cellG true (nth o3 0) 5).asList (cellG true (nth o3 0) 5).asSp).all
 (nth o23 0).asInt.toNat)
 1)
 ((cellG true
 (nth (GV.list 2 (cellG true (nth o3 0) 5).asZ (cellG true (nth o3 0) 5).asList (cellG true (nth o3 0) 5).asSp).all
 (nth o23 0).asInt.toNat)
 1).all.set
 (nth o24 0).asInt.toNat (GV.int (pickZ a1.asInt 130))))
 (setAllS
 (cellG true
 (nth (GV.list 2 (cellG true (nth o3 0) 5).asZ (cellG true (nth o3 0) 5).asList (cellG true (nth o3 0) 5).asSp).all
 (nth o23 0).asInt.toNat)
 1)
 ((cellG true
 (nth (GV.list 2 (cellG true (nth o3 0) 5).asZ (cellG true (nth o3 0) 5).asList (cellG true (nth o3 0) 5).asSp).all
 (nth o23 0).asInt.toNat)
 1).all.set
 (nth o24 0).asInt.toNat (GV.int (pickZ a1.asInt 130)))))))))
 (setAllS (GV.list 2 (cellG true (nth o3 0) 5).asZ (cellG true (nth o3 0) 5).asList (cellG true (nth o3 0) 5).asSp)
 ((GV.list 2 (cellG true (nth o3 0) 5).asZ (cellG true (nth o3 0) 5).asList (cellG true (nth o3 0) 5).asSp).all.set (nth o23 0).asInt.toNat
 (GV.agg
 (padSet
 (nth (GV.list 2 (cellG true (nth o3 0) 5).asZ (cellG true (nth o3 0) 5).asList (cellG true (nth o3 0) 5).asSp).all
 (nth o23 0).asInt.toNat).asAgg
 1
 (GV.list
 (cellG true
 (nth (GV.list 2 (cellG true (nth o3 0) 5).asZ (cellG true (nth o3 0) 5).asList (cellG true (nth o3 0) 5).asSp).all
 (nth o23 0).asInt.toNat)
 1).asOwn
 (cellG true
 (nth (GV.list 2 (cellG true (nth o3 0) 5).asZ (cellG true (nth o3 0) 5).asList (cellG true (nth o3 0) 5).asSp).all
 (nth o23 0).asInt.toNat)
 1).asZ
 (setAllL
 (cellG true
 (nth (GV.list 2 (cellG true (nth o3 0) 5).asZ (cellG true (nth o3 0) 5).asList (cellG true (nth o3 0) 5).asSp).all
 (nth o23 0).asInt.toNat)
 1)
 ((cellG true
 (nth (GV.list 2 (cellG true (nth o3 0) 5).asZ (cellG true (nth o3 0) 5).asList (cellG true (nth o3 0) 5).asSp).all
 (nth o23 0).asInt.toNat)
 1).all.set
 (nth o24 0).asInt.toNat (GV.int (pickZ a1.asInt 130))))
 (setAllS
 (cellG true
 (nth (GV.list 2 (cellG true (nth o3 0) 5).asZ (cellG true (nth o3 0) 5).asList (cellG true (nth o3 0) 5).asSp).all
 (nth o23 0).asInt.toNat)
 1)
 ((cellG true
 (nth (GV.list 2 (cellG true (nth o3 0) 5).asZ (cellG true (nth o3 0) 5).asList (cellG true (nth o3 0) 5).asSp).all
 (nth o23 0).asInt.toNat)
 1).all.set
 (nth o24 0).asInt.toNat (GV.int (pickZ a1.asInt 130))))))))),
 cellG true (nth o3 0) 6]]).bind
 fun o26 =>
 (r10Right_s
 [GV.agg
 [cellG true (nth o25 0) 0, cellG true (nth o25 0) 1, cellG true (nth o25 0) 2, cellG true (nth o25 0) 3,
 GV.list 2 (cellG true (nth o25 0) 4).asZ (cellG true (nth o25 0) 4).asList (cellG true (nth o25 0) 4).asSp,
 GV.list 2 (cellG true (nth o25 0) 5).asZ (cellG true (nth o25 0) 5).asList (cellG true (nth o25 0) 5).asSp,
 cellG true (nth o25 0) 6]]).bind
 fun o27 =>
 (r10StillDialect_s
 [GV.agg
 [cellG true (nth o3 0) 0, cellG true (nth o3 0) 1, cellG true (nth o3 0) 2, cellG true (nth o3 0) 3,
 GV.list 2 (cellG true (nth o3 0) 4).asZ (cellG true (nth o3 0) 4).asList (cellG true (nth o3 0) 4).asSp,
 GV.list 2 (cellG true (nth o3 0) 5).asZ
 (setAllL (GV.list 2 (cellG true (nth o3 0) 5).asZ (cellG true (nth o3 0) 5).asList (cellG true (nth o3 0) 5).asSp)
 ((GV.list 2 (cellG true (nth o3 0) 5).asZ (cellG true (nth o3 0) 5).asList (cellG true (nth o3 0) 5).asSp).all.set
 (nth o23 0).asInt.toNat
 (GV.agg
 (padSet
 (nth (GV.list 2 (cellG true (nth o3 0) 5).asZ (cellG true (nth o3 0) 5).asList (cellG true (nth o3 0) 5).asSp).all
 (nth o23 0).asInt.toNat).asAgg
 1
 (GV.list
 (cellG true
 (nth (GV.list 2 (cellG true (nth o3 0) 5).asZ (cellG true (nth o3 0) 5).asList (cellG true (nth o3 0) 5).asSp).all
 (nth o23 0).asInt.toNat)
 1).asOwn
 (cellG true
 (nth (GV.list 2 (cellG true (nth o3 0) 5).asZ (cellG true (nth o3 0) 5).asList (cellG true (nth o3 0) 5).asSp).all
 (nth o23 0).asInt.toNat)
 1).asZ
 (setAllL
 (cellG true
 (nth (GV.list 2 (cellG true (nth o3 0) 5).asZ (cellG true (nth o3 0) 5).asList (cellG true (nth o3 0) 5).asSp).all
 (nth o23 0).asInt.toNat)
 1)
 ((cellG true
 (nth (GV.list 2 (cellG true (nth o3 0) 5).asZ (cellG true (nth o3 0) 5).asList (cellG true (nth o3 0) 5).asSp).all
 (nth o23 0).asInt.toNat)
 1).all.set
 (nth o24 0).asInt.toNat (GV.int (pickZ a1.asInt 130))))
 (setAllS
 (cellG true
 (nth (GV.list 2 (cellG true (nth o3 0) 5).asZ (cellG true (nth o3 0) 5).asList (cellG true (nth o3 0) 5).asSp).all
 (nth o23 0).asInt.toNat)
 1)
 ((cellG true
 (nth (GV.list 2 (cellG true (nth o3 0) 5).asZ (cellG true (nth o3 0) 5).asList (cellG true (nth o3 0) 5).asSp).all
 (nth o23 0).asInt.toNat)
 1).all.set
 (nth o24 0).asInt.toNat (GV.int (pickZ a1.asInt 130)))))))))
 (setAllS (GV.list 2 (cellG true (nth o3 0) 5).asZ (cellG true (nth o3 0) 5).asList (cellG true (nth o3 0) 5).asSp)
 ((GV.list 2 (cellG true (nth o3 0) 5).asZ (cellG true (nth o3 0) 5).asList (cellG true (nth o3 0) 5).asSp).all.set
 (nth o23 0).asInt.toNat
 (GV.agg
 (padSet
 (nth (GV.list 2 (cellG true (nth o3 0) 5).asZ (cellG true (nth o3 0) 5).asList (cellG true (nth o3 0) 5).asSp).all
 (nth o23 0).asInt.toNat).asAgg
 1
 (GV.list
 (cellG true
 (nth (GV.list 2 (cellG true (nth o3 0) 5).asZ (cellG true (nth o3 0) 5).asList (cellG true (nth o3 0) 5).asSp).all
 (nth o23 0).asInt.toNat)
 1).asOwn
 (cellG true
 (nth (GV.list 2 (cellG true (nth o3 0) 5).asZ (cellG true (nth o3 0) 5).asList (cellG true (nth o3 0) 5).asSp).all
 (nth o23 0).asInt.toNat)
 1).asZ
 (setAllL
 (cellG true
 (nth (GV.list 2 (cellG true (nth o3 0) 5).asZ (cellG true (nth o3 0) 5).asList (cellG true (nth o3 0) 5).asSp).all
 (nth o23 0).asInt.toNat)
 1)
 ((cellG true
 (nth (GV.list 2 (cellG true (nth o3 0) 5).asZ (cellG true (nth o3 0) 5).asList (cellG true (nth o3 0) 5).asSp).all
 (nth o23 0).asInt.toNat)
 1).all.set
 (nth o24 0).asInt.toNat (GV.int (pickZ a1.asInt 130))))
 (setAllS
 (cellG true
 (nth (GV.list 2 (cellG true (nth o3 0) 5).asZ (cellG true (nth o3 0) 5).asList (cellG true (nth o3 0) 5).asSp).all
 (nth o23 0).asInt.toNat)
 1)
 ((cellG true
 (nth (GV.list 2 (cellG true (nth o3 0) 5).asZ (cellG true (nth o3 0) 5).asList (cellG true (nth o3 0) 5).asSp).all
 (nth o23 0).asInt.toNat)
 1).all.set
 (nth o24 0).asInt.toNat (GV.int (pickZ a1.asInt 130))))))))),
 cellG true (nth o3 0) 6],
 GV.agg
 [cellG true (nth o25 0) 0, cellG true (nth o25 0) 1, cellG true (nth o25 0) 2, cellG true (nth o25 0) 3,
 GV.list 2 (cellG true (nth o25 0) 4).asZ (cellG true (nth o25 0) 4).asList (cellG true (nth o25 0) 4).asSp,
 GV.list 2 (cellG true (nth o25 0) 5).asZ (cellG true (nth o25 0) 5).asList (cellG true (nth o25 0) 5).asSp,
 cellG true (nth o25 0) 6]]).bind
 fun o28 =>
 some
 [GV.bool
 (bif
 bif
 bif
 bif
 bif bif bif (nth o6 0).asBool then (nth o28 0).asBool else false then (nth o4 0).asInt == (nth o5 0).asInt else false then
 (nth o4 1).asInt == (nth o5 1).asInt
 else false then
 (nth o7 0).asInt == (nth o5 0).asInt
 else false then
 (nth o7 1).asInt == (nth o5 1).asInt
 else false then
 (nth o26 0).asInt == (nth o27 0).asInt
 else false then
 (nth o26 1).asInt == (nth o27 1).asInt
 else false)]
 else none
 else
 (r10TwinDialect_s
 [GV.agg
 [cellG true (nth o3 0) 0, cellG true (nth o3 0) 1, cellG true (nth o3 0) 2, cellG true (nth o3 0) 3,
 GV.list 2 (cellG true (nth o3 0) 4).asZ (cellG true (nth o3 0) 4).asList (cellG true (nth o3 0) 4).asSp,
 GV.list 2 (cellG true (nth o3 0) 5).asZ (cellG true (nth o3 0) 5).asList (cellG true (nth o3 0) 5).asSp, cellG true (nth o3 0) 6]]).bind
 fun o29 =>
 (rightG_s
 [GV.agg
 [cellG true (nth o3 0) 0, cellG true (nth o3 0) 1, cellG true (nth o3 0) 2, cellG true (nth o3 0) 3,
 GV.list 2 (cellG true (nth o3 0) 4).asZ (cellG true (nth o3 0) 4).asList (cellG true (nth o3 0) 4).asSp,
 GV.list 2 (cellG true (nth o3 0) 5).asZ (cellG true (nth o3 0) 5).asList (cellG true (nth o3 0) 5).asSp, cellG true (nth o3 0) 6]]).bind
 fun o30 =>
 (r10Right_s
 [GV.agg
 [cellG true (nth o29 0) 0, cellG true (nth o29 0) 1, cellG true (nth o29 0) 2, cellG true (nth o29 0) 3,
 GV.list 2 (cellG true (nth o29 0) 4).asZ (cellG true (nth o29 0) 4).asList (cellG true (nth o29 0) 4).asSp,
 GV.list 2 (cellG true (nth o29 0) 5).asZ (cellG true (nth o29 0) 5).asList (cellG true (nth o29 0) 5).asSp,
 cellG true (nth o29 0) 6]]).bind
 fun o31 =>
 (r10StillDialect_s
 [GV.agg
 [cellG true (nth o3 0) 0, cellG true (nth o3 0) 1, cellG true (nth o3 0) 2, cellG true (nth o3 0) 3,
 GV.list 2 (cellG true (nth o3 0) 4).asZ (cellG true (nth o3 0) 4).asList (cellG true (nth o3 0) 4).asSp,
 GV.list 2 (cellG true (nth o3 0) 5).asZ (cellG true (nth o3 0) 5).asList (cellG true (nth o3 0) 5).asSp, cellG true (nth o3 0) 6],
 GV.agg
 [cellG true (nth o29 0) 0, cellG true (nth o29 0) 1, cellG true (nth o29 0) 2, cellG true (nth o29 0) 3,
 GV.list 2 (cellG true (nth o29 0) 4).asZ (cellG true (nth o29 0) 4).asList (cellG true (nth o29 0) 4).asSp,
 GV.list 2 (cellG true (nth o29 0) 5).asZ (cellG true (nth o29 0) 5).asList (cellG true (nth o29 0) 5).asSp,
 cellG true (nth o29 0) 6]]).bind
 fun o32 =>
 some
 [GV.bool
 (bif
 bif
 bif
 bif
 bif bif bif (nth o6 0).asBool then (nth o32 0).asBool else false then (nth o4 0).asInt == (nth o5 0).asInt else false then
 (nth o4 1).asInt == (nth o5 1).asInt
 else false then
 (nth o7 0).asInt == (nth o5 0).asInt
 else false then
 (nth o7 1).asInt == (nth o5 1).asInt
 else false then
 (nth o30 0).asInt == (nth o31 0).asInt
 else false then
 (nth o30 1).asInt == (nth o31 1).asInt
 else false)]
 else none
 else
 (r10TwinDialect_s
 [GV.agg
 [cellG true (nth o3 0) 0, cellG true (nth o3 0) 1, cellG true (nth o3 0) 2, cellG true (nth o3 0) 3,
 GV.list 2 (cellG true (nth o3 0) 4).asZ (cellG true (nth o3 0) 4).asList (cellG true (nth o3 0) 4).asSp,
 GV.list 2 (cellG true (nth o3 0) 5).asZ (cellG true (nth o3 0) 5).asList (cellG true (nth o3 0) 5).asSp, cellG true (nth o3 0) 6]]).bind
 fun o33 =>
 (rightG_s
 [GV.agg
 [cellG true (nth o3 0) 0, cellG true (nth o3 0) 1, cellG true (nth o3 0) 2, cellG true (nth o3 0) 3,
 GV.list 2 (cellG true (nth o3 0) 4).asZ (cellG true (nth o3 0) 4).asList (cellG true (nth o3 0) 4).asSp,
 GV.list 2 (cellG true (nth o3 0) 5).asZ (cellG true (nth o3 0) 5).asList (cellG true (nth o3 0) 5).asSp, cellG true (nth o3 0) 6]]).bind
 fun o34 =>
 (r10Right_s
 [GV.agg
 [cellG true (nth o33 0) 0, cellG true (nth o33 0) 1, cellG true (nth o33 0) 2, cellG true (nth o33 0) 3,
 GV.list 2 (cellG true (nth o33 0) 4).asZ (cellG true (nth o33 0) 4).asList (cellG true (nth o33 0) 4).asSp,
 GV.list 2 (cellG true (nth o33 0) 5).asZ (cellG true (nth o33 0) 5).asList (cellG true (nth o33 0) 5).asSp, cellG true (nth o33 0) 6]]).bind
 fun o35 =>
 (r10StillDialect_s
 [GV.agg
 [cellG true (nth o3 0) 0, cellG true (nth o3 0) 1, cellG true (nth o3 0) 2, cellG true (nth o3 0) 3,
 GV.list 2 (cellG true (nth o3 0) 4).asZ (cellG true (nth o3 0) 4).asList (cellG true (nth o3 0) 4).asSp,
 GV.list 2 (cellG true (nth o3 0) 5).asZ (cellG true (nth o3 0) 5).asList (cellG true (nth o3 0) 5).asSp, cellG true (nth o3 0) 6],
 GV.agg
 [cellG true (nth o33 0) 0, cellG true (nth o33 0) 1, cellG true (nth o33 0) 2, cellG true (nth o33 0) 3,
 GV.list 2 (cellG true (nth o33 0) 4).asZ (cellG true (nth o33 0) 4).asList (cellG true (nth o33 0) 4).asSp,
 GV.list 2 (cellG true (nth o33 0) 5).asZ (cellG true (nth o33 0) 5).asList (cellG true (nth o33 0) 5).asSp, cellG true (nth o33 0) 6]]).bind
 fun o36 =>
 some
 [GV.bool
 (bif
 bif
 bif
 bif
 bif bif bif (nth o6 0).asBool then (nth o36 0).asBool else false then (nth o4 0).asInt == (nth o5 0).asInt else false then
 (nth o4 1).asInt == (nth o5 1).asInt
 else false then
 (nth o7 0).asInt == (nth o5 0).asInt
 else false then
 (nth o7 1).asInt == (nth o5 1).asInt
 else false then
 (nth o34 0).asInt == (nth o35 0).asInt
 else false then
 (nth o34 1).asInt == (nth o35 1).asInt
 else false)]
theorem lawRights_q (fuel : Nat) (a0 a1 a2 : GV) : gexec lawRights_E (LZ) Tryz.f3.ntmps Tryz.f3.results.toList lawRights_sg lawRights_c [a0, a1, a2] = lawRights_f fuel a0 a1 a2 := by kernel_rfl
theorem lawRights_calls (hS : SpecsOk Tryz.prog tl lawRights_E.sp) (fuel : Nat) : CallsOk Tryz.prog tl 3 lawRights_sg (gexec lawRights_E (LZ) Tryz.f3.ntmps Tryz.f3.results.toList lawRights_sg lawRights_c) :=
  gexec_calls (E := lawRights_E) hP hS Tryz.func3 (by kernel_rfl) (by kernel_rfl) (fun W => LZ_ok)
theorem lawRights_hS : SpecsOk Tryz.prog tl lawRights_E.sp := (specs_cons (specs_cons (specs_cons (specs_cons (specs_cons (specs_cons (specs_cons specs_nil pick_ok Tryz.call16) r10StillDialect_ok Tryz.call15) r10TwinDialect_ok Tryz.call14) r10Right_ok Tryz.call13) rightG_ok Tryz.call12) r10Wide_ok Tryz.call11) least_ok Tryz.call10)
theorem bindS {α β : Type} {x : Option α} {y : α} {f : α → Option β} {r : Option β} (h : x = some y) (h2 : f y = r) : x.bind f = r := by rw [h]; exact h2
abbrev AG (t : GV) (o : Nat) : GV := GV.agg [cellG true t 0, cellG true t 1, cellG true t 2, cellG true t 3, GV.list o (cellG true t 4).asZ (cellG true t 4).asList (cellG true t 4).asSp, GV.list o (cellG true t 5).asZ (cellG true t 5).asList (cellG true t 5).asSp, cellG true t 6]
theorem rightL_AG (t : GV) (o : Nat) : rightL (AG t o) = rightL t := rfl
theorem okD_AG (t : GV) (o : Nat) : okD (AG t o) = okD t := rfl
theorem okW_AG (t : GV) (o : Nat) : okW (AG t o) = okW t := rfl
theorem twinD_AG (t : GV) (o : Nat) : twinD (AG t o) = twinD t := rfl
theorem stillD_AG (t d : GV) (o o' : Nat) : stillD (AG t o) (AG d o') = stillD t d := rfl
theorem gD_AG (t d : GV) (o o' : Nat) : gD (AG t o) (AG d o') = gD t d := rfl
theorem stillD_AG1 (t d : GV) (o : Nat) : stillD t (AG d o) = stillD t d := rfl
theorem gD_AG1 (t d : GV) (o : Nat) : gD t (AG d o) = gD t d := rfl
theorem rightZ_AG {t : GV} {o : Nat} {r : List GV} (h : okD t = true) (hr : rightL t = r) : rightZ [AG t o] = some r := by
  show (bif okD (AG t o) then some (rightL (AG t o)) else none) = _
  rw [okD_AG, rightL_AG, h, hr]; rfl
theorem rightZ_at {t : GV} (h : okD t = true) : rightZ [t] = some (rightL t) := by
  show (bif okD t then some (rightL t) else none) = _
  rw [h]; rfl
theorem wide_AG {t : GV} {o : Nat} (h : okW t = true) : r10Wide_s [AG t o] = some [.bool (wideB (cellG true t 4).asList (cellG true t 5).asList)] := by
  show (bif okW (AG t o) then some [GV.bool (wideB (cellG true t 4).asList (cellG true t 5).asList)] else none) = _
  rw [okW_AG, h]; rfl
theorem okT_AG (t : GV) (o : Nat) : okT (AG t o) = okT t := rfl
theorem twin_AG {t : GV} {o : Nat} (h : okT t = true) : r10TwinDialect_s [AG t o] = some [twinD t] := by
  show (bif okT (AG t o) then some [twinD (AG t o)] else none) = _
  rw [okT_AG, twinD_AG, h]; rfl
theorem twin_at {t : GV} (h : okT t = true) : r10TwinDialect_s [t] = some [twinD t] := by
  show (bif okT t then some [twinD t] else none) = _
  rw [h]; rfl
theorem still_AG {t d : GV} {o o' : Nat} (h : gD t d = true) (h2 : stillD t d = true) : r10StillDialect_s [AG t o, AG d o'] = some [.bool true] := by
  show (bif gD (AG t o) (AG d o') then some [GV.bool (stillD (AG t o) (AG d o'))] else none) = _
  rw [gD_AG, stillD_AG, h, h2]; rfl
theorem still_at {t d : GV} {o' : Nat} (h : gD t d = true) (h2 : stillD t d = true) : r10StillDialect_s [t, AG d o'] = some [.bool true] := by
  show (bif gD t (AG d o') then some [GV.bool (stillD t (AG d o'))] else none) = _
  rw [gD_AG1, stillD_AG1, h, h2]; rfl
theorem path_end {X : GV} (h : LD X) {B : List GV → List GV → List GV → List GV → Bool} (hB : B [twinD X] (rightL X) (rightL X) [.bool true] = true) :
    ((r10TwinDialect_s [X]).bind fun o10 => (rightG_s [X]).bind fun o11 => (r10Right_s [AG (nth o10 0) 2]).bind fun o12 => (r10StillDialect_s [X, AG (nth o10 0) 2]).bind fun o13 => some [GV.bool (B o10 o11 o12 o13)]) = some [GV.bool true] := by
  refine bindS (twin_at (okT_of h)) ?_
  refine bindS (rightZ_at (okD_of h)) ?_
  refine bindS (rightZ_AG (t := twinD X) (okD_of (LD_twin (okD_of h) (okT_of h))) (rightL_twin X)) ?_
  refine bindS (still_at (t := X) (d := twinD X) (still_room h).2 (still_room h).1) ?_
  exact congrArg (fun b => some [GV.bool b]) hB
theorem set_all {g e : GV} {i : Nat} (hs : g.asSp ≠ []) (hi : i < g.asList.length) : setAllL g (g.all.set i e) = g.asList.set i e ∧ setAllS g (g.all.set i e) = g.asSp := by
  have h1 : g.all.set i e = g.asList.set i e ++ g.asSp := by unfold GV.all; exact List.set_append_left _ _ hi
  rw [h1]
  unfold setAllL setAllS
  have hl : (g.asList.set i e).length = g.asList.length := List.length_set ..
  cases hsp : g.asSp with
  | nil => exact absurd hsp hs
  | cons x s =>
    exact ⟨by rw [← hl]; exact List.take_left, by rw [← hl]; exact List.drop_left⟩
theorem room_ne : room ≠ [] := by unfold room; simp
theorem roomF_ne : roomF ≠ [] := by unfold roomF; simp
theorem roomR_ne : roomR ≠ [] := by unfold roomR; simp
theorem LD_agg {a b c d m g4 g5 : GV} (h0 : a.asStr.size ≤ MS) (p4 : g4.asSp = roomF) (l4 : g4.asList.length ≤ MY) (p5 : g5.asSp = roomR) (l5 : g5.asList.length ≤ MY) (r5 : ∀ i, i < g5.asList.length → LR (nth g5.asList i)) : LD (.agg [a, b, c, d, g4, g5, m]) :=
  ⟨h0, p4, l4, p5, l5, r5⟩
/-- A list with one thing otherwise, with the room behind it. -/
abbrev setG (g : GV) (i : Nat) (e : GV) : GV := GV.list 2 g.asZ (setAllL g (g.all.set i e)) (setAllS g (g.all.set i e))
theorem LR_set {x y : GV} {k : Nat} (h : LR x) (hk : k < (cellG true x 1).asList.length) :
    LR (.agg (padSet x.asAgg 1 (.list (cellG true x 1).asOwn (cellG true x 1).asZ (setAllL (cellG true x 1) ((cellG true x 1).all.set k y)) (setAllS (cellG true x 1) ((cellG true x 1).all.set k y))))) := by
  have hsp : (cellG true x 1).asSp ≠ [] := by rw [h.1.1]; exact room_ne
  obtain ⟨e1, e2⟩ := set_all (e := y) hsp hk
  refine ⟨?_, ?_⟩
  · have : cellG true (GV.agg (padSet x.asAgg 1 (.list (cellG true x 1).asOwn (cellG true x 1).asZ (setAllL (cellG true x 1) ((cellG true x 1).all.set k y)) (setAllS (cellG true x 1) ((cellG true x 1).all.set k y))))) 1 = _ := (getD_padSet _ _ _ _).trans (if_pos rfl)
    rw [this, e1, e2]
    exact ⟨h.1.1, h.1.2.1, by show ((cellG true x 1).asList.set k y).length ≤ MX; rw [List.length_set]; exact h.1.2.2⟩
  · have : ∀ z, cellG true (GV.agg (padSet x.asAgg 1 z)) 2 = cellG true x 2 := fun z => (getD_padSet _ _ _ _).trans (if_neg (by omega))
    rw [this]; exact h.2
theorem pick_range {x : Int} {n : Nat} (h0 : -9223372036854775808 ≤ x) (h1 : x < 9223372036854775808) (hn : 0 < n) : ∃ k : Nat, k < n ∧ pickZ x (n : Nat) = (k : Nat) := by
  have key : ∀ y : Int, 0 ≤ y → ∃ k : Nat, k < n ∧ y.tmod (n : Nat) = (k : Nat) := by
    intro y hy
    refine ⟨(y.tmod (n : Nat)).toNat, ?_, ?_⟩
    · have := Int.tmod_lt_of_pos y (show (0 : Int) < (n : Nat) by omega)
      have := Int.tmod_nonneg (n : Nat) hy
      omega
    · have := Int.tmod_nonneg (n : Nat) hy
      omega
  unfold pickZ
  by_cases hx : x < 0
  · rw [cT hx, w64 (n := x + 1) (by omega) (by omega), w64 (by omega) (by omega)]
    exact key _ (by omega)
  · rw [cF hx]; exact key _ (by omega)
theorem P_set {g e : GV} {k : Nat} (hs : g.asSp ≠ []) (hk : k < g.asList.length) : (setG g k e).asSp = g.asSp := (set_all hs hk).2
theorem L_set {g e : GV} {k : Nat} (hs : g.asSp ≠ []) (hk : k < g.asList.length) : (setG g k e).asList.length = g.asList.length := by
  show (setAllL g (g.all.set k e)).length = _
  rw [(set_all hs hk).1, List.length_set]
theorem R5_set {g e : GV} {k : Nat} (hs : g.asSp ≠ []) (hk : k < g.asList.length) (he : LR e) (h : ∀ i, i < g.asList.length → LR (nth g.asList i)) : ∀ i, i < (setG g k e).asList.length → LR (nth (setG g k e).asList i) := by
  intro i hi
  rw [L_set hs hk] at hi
  show LR (nth (setAllL g (g.all.set k e)) i)
  rw [(set_all hs hk).1, nth_set _ _ _ _ hk]
  split
  · exact he
  · exact h i hi
theorem pick_t {a : GV} {n k : Nat} (h : pickZ a.asInt (n : Nat) = (k : Nat)) (hn : 0 < n) : pick_s [a, .int (n : Nat)] = some [.int (k : Nat)] := by
  show (bif !(((n : Nat) : Int) == 0) then some [GV.int (pickZ a.asInt (n : Nat))] else none) = _
  rw [show (((n : Nat) : Int) == 0) = false from beq_eq_false_iff_ne.2 (by omega), h]; rfl
theorem rng_t {n k : Nat} (h : k < n) : (inRange (k : Nat) n && true && true && true) = true := by rw [inRange_nat h]; rfl
theorem rng_o {n k : Nat} {y : GV} (h : k < n) (ho : y.asOwn = 2) : (inRange (k : Nat) n && (y.asOwn.beq 1 || y.asOwn.beq 2) && true && true) = true := by rw [inRange_nat h, ho]; rfl
-- TAIL
def inR (g : GV) : Bool := leI (-9223372036854775808) g.asInt && ltI g.asInt 9223372036854775808
def lawRights_s : List GV → Option R
  | [a0, a1, a2] => bif okD a0 && (inR a1 && inR a2) then some [.bool true] else none
  | _ => none
theorem lawRights_ok : CallsOk Tryz.prog tl 3 lawRights_sg lawRights_s := (lawRights_calls lawRights_hS 0).of fun gs outs h => by
  rcases gs with _ | ⟨a0, _ | ⟨a1, _ | ⟨a2, _ | ⟨a3, t⟩⟩⟩⟩ <;> first | (cases h; done) | skip
  obtain ⟨hb, rfl⟩ := guard_inv h
  simp only [Bool.and_eq_true, inR, leI_iff, ltI_iff] at hb
  obtain ⟨hD, ⟨l1, l2⟩, ⟨l3, l4⟩⟩ := hb
  have hW := okD_okW hD
  rw [lawRights_q 0]
  unfold lawRights_f
  refine bindS (wide_AG hW) ?_
  cases hwide : wideB (cellG true a0 4).asList (cellG true a0 5).asList with
  | true =>
    refine bindS (rightZ_AG hD rfl) ?_
    refine bindS (rightZ_AG hD rfl) ?_
    show some [GV.bool (bif _ == _ then _ == _ else false)] = _
    rw [beq_self_eq_true, beq_self_eq_true]; rfl
  | false =>
    have hTT : okT a0 = true := by
      unfold wideB at hwide
      have := anyN_false.1 hwide 0 (by omega)
      have : ¬ 10000 < wideN (cellG true a0 4).asList (cellG true a0 5).asList 0 := fun h => by rw [ltT h] at this; cases this
      have : ¬ (10000 : Int) < (((cellG true a0 4).asList.length : Nat) : Int) + (((cellG true a0 5).asList.length : Nat) : Int) := this
      unfold okT
      rw [hW, Nat.ble_eq_true_of_le (by unfold MY; omega), Nat.ble_eq_true_of_le (by unfold MY; omega)]; rfl
    refine bindS (twin_AG hTT) ?_
    have hL := LD_twin hD hTT
    have hT := still_twin hD hTT
    have hR := rightL_twin a0
    have hok := okD_of hL
    generalize twinD a0 = t at hL hT hR hok
    generalize hr : rightL a0 = r at hR
    refine bindS (rightZ_AG (t := t) hok hR) ?_
    refine bindS (rightZ_AG hD hr) ?_
    refine bindS (still_AG (t := t) hT.2 hT.1) ?_
    refine bindS (rightZ_AG (t := t) hok hR) ?_
    have g4 : (cellG true t 4).asSp ≠ [] := by rw [hL.p4]; exact roomF_ne
    have hn5 : (cellG true t 5).asSp ≠ [] := by rw [hL.p5]; exact roomR_ne
    by_cases hF : 0 < (cellG true t 4).asList.length
    · refine (cT (show (((cellG true t 4).asList.length : Nat) : Int) > 0 by omega) _ _).trans ?_
      obtain ⟨k4, hk4, he4⟩ := pick_range l1 l2 hF
      refine bindS (pick_t he4 hF) ?_
      refine (bT (rng_t hk4) _ _).trans ?_
      by_cases hM : 0 < (cellG true t 5).asList.length
      · refine (cT (show (((cellG true t 5).asList.length : Nat) : Int) > 0 by omega) _ _).trans ?_
        obtain ⟨k5, hk5, he5⟩ := pick_range l1 l2 hM
        refine bindS (pick_t he5 hM) ?_
        refine (bT (rng_t hk5) _ _).trans ?_
        have hx : LR (nth (GV.list 2 (cellG true t 5).asZ (cellG true t 5).asList (cellG true t 5).asSp).all k5) := by
          show LR (nth ((cellG true t 5).asList ++ (cellG true t 5).asSp) k5)
          rw [nth_append_left hk5]; exact hL.r5 k5 hk5
        by_cases hM2 : 0 < (cellG true (nth (GV.list 2 (cellG true t 5).asZ (cellG true t 5).asList (cellG true t 5).asSp).all k5) 1).asList.length
        · refine (cT (show (((cellG true (nth (GV.list 2 (cellG true t 5).asZ (cellG true t 5).asList (cellG true t 5).asSp).all k5) 1).asList.length : Nat) : Int) > 0 by omega) _ _).trans ?_
          obtain ⟨k1, hk1, he1⟩ := pick_range l3 l4 hM2
          refine bindS (pick_t he1 hM2) ?_
          refine (bT (rng_o hk1 hx.1.2.1) _ _).trans ?_
          refine path_end (LD_agg hL.s0 ((P_set (g := (GV.list 2 (cellG true t 4).asZ (cellG true t 4).asList (cellG true t 4).asSp)) g4 hk4).trans hL.p4) (Nat.le_trans (Nat.le_of_eq (L_set (g := (GV.list 2 (cellG true t 4).asZ (cellG true t 4).asList (cellG true t 4).asSp)) g4 hk4)) hL.l4) ((P_set (g := GV.list 2 (cellG true t 5).asZ (cellG true t 5).asList (cellG true t 5).asSp) hn5 hk5).trans hL.p5) (Nat.le_trans (Nat.le_of_eq (L_set (g := GV.list 2 (cellG true t 5).asZ (cellG true t 5).asList (cellG true t 5).asSp) hn5 hk5)) hL.l5) (R5_set (g := GV.list 2 (cellG true t 5).asZ (cellG true t 5).asList (cellG true t 5).asSp) hn5 hk5 (LR_set hx hk1) hL.r5)) ?_
          simp
        · refine (cF (show ¬ (((cellG true (nth (GV.list 2 (cellG true t 5).asZ (cellG true t 5).asList (cellG true t 5).asSp).all k5) 1).asList.length : Nat) : Int) > 0 by omega) _ _).trans ?_
          refine path_end (LD_agg hL.s0 ((P_set (g := (GV.list 2 (cellG true t 4).asZ (cellG true t 4).asList (cellG true t 4).asSp)) g4 hk4).trans hL.p4) (Nat.le_trans (Nat.le_of_eq (L_set (g := (GV.list 2 (cellG true t 4).asZ (cellG true t 4).asList (cellG true t 4).asSp)) g4 hk4)) hL.l4) hL.p5 hL.l5 hL.r5) ?_
          simp
      · refine (cF (show ¬ (((cellG true t 5).asList.length : Nat) : Int) > 0 by omega) _ _).trans ?_
        refine path_end (LD_agg hL.s0 ((P_set (g := (GV.list 2 (cellG true t 4).asZ (cellG true t 4).asList (cellG true t 4).asSp)) g4 hk4).trans hL.p4) (Nat.le_trans (Nat.le_of_eq (L_set (g := (GV.list 2 (cellG true t 4).asZ (cellG true t 4).asList (cellG true t 4).asSp)) g4 hk4)) hL.l4) hL.p5 hL.l5 hL.r5) ?_
        simp
    · refine (cF (show ¬ (((cellG true t 4).asList.length : Nat) : Int) > 0 by omega) _ _).trans ?_
      by_cases hM : 0 < (cellG true t 5).asList.length
      · refine (cT (show (((cellG true t 5).asList.length : Nat) : Int) > 0 by omega) _ _).trans ?_
        obtain ⟨k5, hk5, he5⟩ := pick_range l1 l2 hM
        refine bindS (pick_t he5 hM) ?_
        refine (bT (rng_t hk5) _ _).trans ?_
        have hx : LR (nth (GV.list 2 (cellG true t 5).asZ (cellG true t 5).asList (cellG true t 5).asSp).all k5) := by
          show LR (nth ((cellG true t 5).asList ++ (cellG true t 5).asSp) k5)
          rw [nth_append_left hk5]; exact hL.r5 k5 hk5
        by_cases hM2 : 0 < (cellG true (nth (GV.list 2 (cellG true t 5).asZ (cellG true t 5).asList (cellG true t 5).asSp).all k5) 1).asList.length
        · refine (cT (show (((cellG true (nth (GV.list 2 (cellG true t 5).asZ (cellG true t 5).asList (cellG true t 5).asSp).all k5) 1).asList.length : Nat) : Int) > 0 by omega) _ _).trans ?_
          obtain ⟨k1, hk1, he1⟩ := pick_range l3 l4 hM2
          refine bindS (pick_t he1 hM2) ?_
          refine (bT (rng_o hk1 hx.1.2.1) _ _).trans ?_
          refine path_end (LD_agg hL.s0 hL.p4 hL.l4 ((P_set (g := GV.list 2 (cellG true t 5).asZ (cellG true t 5).asList (cellG true t 5).asSp) hn5 hk5).trans hL.p5) (Nat.le_trans (Nat.le_of_eq (L_set (g := GV.list 2 (cellG true t 5).asZ (cellG true t 5).asList (cellG true t 5).asSp) hn5 hk5)) hL.l5) (R5_set (g := GV.list 2 (cellG true t 5).asZ (cellG true t 5).asList (cellG true t 5).asSp) hn5 hk5 (LR_set hx hk1) hL.r5)) ?_
          simp
        · refine (cF (show ¬ (((cellG true (nth (GV.list 2 (cellG true t 5).asZ (cellG true t 5).asList (cellG true t 5).asSp).all k5) 1).asList.length : Nat) : Int) > 0 by omega) _ _).trans ?_
          refine path_end (LD_agg hL.s0 hL.p4 hL.l4 hL.p5 hL.l5 hL.r5) ?_
          simp
      · refine (cF (show ¬ (((cellG true t 5).asList.length : Nat) : Int) > 0 by omega) _ _).trans ?_
        refine path_end (LD_agg hL.s0 hL.p4 hL.l4 hL.p5 hL.l5 hL.r5) ?_
        simp

end Go.Proofs.YtgneobkmmmpbiaaGreatDoor

/- rowRights -/
namespace Go.Proofs.YtgneobkmmmpbiaaGreatDoor
open Go Go.Proofs Go.Eng Go.RowKit
set_option linter.unusedVariables false
set_option linter.unusedSimpArgs false

open Go.ChangeShapes Go.WideShapes Go.ChangeAt Go.RowKit
theorem rown : ownKnob Tryz.prog.godebug = none := by kernel_rfl
theorem rlaid : laidOutB Tryz.prog = true := by kernel_rfl
theorem tD : ttOf tl 25 = ⟨[.str, .int .i64, .int .i64, .int .i64, .slice 34, .slice 38, .int .i64], true, 96, .struct [(0, 9), (1, 3), (2, 3), (3, 3), (4, 22), (5, 23), (6, 3)]⟩ := by kernel_rfl
theorem tF : ttOf tl 34 = ⟨[.int .i64, .int .i64, .int .i64, .int .i64, .int .i64, .int .i64], true, 48, .struct [(0, 3), (1, 3), (2, 3), (3, 3), (4, 3), (5, 3)]⟩ := by kernel_rfl
theorem tR : ttOf tl 38 = ⟨[.str, .slice 3, .slice 3], true, 64, .struct [(0, 9), (1, 36), (2, 36)]⟩ := by kernel_rfl
theorem tI : ttOf tl 3 = ⟨[.int .i64], false, 8, .int .i64⟩ := by kernel_rfl
theorem tB : ttOf tl 4 = ⟨[.bool], false, 1, .bool⟩ := by kernel_rfl
theorem len_all (g : GV) : g.asList.length ≤ g.all.length := by unfold GV.all; rw [List.length_append]; omega
theorem bd_len {e : TypeId} {g : GV} {n : Nat} (h : Bd (ttOf tl) (.slice e) g) (hb : (ttOf tl e).bytes = n) (hn : 8 ≤ n) : g.asList.length ≤ MX := by
  cases h with
  | slice h hr =>
    rw [hb] at h
    have h1 := len_all g
    have h2 : g.all.length * 8 ≤ g.all.length * n := Nat.mul_le_mul_left _ hn
    rw [reach_eq] at h
    unfold MX
    omega
theorem bd_at {e : TypeId} {g : GV} (h : Bd (ttOf tl) (.slice e) g) {i j : Nat} (hi : i < g.asList.length) (hj : j < (ttOf tl e).sz) : Bd (ttOf tl) ((ttOf tl e).ck j) (cellG (ttOf tl e).agg (nth g.asList i) j) := by
  cases h with
  | slice h hr =>
    have := hr i j (Nat.lt_of_lt_of_le hi (len_all g)) hj
    rw [nth_all hi] at this
    exact this
theorem bd_str {g : GV} (h : Bd (ttOf tl) .str g) : g.asStr.size ≤ MS := by
  cases h with
  | str h => rw [reach_eq] at h; unfold MS; omega
/-- What a dialect that is handed in may be. -/
theorem okD_bd {g : GV} (h : ∀ j, j < (ttOf tl 25).sz → Bd (ttOf tl) ((ttOf tl 25).ck j) (cellG true g j)) : okD g = true := by
  rw [tD] at h
  have h0 : Bd (ttOf tl) .str (cellG true g 0) := h 0 (by decide)
  have h4 : Bd (ttOf tl) (.slice 34) (cellG true g 4) := h 4 (by decide)
  have h5 : Bd (ttOf tl) (.slice 38) (cellG true g 5) := h 5 (by decide)
  unfold okD
  rw [okS_iff.2 (bd_str h0), okI_iff.2 (bd_len h4 (n := 48) (by rw [tF]) (by omega)), okI_iff.2 (bd_len h5 (n := 64) (by rw [tR]) (by omega)), all_okR fun i hi => ?_]
  · rfl
  · have r1 := bd_at h5 hi (j := 1) (by rw [tR]; decide)
    have r2 := bd_at h5 hi (j := 2) (by rw [tR]; decide)
    rw [tR] at r1 r2
    unfold okR
    rw [okI_iff.2 (bd_len (e := 3) r1 (n := 8) (by rw [tI]) (by omega)), okI_iff.2 (bd_len (e := 3) r2 (n := 8) (by rw [tI]) (by omega))]; rfl
theorem inR_of {n : Int} (h : inK .i64 n) : inR (.int n) = true := by
  unfold inK at h
  unfold inR
  simp [Lit.wf, IntKind.min, IntKind.max, IntKind.bits, IntKind.signed] at h
  rw [leT (by show -9223372036854775808 ≤ n; omega), ltT (by show n < 9223372036854775808; omega)]; rfl
set_option maxRecDepth 100000 in
theorem liftedRights (os : Os) (started : os.Started) (H : Type) (enc : TypeId × Value → H) :
    ReturnsInHanded {} Tryz.checked os 3 .any (fun w args => (Rows.grammarRightsSpec.pre enc Tryz.prog Tryz.f3 Rows.grammarRightsRow.domain false w args ∧ laidMetH Tryz.prog Rows.grammarRightsRow.laid w) ∧ sizedMet enc Tryz.prog Tryz.f3 (OpenSpec.ofChange Rows.grammarRightsSpec) false w args)
      (Rows.grammarRightsSpec.post enc Tryz.prog Tryz.f3 false true false false) := by
  refine returnsInHanded_of_change_and (C := Tryz.checked) (X := fun w _ => laidMetH Tryz.prog Rows.grammarRightsRow.laid w) (fun _ _ _ hh h => h.of_heap hh) rown started (by kernel_rfl) Tryz.func3
    (ChangeSpec.witness_shaped (enc := enc) (C := Tryz.checked) (os := os) (X := fun w _ => laidMetH Tryz.prog Rows.grammarRightsRow.laid w) false (World.laidAll Tryz.prog os Rows.grammarRightsRow.laid) #[.agg #[.string ⟨#[]⟩, .int .i64 0, .int .i64 0, .int .i64 0, .slice none 0 0, .slice none 0 0, .int .i64 0], .int .i64 0, .int .i64 0] 8 (World.laidAll_os _ _ _)
      (World.shaped_of_ZipB (by kernel_rfl) (by kernel_rfl)) (by kernel_rfl) (by kernel_rfl) (by kernel_rfl)
      (by rw [MakeChecks.laidMetH_plain _ _ _ (by kernel_rfl)]; exact laidMet_laidAll _ (by kernel_rfl) (by kernel_rfl))) ?_
  intro W base args ds gs before hval0 hW hcnd hsz0 hL _
  have hval : ∀ (j : Nat) t v, Tryz.f3.params[j]? = some t → args[j]? = some v → Value.okWide Tryz.prog W .any base t v := hval0
  have hW' := hW
  obtain ⟨p, q, hA0, hV, rfl, hfz, hnd⟩ := hW
  have hA : DataW.TrodAll enc Tryz.prog W 0 (fun _ => true) true Tryz.f3.params.toList args.toList ds p := hA0
  rw [Tryz.params3] at hA hval
  obtain ⟨v0, vs0, d0, ds0, p0, q0, hargs, rfl, rfl, h0, s0⟩ := trodAll_cons hA
  obtain ⟨v1, vs1, d1, ds1, p1, q1, rfl, rfl, rfl, h1, s1⟩ := trodAll_cons s0
  obtain ⟨v2, vs2, d2, ds2, p2, q2, rfl, rfl, rfl, h2, s2⟩ := trodAll_cons s1
  obtain ⟨rfl, rfl, rfl⟩ := trodAll_nil s2
  obtain rfl : args = #[v0, v1, v2] := by cases args; simp_all
  obtain ⟨rfl, rfl⟩ := trodVars_none hV
  have lt0 : ∀ x ∈ p0, x.block < W.heap.size := by obtain ⟨m, hm⟩ := h0; exact DataW.trod_lt m _ _ _ hm
  have hw0 : ∀ m, m ∈ d0.weights Tryz.prog 25 → m ≤ reachBytes := fun m hm => by
    have := List.all_eq_true.1 hsz0 m (DataW.weights_mem_each (j := 0) (t := 25) (d := d0) (by rw [Tryz.params3]; rfl) rfl m hm)
    simpa using this
  obtain ⟨g0, k0, b0⟩ := tree_arg hP (t := 25) (n := 5) (by kernel_rfl) (by rw [tD]) (hval 0 25 v0 rfl rfl) h0 hw0
  obtain ⟨a1, rfl, rfl, rfl, w1⟩ := open_int Tryz.underlying3 (hval 1 3 v1 rfl rfl) h1
  obtain ⟨a2, rfl, rfl, rfl, w2⟩ := open_int Tryz.underlying3 (hval 2 3 v2 rfl rfl) h2
  have k1 : GRel (ttOf tl) W (fun b => b < W.heap.size) (.int .i64) (.int a1) (.int .i64 a1) := GRel.int (g := .int a1) w1
  have k2 : GRel (ttOf tl) W (fun b => b < W.heap.size) (.int .i64) (.int a2) (.int .i64 a2) := GRel.int (g := .int a2) w2
  have run := lawRights_ok W (fun b => b < W.heap.size) #[v0, .int .i64 a1, .int .i64 a2] [g0, .int a1, .int a2] [.bool true] (fun b h => h) rfl rfl (fun q t g v hq hg hv => by
      match q with
      | 0 =>
        obtain rfl : 25 = t := by simpa [lawRights_sg] using hq
        obtain rfl : g0 = g := by simpa using hg
        obtain rfl : v0 = v := by simpa using hv
        exact k0
      | 1 =>
        obtain rfl : 3 = t := by simpa [lawRights_sg] using hq
        obtain rfl : GV.int a1 = g := by simpa using hg
        obtain rfl : Value.int .i64 a1 = v := by simpa using hv
        unfold Eng.seen; rw [tI]; exact k1
      | 2 =>
        obtain rfl : 3 = t := by simpa [lawRights_sg] using hq
        obtain rfl : GV.int a2 = g := by simpa using hg
        obtain rfl : Value.int .i64 a2 = v := by simpa using hv
        unfold Eng.seen; rw [tI]; exact k2
      | q + 3 => simp [lawRights_sg] at hq) (by
      show (bif okD g0 && (inR (.int a1) && inR (.int a2)) then some [GV.bool true] else none) = _
      rw [okD_bd b0, inR_of w1, inR_of w2]; rfl)
  refine run.mono fun e W' he => ?_
  cases e with
  | returned v =>
    obtain ⟨bel, hres⟩ := he
    obtain ⟨vs, F', S, rfl, hsz, _, _, hall, _, _⟩ := hres.ex
    have hs1 : vs.size = 1 := hsz
    have hv0 : vs[0]? = some vs[0] := Array.getElem?_eq_getElem (by omega)
    obtain ⟨c1, c2, c3, c4⟩ := hall 0 4 [] vs[0] rfl hv0
    rw [tB] at c3 c4
    have c3 := c3 rfl
    have hx : vs[0].cells[0]? = some vs[0] := by rw [c3]; rfl
    have ho := (c4 0 vs[0] hx).1
    have hb : vs[0] = .bool true := by
      generalize vs[0] = u at ho
      have ho : Own (ttOf tl) W' F' .bool (.bool true) u (S 0 0) := ho
      generalize S 0 0 = S0 at ho
      cases ho with
      | plain h _ =>
        cases h with
        | bool => rfl
    have ht : tupled vs = .bool true := by
      unfold tupled
      rw [dif_pos hs1]; exact hb
    rw [ht]
    exact ⟨_, rfl, _, _, _, [], _, [], hW', trodAll_mk1 (shut_bool Tryz.underlying4 _), (trodAll_cons_mk (Below.trod rlaid (by kernel_rfl) (of_decide_eq_true (by kernel_rfl)) h0 bel lt0) (trodAll_cons_mk (shut_int Tryz.underlying3 w1) (trodAll_cons_mk (shut_int Tryz.underlying3 w2) trodAll_mk0))), rfl, bel.frame _, fun h => by cases h⟩
  | _ => exact he.elim
/-- GrammarRights: it returns true, and leaves what it was handed. -/
theorem grammarRights_holds : Rows.GrammarRightsSaid :=
  OpenClaim.holds_of_wide 3 Tryz.f3 rfl rfl rfl rfl rfl rfl rfl ⟨rfl, rfl, rfl, rfl, rfl⟩ rfl rfl rfl rfl rfl (by kernel_rfl) Tryz.func3 (by kernel_rfl)
    (of_decide_eq_true (by kernel_rfl)) (by unfold Func.isWrapper; first | (rw [if_pos (by decide +kernel)]; kernel_rfl) | (rw [if_neg (by decide +kernel)]; exact ⟨rfl, rfl⟩))
    (fun os started H enc _ => liftedRights os started H enc)
/-- The tied card of GrammarRights. -/
theorem grammarRights_card : Rows.GrammarRightsCardSaid :=
  Claim7.holds_tied_plain_at .later [] [.data, .pinned] true (true, "c0881d45c875598dc0d1cb7be4632a524d9ef0b5712410f9718cfee61086b9e6") true grammarRights_holds (fun _ h => by cases h) (by kernel_rfl) (fun _ h => by cases h) grammarRights_row_tie rfl ⟨rfl, rfl⟩ (by kernel_rfl) rfl
    (fun f fn hf hfn => by
      obtain rfl : f = 3 := Option.some.inj ((show Tryz.prog.funcNamed "turnstile/turnstilelaw10.GrammarRights" = some 3 by kernel_rfl).symm.trans hf) |>.symm
      obtain rfl : fn = Tryz.f3 := (Option.some.inj (Tryz.func3.symm.trans hfn)).symm
      exact ⟨by kernel_rfl, fun j t ht => by
        rw [Tryz.params3] at ht
        have hm : t ∈ [25, 3, 3] := by simpa using Array.mem_of_getElem? ht
        have hall : ([25, 3, 3].all fun u => !Tryz.prog.wantsStandIn u) = true := by kernel_rfl
        exact (show Tryz.prog.wantsStandIn t = false by simpa using List.all_eq_true.1 hall t hm)⟩)
    (by kernel_rfl)
#print axioms grammarRights_card

end Go.Proofs.YtgneobkmmmpbiaaGreatDoor
