/- GrammarRights: the law returns true and leaves what it was handed, over the row that lists unicode/utf8 tables as the text lays them; no other condition. The functions that it reaches, by their contracts. Part 2. -/
import Derived.Test.YtgneobkmmmpbiaaGreatDoorGa
import Derived.Shelf.Spec.SlicesGrow
/- len64 -/
namespace Go.Proofs.YtgneobkmmmpbiaaGreatDoor
open Go Go.Proofs Go.Eng Go.RowKit
set_option linter.unusedVariables false
set_option linter.unusedSimpArgs false

/-! len64. -/
def len64_sg : FSig := FSig.mk [169] [(3, [])] false
noncomputable def len64_c : Code := Tryz.f142.body.getD .skip
def len64_E : Env := ⟨tl, [], dirsOf [], dirsOf [], dirsOf [], killOf [], joinsOf tl []⟩
def len64_f (fuel : Nat) (a0 : GV) : Option R :=
 bif decide (a0.asInt ≥ 4294967296) then
 bif decide (shrI IntKind.u64 a0.asInt 32 ≥ 65536) then
 bif decide (shrI IntKind.u64 (shrI IntKind.u64 a0.asInt 32) 16 ≥ 256) then
 bif inRange (IntKind.u8.wrap (shrI IntKind.u64 (shrI IntKind.u64 (shrI IntKind.u64 a0.asInt 32) 16) 8)) 256 then
 some
 [GV.int
 (IntKind.i64.wrap
 (IntKind.i64.wrap (IntKind.i64.wrap (32 + 16) + 8) +
 IntKind.i64.wrap
 (bt
 (ByteArray.mk
 (([0, 1, 2, 2, 3, 3, 3, 3, 4, 4, 4, 4, 4, 4, 4, 4, 5, 5, 5, 5, 5, 5, 5, 5, 5, 5, 5, 5, 5, 5, 5, 5, 6, 6, 6, 6, 6, 6, 6, 6, 6, 6, 6, 6, 6, 6, 6, 6, 6, 6, 6, 6, 6, 6, 6, 6, 6, 6, 6, 6, 6, 6, 6, 6].append
 [7, 7, 7, 7, 7, 7, 7, 7, 7, 7, 7, 7, 7, 7, 7, 7, 7, 7, 7, 7, 7, 7, 7, 7, 7, 7, 7, 7, 7, 7, 7, 7, 7, 7, 7, 7, 7, 7, 7, 7, 7, 7, 7, 7, 7, 7, 7, 7, 7, 7, 7, 7, 7, 7, 7, 7, 7, 7, 7, 7, 7, 7, 7, 7]).append
 ([8, 8, 8, 8, 8, 8, 8, 8, 8, 8, 8, 8, 8, 8, 8, 8, 8, 8, 8, 8, 8, 8, 8, 8, 8, 8, 8, 8, 8, 8, 8, 8, 8, 8, 8, 8, 8, 8, 8, 8, 8, 8, 8, 8, 8, 8, 8, 8, 8, 8, 8, 8, 8, 8, 8, 8, 8, 8, 8, 8, 8, 8, 8, 8].append
 [8, 8, 8, 8, 8, 8, 8, 8, 8, 8, 8, 8, 8, 8, 8, 8, 8, 8, 8, 8, 8, 8, 8, 8, 8, 8, 8, 8, 8, 8, 8, 8, 8, 8, 8, 8, 8, 8, 8, 8, 8, 8, 8, 8, 8, 8, 8, 8, 8, 8, 8, 8, 8, 8, 8, 8, 8, 8, 8, 8, 8, 8, 8, 8])).toArray)
 (IntKind.u8.wrap (shrI IntKind.u64 (shrI IntKind.u64 (shrI IntKind.u64 a0.asInt 32) 16) 8)).toNat)))]
 else none
 else
 bif inRange (IntKind.u8.wrap (shrI IntKind.u64 (shrI IntKind.u64 a0.asInt 32) 16)) 256 then
 some
 [GV.int
 (IntKind.i64.wrap
 (IntKind.i64.wrap (32 + 16) +
 IntKind.i64.wrap
 (bt
 (ByteArray.mk
 (([0, 1, 2, 2, 3, 3, 3, 3, 4, 4, 4, 4, 4, 4, 4, 4, 5, 5, 5, 5, 5, 5, 5, 5, 5, 5, 5, 5, 5, 5, 5, 5, 6, 6, 6, 6, 6, 6, 6, 6, 6, 6, 6, 6, 6, 6, 6, 6, 6, 6, 6, 6, 6, 6, 6, 6, 6, 6, 6, 6, 6, 6, 6, 6].append
 [7, 7, 7, 7, 7, 7, 7, 7, 7, 7, 7, 7, 7, 7, 7, 7, 7, 7, 7, 7, 7, 7, 7, 7, 7, 7, 7, 7, 7, 7, 7, 7, 7, 7, 7, 7, 7, 7, 7, 7, 7, 7, 7, 7, 7, 7, 7, 7, 7, 7, 7, 7, 7, 7, 7, 7, 7, 7, 7, 7, 7, 7, 7, 7]).append
 ([8, 8, 8, 8, 8, 8, 8, 8, 8, 8, 8, 8, 8, 8, 8, 8, 8, 8, 8, 8, 8, 8, 8, 8, 8, 8, 8, 8, 8, 8, 8, 8, 8, 8, 8, 8, 8, 8, 8, 8, 8, 8, 8, 8, 8, 8, 8, 8, 8, 8, 8, 8, 8, 8, 8, 8, 8, 8, 8, 8, 8, 8, 8, 8].append
 [8, 8, 8, 8, 8, 8, 8, 8, 8, 8, 8, 8, 8, 8, 8, 8, 8, 8, 8, 8, 8, 8, 8, 8, 8, 8, 8, 8, 8, 8, 8, 8, 8, 8, 8, 8, 8, 8, 8, 8, 8, 8, 8, 8, 8, 8, 8, 8, 8, 8, 8, 8, 8, 8, 8, 8, 8, 8, 8, 8, 8, 8, 8, 8])).toArray)
 (IntKind.u8.wrap (shrI IntKind.u64 (shrI IntKind.u64 a0.asInt 32) 16)).toNat)))]
 else none
 else
 bif decide (shrI IntKind.u64 a0.asInt 32 ≥ 256) then
 bif inRange (IntKind.u8.wrap (shrI IntKind.u64 (shrI IntKind.u64 a0.asInt 32) 8)) 256 then
 some
 [GV.int
 (IntKind.i64.wrap
 (IntKind.i64.wrap (32 + 8) +
 IntKind.i64.wrap
 (bt
 (ByteArray.mk
 (([0, 1, 2, 2, 3, 3, 3, 3, 4, 4, 4, 4, 4, 4, 4, 4, 5, 5, 5, 5, 5, 5, 5, 5, 5, 5, 5, 5, 5, 5, 5, 5, 6, 6, 6, 6, 6, 6, 6, 6, 6, 6, 6, 6, 6, 6, 6, 6, 6, 6, 6, 6, 6, 6, 6, 6, 6, 6, 6, 6, 6, 6, 6, 6].append
 [7, 7, 7, 7, 7, 7, 7, 7, 7, 7, 7, 7, 7, 7, 7, 7, 7, 7, 7, 7, 7, 7, 7, 7, 7, 7, 7, 7, 7, 7, 7, 7, 7, 7, 7, 7, 7, 7, 7, 7, 7, 7, 7, 7, 7, 7, 7, 7, 7, 7, 7, 7, 7, 7, 7, 7, 7, 7, 7, 7, 7, 7, 7, 7]).append
 ([8, 8, 8, 8, 8, 8, 8, 8, 8, 8, 8, 8, 8, 8, 8, 8, 8, 8, 8, 8, 8, 8, 8, 8, 8, 8, 8, 8, 8, 8, 8, 8, 8, 8, 8, 8, 8, 8, 8, 8, 8, 8, 8, 8, 8, 8, 8, 8, 8, 8, 8, 8, 8, 8, 8, 8, 8, 8, 8, 8, 8, 8, 8, 8].append
 [8, 8, 8, 8, 8, 8, 8, 8, 8, 8, 8, 8, 8, 8, 8, 8, 8, 8, 8, 8, 8, 8, 8, 8, 8, 8, 8, 8, 8, 8, 8, 8, 8, 8, 8, 8, 8, 8, 8, 8, 8, 8, 8, 8, 8, 8, 8, 8, 8, 8, 8, 8, 8, 8, 8, 8, 8, 8, 8, 8, 8, 8, 8, 8])).toArray)
 (IntKind.u8.wrap (shrI IntKind.u64 (shrI IntKind.u64 a0.asInt 32) 8)).toNat)))]
 else none
 else
 bif inRange (IntKind.u8.wrap (shrI IntKind.u64 a0.asInt 32)) 256 then
 some
 [GV.int
 (IntKind.i64.wrap
 (32 +
 IntKind.i64.wrap
 (bt
 (ByteArray.mk
 (([0, 1, 2, 2, 3, 3, 3, 3, 4, 4, 4, 4, 4, 4, 4, 4, 5, 5, 5, 5, 5, 5, 5, 5, 5, 5, 5, 5, 5, 5, 5, 5, 6, 6, 6, 6, 6, 6, 6, 6, 6, 6, 6, 6, 6, 6, 6, 6, 6, 6, 6, 6, 6, 6, 6, 6, 6, 6, 6, 6, 6, 6, 6, 6].append
 [7, 7, 7, 7, 7, 7, 7, 7, 7, 7, 7, 7, 7, 7, 7, 7, 7, 7, 7, 7, 7, 7, 7, 7, 7, 7, 7, 7, 7, 7, 7, 7, 7, 7, 7, 7, 7, 7, 7, 7, 7, 7, 7, 7, 7, 7, 7, 7, 7, 7, 7, 7, 7, 7, 7, 7, 7, 7, 7, 7, 7, 7, 7, 7]).append
 ([8, 8, 8, 8, 8, 8, 8, 8, 8, 8, 8, 8, 8, 8, 8, 8, 8, 8, 8, 8, 8, 8, 8, 8, 8, 8, 8, 8, 8, 8, 8, 8, 8, 8, 8, 8, 8, 8, 8, 8, 8, 8, 8, 8, 8, 8, 8, 8, 8, 8, 8, 8, 8, 8, 8, 8, 8, 8, 8, 8, 8, 8, 8, 8].append
 [8, 8, 8, 8, 8, 8, 8, 8, 8, 8, 8, 8, 8, 8, 8, 8, 8, 8, 8, 8, 8, 8, 8, 8, 8, 8, 8, 8, 8, 8, 8, 8, 8, 8, 8, 8, 8, 8, 8, 8, 8, 8, 8, 8, 8, 8, 8, 8, 8, 8, 8, 8, 8, 8, 8, 8, 8, 8, 8, 8, 8, 8, 8, 8])).toArray)
 (IntKind.u8.wrap (shrI IntKind.u64 a0.asInt 32)).toNat)))]
 else none
else
 bif decide (a0.asInt ≥ 65536) then
 bif decide (shrI IntKind.u64 a0.asInt 16 ≥ 256) then
 bif inRange (IntKind.u8.wrap (shrI IntKind.u64 (shrI IntKind.u64 a0.asInt 16) 8)) 256 then
 some
 [GV.int
 (IntKind.i64.wrap
 (IntKind.i64.wrap (IntKind.i64.wrap (0 + 16) + 8) +
 IntKind.i64.wrap
 (bt
 (ByteArray.mk
 (([0, 1, 2, 2, 3, 3, 3, 3, 4, 4, 4, 4, 4, 4, 4, 4, 5, 5, 5, 5, 5, 5, 5, 5, 5, 5, 5, 5, 5, 5, 5, 5, 6, 6, 6, 6, 6, 6, 6, 6, 6, 6, 6, 6, 6, 6, 6, 6, 6, 6, 6, 6, 6, 6, 6, 6, 6, 6, 6, 6, 6, 6, 6, 6].append
 [7, 7, 7, 7, 7, 7, 7, 7, 7, 7, 7, 7, 7, 7, 7, 7, 7, 7, 7, 7, 7, 7, 7, 7, 7, 7, 7, 7, 7, 7, 7, 7, 7, 7, 7, 7, 7, 7, 7, 7, 7, 7, 7, 7, 7, 7, 7, 7, 7, 7, 7, 7, 7, 7, 7, 7, 7, 7, 7, 7, 7, 7, 7, 7]).append
 ([8, 8, 8, 8, 8, 8, 8, 8, 8, 8, 8, 8, 8, 8, 8, 8, 8, 8, 8, 8, 8, 8, 8, 8, 8, 8, 8, 8, 8, 8, 8, 8, 8, 8, 8, 8, 8, 8, 8, 8, 8, 8, 8, 8, 8, 8, 8, 8, 8, 8, 8, 8, 8, 8, 8, 8, 8, 8, 8, 8, 8, 8, 8, 8].append
 [8, 8, 8, 8, 8, 8, 8, 8, 8, 8, 8, 8, 8, 8, 8, 8, 8, 8, 8, 8, 8, 8, 8, 8, 8, 8, 8, 8, 8, 8, 8, 8, 8, 8, 8, 8, 8, 8, 8, 8, 8, 8, 8, 8, 8, 8, 8, 8, 8, 8, 8, 8, 8, 8, 8, 8, 8, 8, 8, 8, 8, 8, 8, 8])).toArray)
 (IntKind.u8.wrap (shrI IntKind.u64 (shrI IntKind.u64 a0.asInt 16) 8)).toNat)))]
 else none
 else
 bif inRange (IntKind.u8.wrap (shrI IntKind.u64 a0.asInt 16)) 256 then
 some
 [GV.int
 (IntKind.i64.wrap
 (IntKind.i64.wrap (0 + 16) +
 IntKind.i64.wrap
 (bt
 (ByteArray.mk
 (([0, 1, 2, 2, 3, 3, 3, 3, 4, 4, 4, 4, 4, 4, 4, 4, 5, 5, 5, 5, 5, 5, 5, 5, 5, 5, 5, 5, 5, 5, 5, 5, 6, 6, 6, 6, 6, 6, 6, 6, 6, 6, 6, 6, 6, 6, 6, 6, 6, 6, 6, 6, 6, 6, 6, 6, 6, 6, 6, 6, 6, 6, 6, 6].append
 [7, 7, 7, 7, 7, 7, 7, 7, 7, 7, 7, 7, 7, 7, 7, 7, 7, 7, 7, 7, 7, 7, 7, 7, 7, 7, 7, 7, 7, 7, 7, 7, 7, 7, 7, 7, 7, 7, 7, 7, 7, 7, 7, 7, 7, 7, 7, 7, 7, 7, 7, 7, 7, 7, 7, 7, 7, 7, 7, 7, 7, 7, 7, 7]).append
 ([8, 8, 8, 8, 8, 8, 8, 8, 8, 8, 8, 8, 8, 8, 8, 8, 8, 8, 8, 8, 8, 8, 8, 8, 8, 8, 8, 8, 8, 8, 8, 8, 8, 8, 8, 8, 8, 8, 8, 8, 8, 8, 8, 8, 8, 8, 8, 8, 8, 8, 8, 8, 8, 8, 8, 8, 8, 8, 8, 8, 8, 8, 8, 8].append
 [8, 8, 8, 8, 8, 8, 8, 8, 8, 8, 8, 8, 8, 8, 8, 8, 8, 8, 8, 8, 8, 8, 8, 8, 8, 8, 8, 8, 8, 8, 8, 8, 8, 8, 8, 8, 8, 8, 8, 8, 8, 8, 8, 8, 8, 8, 8, 8, 8, 8, 8, 8, 8, 8, 8, 8, 8, 8, 8, 8, 8, 8, 8, 8])).toArray)
 (IntKind.u8.wrap (shrI IntKind.u64 a0.asInt 16)).toNat)))]
 else none
 else
 bif decide (a0.asInt ≥ 256) then
 bif inRange (IntKind.u8.wrap (shrI IntKind.u64 a0.asInt 8)) 256 then
 some
 [GV.int
 (IntKind.i64.wrap
 (IntKind.i64.wrap (0 + 8) +
 IntKind.i64.wrap
 (bt
 (ByteArray.mk
 (([0, 1, 2, 2, 3, 3, 3, 3, 4, 4, 4, 4, 4, 4, 4, 4, 5, 5, 5, 5, 5, 5, 5, 5, 5, 5, 5, 5, 5, 5, 5, 5, 6, 6, 6, 6, 6, 6, 6, 6, 6, 6, 6, 6, 6, 6, 6, 6, 6, 6, 6, 6, 6, 6, 6, 6, 6, 6, 6, 6, 6, 6, 6, 6].append
 [7, 7, 7, 7, 7, 7, 7, 7, 7, 7, 7, 7, 7, 7, 7, 7, 7, 7, 7, 7, 7, 7, 7, 7, 7, 7, 7, 7, 7, 7, 7, 7, 7, 7, 7, 7, 7, 7, 7, 7, 7, 7, 7, 7, 7, 7, 7, 7, 7, 7, 7, 7, 7, 7, 7, 7, 7, 7, 7, 7, 7, 7, 7, 7]).append
 ([8, 8, 8, 8, 8, 8, 8, 8, 8, 8, 8, 8, 8, 8, 8, 8, 8, 8, 8, 8, 8, 8, 8, 8, 8, 8, 8, 8, 8, 8, 8, 8, 8, 8, 8, 8, 8, 8, 8, 8, 8, 8, 8, 8, 8, 8, 8, 8, 8, 8, 8, 8, 8, 8, 8, 8, 8, 8, 8, 8, 8, 8, 8, 8].append
 [8, 8, 8, 8, 8, 8, 8, 8, 8, 8, 8, 8, 8, 8, 8, 8, 8, 8, 8, 8, 8, 8, 8, 8, 8, 8, 8, 8, 8, 8, 8, 8, 8, 8, 8, 8, 8, 8, 8, 8, 8, 8, 8, 8, 8, 8, 8, 8, 8, 8, 8, 8, 8, 8, 8, 8, 8, 8, 8, 8, 8, 8, 8, 8])).toArray)
 (IntKind.u8.wrap (shrI IntKind.u64 a0.asInt 8)).toNat)))]
 else none
 else
 bif inRange (IntKind.u8.wrap a0.asInt) 256 then
 some
 [GV.int
 (IntKind.i64.wrap
 (0 +
 IntKind.i64.wrap
 (bt
 (ByteArray.mk
 (([0, 1, 2, 2, 3, 3, 3, 3, 4, 4, 4, 4, 4, 4, 4, 4, 5, 5, 5, 5, 5, 5, 5, 5, 5, 5, 5, 5, 5, 5, 5, 5, 6, 6, 6, 6, 6, 6, 6, 6, 6, 6, 6, 6, 6, 6, 6, 6, 6, 6, 6, 6, 6, 6, 6, 6, 6, 6, 6, 6, 6, 6, 6, 6].append
 [7, 7, 7, 7, 7, 7, 7, 7, 7, 7, 7, 7, 7, 7, 7, 7, 7, 7, 7, 7, 7, 7, 7, 7, 7, 7, 7, 7, 7, 7, 7, 7, 7, 7, 7, 7, 7, 7, 7, 7, 7, 7, 7, 7, 7, 7, 7, 7, 7, 7, 7, 7, 7, 7, 7, 7, 7, 7, 7, 7, 7, 7, 7, 7]).append
 ([8, 8, 8, 8, 8, 8, 8, 8, 8, 8, 8, 8, 8, 8, 8, 8, 8, 8, 8, 8, 8, 8, 8, 8, 8, 8, 8, 8, 8, 8, 8, 8, 8, 8, 8, 8, 8, 8, 8, 8, 8, 8, 8, 8, 8, 8, 8, 8, 8, 8, 8, 8, 8, 8, 8, 8, 8, 8, 8, 8, 8, 8, 8, 8].append
 [8, 8, 8, 8, 8, 8, 8, 8, 8, 8, 8, 8, 8, 8, 8, 8, 8, 8, 8, 8, 8, 8, 8, 8, 8, 8, 8, 8, 8, 8, 8, 8, 8, 8, 8, 8, 8, 8, 8, 8, 8, 8, 8, 8, 8, 8, 8, 8, 8, 8, 8, 8, 8, 8, 8, 8, 8, 8, 8, 8, 8, 8, 8, 8])).toArray)
 (IntKind.u8.wrap a0.asInt).toNat)))]
 else none
theorem len64_q (fuel : Nat) (a0 : GV) : gexec len64_E (LZ) Tryz.f142.ntmps Tryz.f142.results.toList len64_sg len64_c [a0] = len64_f fuel a0 := by kernel_rfl
theorem len64_calls (hS : SpecsOk Tryz.prog tl len64_E.sp) (fuel : Nat) : CallsOk Tryz.prog tl 142 len64_sg (gexec len64_E (LZ) Tryz.f142.ntmps Tryz.f142.results.toList len64_sg len64_c) :=
  gexec_calls (E := len64_E) hP hS Tryz.func142 (by kernel_rfl) (by kernel_rfl) (fun W => LZ_ok)
theorem len64_hS : SpecsOk Tryz.prog tl len64_E.sp := specs_nil
def len64_s : List GV → Option R
  | [a0] => len64_f 0 a0
  | _ => none
theorem len64_ok : CallsOk Tryz.prog tl 142 len64_sg len64_s := (len64_calls len64_hS 0).of fun gs outs h => by
  rcases gs with _ | ⟨a0, _ | ⟨a1, t⟩⟩ <;> first | (cases h; done) | skip
  rw [len64_q 0]; exact h

end Go.Proofs.YtgneobkmmmpbiaaGreatDoor

/- len -/
namespace Go.Proofs.YtgneobkmmmpbiaaGreatDoor
open Go Go.Proofs Go.Eng Go.RowKit
set_option linter.unusedVariables false
set_option linter.unusedSimpArgs false

/-! len. -/
def len_sg : FSig := FSig.mk [135] [(3, [])] false
noncomputable def len_c : Code := Tryz.f105.body.getD .skip
def len_E : Env := ⟨tl, [(142, len64_sg, len64_s)], dirsOf [], dirsOf [], dirsOf [], killOf [], joinsOf tl []⟩
def len_f (fuel : Nat) (a0 : GV) : Option R :=
 (len64_s [a0]).bind fun o0 => some [nth o0 0]
theorem len_q (fuel : Nat) (a0 : GV) : gexec len_E (LZ) Tryz.f105.ntmps Tryz.f105.results.toList len_sg len_c [a0] = len_f fuel a0 := by kernel_rfl
theorem len_calls (hS : SpecsOk Tryz.prog tl len_E.sp) (fuel : Nat) : CallsOk Tryz.prog tl 105 len_sg (gexec len_E (LZ) Tryz.f105.ntmps Tryz.f105.results.toList len_sg len_c) :=
  gexec_calls (E := len_E) hP hS Tryz.func105 (by kernel_rfl) (by kernel_rfl) (fun W => LZ_ok)
theorem len_hS : SpecsOk Tryz.prog tl len_E.sp := (specs_cons specs_nil len64_ok Tryz.call142)
def len_s : List GV → Option R
  | [a0] => len_f 0 a0
  | _ => none
theorem len_ok : CallsOk Tryz.prog tl 105 len_sg len_s := (len_calls len_hS 0).of fun gs outs h => by
  rcases gs with _ | ⟨a0, _ | ⟨a1, t⟩⟩ <;> first | (cases h; done) | skip
  rw [len_q 0]; exact h

end Go.Proofs.YtgneobkmmmpbiaaGreatDoor

/- insertionSortOrdered -/
namespace Go.Proofs.YtgneobkmmmpbiaaGreatDoor
open Go Go.Proofs Go.Eng Go.RowKit
set_option linter.unusedVariables false
set_option linter.unusedSimpArgs false

/-! insertionSortOrdered. -/
def insertionSortOrdered_sg : FSig := FSig.mk [36, 3, 3] [] false
noncomputable def insertionSortOrdered_c : Code := Tryz.f132.body.getD .skip
def insertionSortOrdered_E : Env := ⟨tl, [], dirsOf [], dirsOf [(0, [Dir.only [], Dir.sort [], Dir.keep [0, 1, 2, 6]]), (1, [Dir.only [], Dir.sort [], Dir.keep [0, 1, 2, 6, 7]])], dirsOf [(0, [Dir.only [], Dir.sort [], Dir.keep []]), (1, [])], killOf [], joinsOf tl []⟩
def insertionSortOrdered_sh1 : Shp := Shp.mk 49
 [(0, ASh.one (SSh.s (CK.slice 3))), (1, ASh.one (SSh.s (CK.int IntKind.i64))), (2, ASh.one (SSh.s (CK.int IntKind.i64))),
 (6, ASh.one (SSh.s (CK.int IntKind.i64))), (7, ASh.one (SSh.s (CK.int IntKind.i64)))]
 []
def insertionSortOrdered_xs1 : Outs := []
def insertionSortOrdered_b1 {β : Type} (fuel : Nat) (g0 g1 g2 g3 g4 : GV) (kn : List GV → Option β) (kx : Nat → List GV → Option β) : Option β :=
 bif inRange g4.asInt g0.asList.length || !decide (g4.asInt > g1.asInt) then bif inRange (IntKind.i64.wrap (g4.asInt - 1)) g0.asList.length || !decide (g4.asInt > g1.asInt) then none else none else none
def insertionSortOrdered_e1 (fuel : Nat) : LEnt := ⟨1, insertionSortOrdered_sh1, insertionSortOrdered_xs1, fun gs kn kx => insertionSortOrdered_b1 fuel (nth gs 0) (nth gs 1) (nth gs 2) (nth gs 3) (nth gs 4) kn kx⟩
def insertionSortOrdered_l1 (fuel : Nat) (gs : List GV) : Option (Nat × List GV) := loopR (insertionSortOrdered_e1 fuel).step fuel gs
theorem insertionSortOrdered_t1 {β : Type} (fuel : Nat) (g0 g1 g2 g3 g4 : GV) (kn : List GV → Option β) (kx : Nat → List GV → Option β) : (insertionSortOrdered_e1 fuel).step [g0, g1, g2, g3, g4] kn kx = insertionSortOrdered_b1 fuel g0 g1 g2 g3 g4 kn kx := rfl
theorem insertionSortOrdered_k1 (fuel : Nat) : StepOk insertionSortOrdered_E insertionSortOrdered_c (LZ) (insertionSortOrdered_e1 fuel) :=
  ⟨by kernel_rfl, fun gs kn kx => by kernel_rfl, fun f gs kn kx => by simp only [insertionSortOrdered_e1, insertionSortOrdered_b1, bind_cond, Option.bind_assoc, Option.bind_none]⟩
def insertionSortOrdered_sh0 : Shp := Shp.mk 49
 [(0, ASh.one (SSh.s (CK.slice 3))), (1, ASh.one (SSh.s (CK.int IntKind.i64))), (2, ASh.one (SSh.s (CK.int IntKind.i64))),
 (6, ASh.one (SSh.s (CK.int IntKind.i64)))]
 []
def insertionSortOrdered_xs0 : Outs := [(Ex.exit 0, Shp.mk 49 [] [])]
def insertionSortOrdered_b0 {β : Type} (fuel : Nat) (g0 g1 g2 g3 : GV) (kn : List GV → Option β) (kx : Nat → List GV → Option β) : Option β :=
 bif decide (g3.asInt < g2.asInt) then (insertionSortOrdered_l1 fuel [g0, g1, g2, g3, g3]).bind fun r0 => none else kx 0 []
def insertionSortOrdered_e0 (fuel : Nat) : LEnt := ⟨0, insertionSortOrdered_sh0, insertionSortOrdered_xs0, fun gs kn kx => insertionSortOrdered_b0 fuel (nth gs 0) (nth gs 1) (nth gs 2) (nth gs 3) kn kx⟩
def insertionSortOrdered_l0 (fuel : Nat) (gs : List GV) : Option (Nat × List GV) := loopR (insertionSortOrdered_e0 fuel).step fuel gs
theorem insertionSortOrdered_t0 {β : Type} (fuel : Nat) (g0 g1 g2 g3 : GV) (kn : List GV → Option β) (kx : Nat → List GV → Option β) : (insertionSortOrdered_e0 fuel).step [g0, g1, g2, g3] kn kx = insertionSortOrdered_b0 fuel g0 g1 g2 g3 kn kx := rfl
theorem insertionSortOrdered_k0 (fuel : Nat) : StepOk insertionSortOrdered_E insertionSortOrdered_c (LSc (insertionSortOrdered_e1 fuel) fuel (LZ)) (insertionSortOrdered_e0 fuel) :=
  ⟨by kernel_rfl, fun gs kn kx => by kernel_rfl, fun f gs kn kx => by simp only [insertionSortOrdered_e0, insertionSortOrdered_b0, bind_cond, Option.bind_assoc, Option.bind_none]⟩
def insertionSortOrdered_f (fuel : Nat) (a0 a1 a2 : GV) : Option R :=
 (insertionSortOrdered_l0 fuel [a0, a1, a2, GV.int (IntKind.i64.wrap (a1.asInt + 1))]).bind fun r1 => some []
theorem insertionSortOrdered_q (fuel : Nat) (a0 a1 a2 : GV) : gexec insertionSortOrdered_E (LSc (insertionSortOrdered_e0 fuel) fuel (LSc (insertionSortOrdered_e1 fuel) fuel (LZ))) Tryz.f132.ntmps Tryz.f132.results.toList insertionSortOrdered_sg insertionSortOrdered_c [a0, a1, a2] = insertionSortOrdered_f fuel a0 a1 a2 := by kernel_rfl
theorem insertionSortOrdered_calls (hS : SpecsOk Tryz.prog tl insertionSortOrdered_E.sp) (fuel : Nat) : CallsOk Tryz.prog tl 132 insertionSortOrdered_sg (gexec insertionSortOrdered_E (LSc (insertionSortOrdered_e0 fuel) fuel (LSc (insertionSortOrdered_e1 fuel) fuel (LZ))) Tryz.f132.ntmps Tryz.f132.results.toList insertionSortOrdered_sg insertionSortOrdered_c) :=
  gexec_calls (E := insertionSortOrdered_E) hP hS Tryz.func132 (by kernel_rfl) (by kernel_rfl) (fun W => LSc_ok hP hS (LSc_ok hP hS (LZ_ok) (insertionSortOrdered_k1 fuel) fuel) (insertionSortOrdered_k0 fuel) fuel)
theorem insertionSortOrdered_hS : SpecsOk Tryz.prog tl insertionSortOrdered_E.sp := specs_nil
def insertionSortOrdered_s : List GV → Option R
  | [a0, a1, a2] => insertionSortOrdered_f 2 a0 a1 a2
  | _ => none
theorem insertionSortOrdered_ok : CallsOk Tryz.prog tl 132 insertionSortOrdered_sg insertionSortOrdered_s := (insertionSortOrdered_calls insertionSortOrdered_hS 2).of fun gs outs h => by
  rcases gs with _ | ⟨a0, _ | ⟨a1, _ | ⟨a2, _ | ⟨a3, t⟩⟩⟩⟩ <;> first | (cases h; done) | skip
  rw [insertionSortOrdered_q 2]; exact h

end Go.Proofs.YtgneobkmmmpbiaaGreatDoor

/- pdqsortOrdered -/
namespace Go.Proofs.YtgneobkmmmpbiaaGreatDoor
open Go Go.Proofs Go.Eng Go.RowKit
set_option linter.unusedVariables false
set_option linter.unusedSimpArgs false

/-! pdqsortOrdered. -/
def pdqsortOrdered_sg : FSig := FSig.mk [36, 3, 3, 3] [] false
noncomputable def pdqsortOrdered_c : Code := Tryz.f104.body.getD .skip
def pdqsortOrdered_E : Env := ⟨tl, [(132, insertionSortOrdered_sg, insertionSortOrdered_s)], dirsOf [], dirsOf [(0, [Dir.only [], Dir.sort [], Dir.keep [0, 1, 2, 3, 8, 9]])], dirsOf [(0, [Dir.only [], Dir.sort [], Dir.keep []])], killOf [], joinsOf tl []⟩
def pdqsortOrdered_sh0 : Shp := Shp.mk 134
 [(0, ASh.one (SSh.s (CK.slice 3))), (1, ASh.one (SSh.s (CK.int IntKind.i64))), (2, ASh.one (SSh.s (CK.int IntKind.i64))),
 (3, ASh.one (SSh.s (CK.int IntKind.i64))), (8, ASh.one (SSh.s CK.bool)), (9, ASh.one (SSh.s CK.bool))]
 []
def pdqsortOrdered_xs0 : Outs := [(Ex.ret, Shp.mk 134 [] [])]
def pdqsortOrdered_b0 {β : Type} (fuel : Nat) (g0 g1 g2 g3 g4 g5 : GV) (kn : List GV → Option β) (kx : Nat → List GV → Option β) : Option β :=
 bif decide (IntKind.i64.wrap (g2.asInt - g1.asInt) ≤ 12) then (insertionSortOrdered_s [g0, g1, g2]).bind fun o0 => kx 0 [] else bif g3.asInt == 0 then none else bif !g4.asBool then none else none
def pdqsortOrdered_e0 (fuel : Nat) : LEnt := ⟨0, pdqsortOrdered_sh0, pdqsortOrdered_xs0, fun gs kn kx => pdqsortOrdered_b0 fuel (nth gs 0) (nth gs 1) (nth gs 2) (nth gs 3) (nth gs 4) (nth gs 5) kn kx⟩
def pdqsortOrdered_l0 (fuel : Nat) (gs : List GV) : Option (Nat × List GV) := loopR (pdqsortOrdered_e0 fuel).step fuel gs
theorem pdqsortOrdered_t0 {β : Type} (fuel : Nat) (g0 g1 g2 g3 g4 g5 : GV) (kn : List GV → Option β) (kx : Nat → List GV → Option β) : (pdqsortOrdered_e0 fuel).step [g0, g1, g2, g3, g4, g5] kn kx = pdqsortOrdered_b0 fuel g0 g1 g2 g3 g4 g5 kn kx := rfl
theorem pdqsortOrdered_k0 (fuel : Nat) : StepOk pdqsortOrdered_E pdqsortOrdered_c (LZ) (pdqsortOrdered_e0 fuel) :=
  ⟨by kernel_rfl, fun gs kn kx => by kernel_rfl, fun f gs kn kx => by simp only [pdqsortOrdered_e0, pdqsortOrdered_b0, bind_cond, Option.bind_assoc, Option.bind_none]⟩
def pdqsortOrdered_f (fuel : Nat) (a0 a1 a2 a3 : GV) : Option R :=
 (pdqsortOrdered_l0 fuel [a0, a1, a2, a3, GV.bool true, GV.bool true]).bind fun r1 => some []
theorem pdqsortOrdered_q (fuel : Nat) (a0 a1 a2 a3 : GV) : gexec pdqsortOrdered_E (LSc (pdqsortOrdered_e0 fuel) fuel (LZ)) Tryz.f104.ntmps Tryz.f104.results.toList pdqsortOrdered_sg pdqsortOrdered_c [a0, a1, a2, a3] = pdqsortOrdered_f fuel a0 a1 a2 a3 := by kernel_rfl
theorem pdqsortOrdered_calls (hS : SpecsOk Tryz.prog tl pdqsortOrdered_E.sp) (fuel : Nat) : CallsOk Tryz.prog tl 104 pdqsortOrdered_sg (gexec pdqsortOrdered_E (LSc (pdqsortOrdered_e0 fuel) fuel (LZ)) Tryz.f104.ntmps Tryz.f104.results.toList pdqsortOrdered_sg pdqsortOrdered_c) :=
  gexec_calls (E := pdqsortOrdered_E) hP hS Tryz.func104 (by kernel_rfl) (by kernel_rfl) (fun W => LSc_ok hP hS (LZ_ok) (pdqsortOrdered_k0 fuel) fuel)
theorem pdqsortOrdered_hS : SpecsOk Tryz.prog tl pdqsortOrdered_E.sp := (specs_cons specs_nil insertionSortOrdered_ok Tryz.call132)
def pdqsortOrdered_s : List GV → Option R
  | [a0, a1, a2, a3] => pdqsortOrdered_f 2 a0 a1 a2 a3
  | _ => none
theorem pdqsortOrdered_ok : CallsOk Tryz.prog tl 104 pdqsortOrdered_sg pdqsortOrdered_s := (pdqsortOrdered_calls pdqsortOrdered_hS 2).of fun gs outs h => by
  rcases gs with _ | ⟨a0, _ | ⟨a1, _ | ⟨a2, _ | ⟨a3, _ | ⟨a4, t⟩⟩⟩⟩⟩ <;> first | (cases h; done) | skip
  rw [pdqsortOrdered_q 2]; exact h

end Go.Proofs.YtgneobkmmmpbiaaGreatDoor

/- sort -/
namespace Go.Proofs.YtgneobkmmmpbiaaGreatDoor
open Go Go.Proofs Go.Eng Go.RowKit
set_option linter.unusedVariables false
set_option linter.unusedSimpArgs false

/-! sort. -/
def sort_sg : FSig := FSig.mk [36] [] false
noncomputable def sort_c : Code := Tryz.f70.body.getD .skip
def sort_E : Env := ⟨tl, [(105, len_sg, len_s), (104, pdqsortOrdered_sg, pdqsortOrdered_s)], dirsOf [], dirsOf [], dirsOf [], killOf [], joinsOf tl []⟩
def sort_f (fuel : Nat) (a0 : GV) : Option R :=
 (len_s [GV.int (IntKind.u64.wrap (↑a0.asList.length : Int))]).bind fun o0 =>
 (pdqsortOrdered_s [a0, GV.int 0, GV.int (↑a0.asList.length : Int), nth o0 0]).bind fun o1 => some []
theorem sort_q (fuel : Nat) (a0 : GV) : gexec sort_E (LZ) Tryz.f70.ntmps Tryz.f70.results.toList sort_sg sort_c [a0] = sort_f fuel a0 := by kernel_rfl
theorem sort_calls (hS : SpecsOk Tryz.prog tl sort_E.sp) (fuel : Nat) : CallsOk Tryz.prog tl 70 sort_sg (gexec sort_E (LZ) Tryz.f70.ntmps Tryz.f70.results.toList sort_sg sort_c) :=
  gexec_calls (E := sort_E) hP hS Tryz.func70 (by kernel_rfl) (by kernel_rfl) (fun W => LZ_ok)
theorem sort_hS : SpecsOk Tryz.prog tl sort_E.sp := (specs_cons (specs_cons specs_nil pdqsortOrdered_ok Tryz.call104) len_ok Tryz.call105)
def sort_s : List GV → Option R
  | [a0] => sort_f 2 a0
  | _ => none
theorem sort_ok : CallsOk Tryz.prog tl 70 sort_sg sort_s := (sort_calls sort_hS 2).of fun gs outs h => by
  rcases gs with _ | ⟨a0, _ | ⟨a1, t⟩⟩ <;> first | (cases h; done) | skip
  rw [sort_q 2]; exact h

end Go.Proofs.YtgneobkmmmpbiaaGreatDoor

/- compact -/
namespace Go.Proofs.YtgneobkmmmpbiaaGreatDoor
open Go Go.Proofs Go.Eng Go.RowKit
set_option linter.unusedVariables false
set_option linter.unusedSimpArgs false

/-! compact. -/
def compact_sg : FSig := FSig.mk [36] [(36, [0])] true
noncomputable def compact_c : Code := Tryz.f71.body.getD .skip
def compact_E : Env := ⟨tl, [], dirsOf [], dirsOf [(0, [Dir.only [], Dir.sort [], Dir.keep [0, 3]]), (1, [Dir.only [], Dir.sort [], Dir.keep [0, 3, 4, 5]])], dirsOf [(0, [Dir.only [], Dir.sort [], Dir.keep [0]]), (1, [Dir.only [], Dir.sort [], Dir.keep [0, 3]])], killOf [], joinsOf tl []⟩
def compact_sh1 : Shp := Shp.mk 61
 [(0, ASh.one (SSh.s (CK.slice 3))), (3, ASh.one (SSh.s (CK.int IntKind.i64))), (4, ASh.one (SSh.s (CK.slice 3))),
 (5, ASh.one (SSh.s (CK.int IntKind.i64)))]
 []
def compact_xs1 : Outs := [(Ex.exit 2, Shp.mk 61 [(0, ASh.one (SSh.s (CK.slice 3))), (3, ASh.one (SSh.s (CK.int IntKind.i64)))] [])]
def compact_b1 {β : Type} (fuel : Nat) (g0 g1 g2 g3 : GV) (kn : List GV → Option β) (kx : Nat → List GV → Option β) : Option β :=
 bif decide (g3.asInt < (↑g2.asList.length : Int)) then
 bif inRange g3.asInt g2.asList.length then
 bif inRange (IntKind.i64.wrap (g3.asInt - 1)) g2.asList.length then
 bif (nth g2.all g3.asInt.toNat).asInt != (nth g2.all (IntKind.i64.wrap (g3.asInt - 1)).toNat).asInt then
 bif inRange g3.asInt g2.asList.length then bif inRange g1.asInt g0.asList.length then none else none else none
 else kn [g0, g1, g2, GV.int (IntKind.i64.wrap (g3.asInt + 1))]
 else none
 else none
else kx 0 [g0, g1]
def compact_e1 (fuel : Nat) : LEnt := ⟨1, compact_sh1, compact_xs1, fun gs kn kx => compact_b1 fuel (nth gs 0) (nth gs 1) (nth gs 2) (nth gs 3) kn kx⟩
def compact_l1 (fuel : Nat) (gs : List GV) : Option (Nat × List GV) := loopR (compact_e1 fuel).step fuel gs
theorem compact_t1 {β : Type} (fuel : Nat) (g0 g1 g2 g3 : GV) (kn : List GV → Option β) (kx : Nat → List GV → Option β) : (compact_e1 fuel).step [g0, g1, g2, g3] kn kx = compact_b1 fuel g0 g1 g2 g3 kn kx := rfl
theorem compact_k1 (fuel : Nat) : StepOk compact_E compact_c (LZ) (compact_e1 fuel) :=
  ⟨by kernel_rfl, fun gs kn kx => by kernel_rfl, fun f gs kn kx => by simp only [compact_e1, compact_b1, bind_cond, Option.bind_assoc, Option.bind_none]⟩
def compact_sh0 : Shp := Shp.mk 61 [(0, ASh.one (SSh.s (CK.slice 3))), (3, ASh.one (SSh.s (CK.int IntKind.i64)))] []
def compact_xs0 : Outs := [(Ex.exit 0, Shp.mk 61 [(0, ASh.one (SSh.s (CK.slice 3)))] [])]
def compact_b0 {β : Type} (fuel : Nat) (g0 g1 : GV) (kn : List GV → Option β) (kx : Nat → List GV → Option β) : Option β :=
 bif decide (g1.asInt < (↑g0.asList.length : Int)) then
 bif inRange g1.asInt g0.asList.length then
 bif inRange (IntKind.i64.wrap (g1.asInt - 1)) g0.asList.length then
 bif (nth g0.all g1.asInt.toNat).asInt == (nth g0.all (IntKind.i64.wrap (g1.asInt - 1)).toNat).asInt then
 bif (inRange g1.asInt (g0.asList.length + 1), g1.asInt.toNat, g0.asList.length).fst then
 (compact_l1 fuel
 [g0, g1,
 GV.list 0 false
 (List.drop (inRange g1.asInt (g0.asList.length + 1), g1.asInt.toNat, g0.asList.length).snd.fst (List.take (inRange g1.asInt (g0.asList.length + 1), g1.asInt.toNat, g0.asList.length).snd.snd g0.asList)) [],
 GV.int 1]).bind
 fun r0 => bif (inRange (nth r0.snd 1).asInt ((nth r0.snd 0).asList.length + 1), (nth r0.snd 1).asInt.toNat, (nth r0.snd 0).asList.length).fst then none else none
 else none
 else kn [g0, GV.int (IntKind.i64.wrap (g1.asInt + 1))]
 else none
 else none
else kx 0 [g0]
def compact_e0 (fuel : Nat) : LEnt := ⟨0, compact_sh0, compact_xs0, fun gs kn kx => compact_b0 fuel (nth gs 0) (nth gs 1) kn kx⟩
def compact_l0 (fuel : Nat) (gs : List GV) : Option (Nat × List GV) := loopR (compact_e0 fuel).step fuel gs
theorem compact_t0 {β : Type} (fuel : Nat) (g0 g1 : GV) (kn : List GV → Option β) (kx : Nat → List GV → Option β) : (compact_e0 fuel).step [g0, g1] kn kx = compact_b0 fuel g0 g1 kn kx := rfl
theorem compact_k0 (fuel : Nat) : StepOk compact_E compact_c (LSc (compact_e1 fuel) fuel (LZ)) (compact_e0 fuel) :=
  ⟨by kernel_rfl, fun gs kn kx => by kernel_rfl, fun f gs kn kx => by simp only [compact_e0, compact_b0, bind_cond, Option.bind_assoc, Option.bind_none]⟩
def compact_f (fuel : Nat) (a0 : GV) : Option R :=
 bif decide ((↑a0.asList.length : Int) < 2) then some [GV.list 0 a0.asZ a0.asList a0.asSp]
else (compact_l0 fuel [a0, GV.int 1]).bind fun r1 => some [GV.list 0 (nth r1.snd 0).asZ (nth r1.snd 0).asList (nth r1.snd 0).asSp]
theorem compact_q (fuel : Nat) (a0 : GV) : gexec compact_E (LSc (compact_e0 fuel) fuel (LSc (compact_e1 fuel) fuel (LZ))) Tryz.f71.ntmps Tryz.f71.results.toList compact_sg compact_c [a0] = compact_f fuel a0 := by kernel_rfl
theorem compact_calls (hS : SpecsOk Tryz.prog tl compact_E.sp) (fuel : Nat) : CallsOk Tryz.prog tl 71 compact_sg (gexec compact_E (LSc (compact_e0 fuel) fuel (LSc (compact_e1 fuel) fuel (LZ))) Tryz.f71.ntmps Tryz.f71.results.toList compact_sg compact_c) :=
  gexec_calls (E := compact_E) hP hS Tryz.func71 (by kernel_rfl) (by kernel_rfl) (fun W => LSc_ok hP hS (LSc_ok hP hS (LZ_ok) (compact_k1 fuel) fuel) (compact_k0 fuel) fuel)
theorem compact_hS : SpecsOk Tryz.prog tl compact_E.sp := specs_nil
def compact_s : List GV → Option R
  | [a0] => compact_f 2 a0
  | _ => none
theorem compact_ok : CallsOk Tryz.prog tl 71 compact_sg compact_s := (compact_calls compact_hS 2).of fun gs outs h => by
  rcases gs with _ | ⟨a0, _ | ⟨a1, t⟩⟩ <;> first | (cases h; done) | skip
  rw [compact_q 2]; exact h

end Go.Proofs.YtgneobkmmmpbiaaGreatDoor

/- names -/
namespace Go.Proofs.YtgneobkmmmpbiaaGreatDoor
open Go Go.Proofs Go.Eng Go.RowKit
set_option linter.unusedVariables false
set_option linter.unusedSimpArgs false

/-! names. -/
def names_sg : FSig := FSig.mk [38, 3] [(4, [])] false
noncomputable def names_c : Code := Tryz.f106.body.getD .skip
def names_E : Env := ⟨tl, [(41, contains_sg, contains_s)], dirsOf [], dirsOf [], dirsOf [], killOf [], joinsOf tl []⟩
def names_f (fuel : Nat) (a0 a1 : GV) : Option R :=
 (contains_s [GV.list 0 (cellG true a0 1).asZ (cellG true a0 1).asList (cellG true a0 1).asSp, a1]).bind fun o0 =>
 (condO (!(nth o0 0).asBool) (contains_s [GV.list 0 (cellG true a0 2).asZ (cellG true a0 2).asList (cellG true a0 2).asSp, a1])).bind fun o1 =>
 some [GV.bool (bif (nth o0 0).asBool then true else (nth o1 0).asBool)]
theorem names_q (fuel : Nat) (a0 a1 : GV) : gexec names_E (LZ) Tryz.f106.ntmps Tryz.f106.results.toList names_sg names_c [a0, a1] = names_f fuel a0 a1 := by kernel_rfl
theorem names_calls (hS : SpecsOk Tryz.prog tl names_E.sp) (fuel : Nat) : CallsOk Tryz.prog tl 106 names_sg (gexec names_E (LZ) Tryz.f106.ntmps Tryz.f106.results.toList names_sg names_c) :=
  gexec_calls (E := names_E) hP hS Tryz.func106 (by kernel_rfl) (by kernel_rfl) (fun W => LZ_ok)
theorem names_hS : SpecsOk Tryz.prog tl names_E.sp := (specs_cons specs_nil contains_ok Tryz.call41)
def names_s : List GV → Option R
  | [a0, a1] => bif okR a0 then some [.bool (hasB (cellG true a0 1).asList a1.asInt || hasB (cellG true a0 2).asList a1.asInt)] else none
  | _ => none
theorem names_ok : CallsOk Tryz.prog tl 106 names_sg names_s := (names_calls names_hS 0).of fun gs outs h => by
  rcases gs with _ | ⟨a0, _ | ⟨a1, _ | ⟨a2, t⟩⟩⟩ <;> first | (cases h; done) | skip
  obtain ⟨hb, rfl⟩ := guard_inv h
  unfold okR at hb
  rw [Bool.and_eq_true] at hb
  rw [names_q 0]
  unfold names_f
  have e1 : contains_s [GV.list 0 (cellG true a0 1).asZ (cellG true a0 1).asList (cellG true a0 1).asSp, a1] = some [.bool (hasB (cellG true a0 1).asList a1.asInt)] := bT hb.1 _ _
  have e2 : contains_s [GV.list 0 (cellG true a0 2).asZ (cellG true a0 2).asList (cellG true a0 2).asSp, a1] = some [.bool (hasB (cellG true a0 2).asList a1.asInt)] := bT hb.2 _ _
  rw [e1, e2]
  cases hasB (cellG true a0 1).asList a1.asInt <;> rfl

end Go.Proofs.YtgneobkmmmpbiaaGreatDoor

/- fills -/
namespace Go.Proofs.YtgneobkmmmpbiaaGreatDoor
open Go Go.Proofs Go.Eng Go.RowKit
set_option linter.unusedVariables false
set_option linter.unusedSimpArgs false

/-! fills. -/
def fills_sg : FSig := FSig.mk [34, 3] [(4, [])] false
noncomputable def fills_c : Code := Tryz.f62.body.getD .skip
def fills_E : Env := ⟨tl, [], dirsOf [], dirsOf [], dirsOf [], killOf [], joinsOf tl []⟩
def fills_f (fuel : Nat) (a0 a1 : GV) : Option R :=
 bif (cellG true a0 3).asInt == 0 then some [GV.bool (bif decide (a1.asInt ≥ 1) then a1.asInt == (cellG true a0 5).asInt else false)]
else some [GV.bool (bif decide (a1.asInt ≥ 1) then decide (a1.asInt ≤ (cellG true a0 5).asInt) else false)]
theorem fills_q (fuel : Nat) (a0 a1 : GV) : gexec fills_E (LZ) Tryz.f62.ntmps Tryz.f62.results.toList fills_sg fills_c [a0, a1] = fills_f fuel a0 a1 := by kernel_rfl
theorem fills_calls (hS : SpecsOk Tryz.prog tl fills_E.sp) (fuel : Nat) : CallsOk Tryz.prog tl 62 fills_sg (gexec fills_E (LZ) Tryz.f62.ntmps Tryz.f62.results.toList fills_sg fills_c) :=
  gexec_calls (E := fills_E) hP hS Tryz.func62 (by kernel_rfl) (by kernel_rfl) (fun W => LZ_ok)
theorem fills_hS : SpecsOk Tryz.prog tl fills_E.sp := specs_nil
def fills_s : List GV → Option R
  | [a0, a1] => fills_f 0 a0 a1
  | _ => none
theorem fills_ok : CallsOk Tryz.prog tl 62 fills_sg fills_s := (fills_calls fills_hS 0).of fun gs outs h => by
  rcases gs with _ | ⟨a0, _ | ⟨a1, _ | ⟨a2, t⟩⟩⟩ <;> first | (cases h; done) | skip
  rw [fills_q 0]; exact h

end Go.Proofs.YtgneobkmmmpbiaaGreatDoor

/- characters -/
namespace Go.Proofs.YtgneobkmmmpbiaaGreatDoor
open Go Go.Proofs Go.Eng Go.RowKit
set_option linter.unusedVariables false
set_option linter.unusedSimpArgs false

/-! characters. -/
def characters_sg : FSig := FSig.mk [3, 9] [(4, [])] false
noncomputable def characters_c : Code := Tryz.f63.body.getD .skip
def characters_E : Env := ⟨tl, [(40, among_sg, among_s)], dirsOf [], dirsOf [], dirsOf [], killOf [], joinsOf tl []⟩
def characters_f (fuel : Nat) (a0 a1 : GV) : Option R :=
 bif a0.asInt == 1 then some [GV.bool (amongB a1.asStr (ByteArray.mk #[48, 49, 50, 51, 52, 53, 54, 55, 56, 57]))]
else
 bif a0.asInt == 2 then
 some
 [GV.bool
 (amongB a1.asStr
 (ByteArray.mk
 #[65, 66, 67, 68, 69, 70, 71, 72, 73, 74, 75, 76, 77, 78, 79, 80, 81, 82, 83, 84, 85, 86, 87, 88, 89, 90, 97, 98, 99, 100, 101, 102, 103, 104, 105, 106, 107, 108, 109, 110, 111, 112, 113, 114, 115, 116, 117, 118, 119, 120,
 121, 122, 32]))]
 else
 bif a0.asInt == 3 then
 some
 [GV.bool
 (amongB a1.asStr
 (ByteArray.mk
 #[65, 66, 67, 68, 69, 70, 71, 72, 73, 74, 75, 76, 77, 78, 79, 80, 81, 82, 83, 84, 85, 86, 87, 88, 89, 90, 97, 98, 99, 100, 101, 102, 103, 104, 105, 106, 107, 108, 109, 110, 111, 112, 113, 114, 115, 116, 117, 118, 119, 120,
 121, 122, 48, 49, 50, 51, 52, 53, 54, 55, 56, 57, 32]))]
 else
 bif a0.asInt == 4 then none
 else
 bif a0.asInt == 5 then some [GV.bool true]
 else
 bif a0.asInt == 6 then some [GV.bool (amongB a1.asStr (ByteArray.mk #[48, 49, 50, 51, 52, 53, 54, 55, 56, 57, 61]))]
 else
 bif a0.asInt == 7 then
 bif (inRange 1 (a1.asStr.size + 1), 0, 1).fst || !decide ((↑a1.asStr.size : Int) ≥ 2) then
 (condO (decide ((↑a1.asStr.size : Int) ≥ 2)) (among_s [GV.str (a1.asStr.extract 0 1), GV.str (ByteArray.mk #[67, 68])])).bind fun o0 =>
 bif (inRange 1 (a1.asStr.size + 1), 1, a1.asStr.size).fst || !bif decide ((↑a1.asStr.size : Int) ≥ 2) then (nth o0 0).asBool else false then
 (condO (bif decide ((↑a1.asStr.size : Int) ≥ 2) then (nth o0 0).asBool else false)
 (among_s
 [GV.str (a1.asStr.extract 1 (inRange 1 (a1.asStr.size + 1), 1, a1.asStr.size).snd.snd), GV.str (ByteArray.mk #[48, 49, 50, 51, 52, 53, 54, 55, 56, 57])])).bind
 fun o1 => some [GV.bool (bif bif decide ((↑a1.asStr.size : Int) ≥ 2) then (nth o0 0).asBool else false then (nth o1 0).asBool else false)]
 else none
 else none
 else some [GV.bool false]
theorem characters_q (fuel : Nat) (a0 a1 : GV) : gexec characters_E (LZ) Tryz.f63.ntmps Tryz.f63.results.toList characters_sg characters_c [a0, a1] = characters_f fuel a0 a1 := by kernel_rfl
theorem characters_calls (hS : SpecsOk Tryz.prog tl characters_E.sp) (fuel : Nat) : CallsOk Tryz.prog tl 63 characters_sg (gexec characters_E (LZ) Tryz.f63.ntmps Tryz.f63.results.toList characters_sg characters_c) :=
  gexec_calls (E := characters_E) hP hS Tryz.func63 (by kernel_rfl) (by kernel_rfl) (fun W => LZ_ok)
theorem characters_hS : SpecsOk Tryz.prog tl characters_E.sp := (specs_cons specs_nil among_ok Tryz.call40)
def characters_s : List GV → Option R
  | [a0, a1] => characters_f 0 a0 a1
  | _ => none
theorem characters_ok : CallsOk Tryz.prog tl 63 characters_sg characters_s := (characters_calls characters_hS 0).of fun gs outs h => by
  rcases gs with _ | ⟨a0, _ | ⟨a1, _ | ⟨a2, t⟩⟩⟩ <;> first | (cases h; done) | skip
  rw [characters_q 0]; exact h

end Go.Proofs.YtgneobkmmmpbiaaGreatDoor

/- valueG -/
namespace Go.Proofs.YtgneobkmmmpbiaaGreatDoor
open Go Go.Proofs Go.Eng Go.RowKit
set_option linter.unusedVariables false
set_option linter.unusedSimpArgs false

/-! valueG. -/
def valueG_sg : FSig := FSig.mk [34, 58] [(4, [])] false
noncomputable def valueG_c : Code := Tryz.f28.body.getD .skip
def valueG_E : Env := ⟨tl, [(62, fills_sg, fills_s), (63, characters_sg, characters_s)], dirsOf [], dirsOf [], dirsOf [], killOf [], joinsOf tl []⟩
def valueG_f (fuel : Nat) (a0 a1 : GV) : Option R :=
 bif (cellG true a0 1).asInt == 8 then
 bif (cellG true a0 1).asInt == 8 then
 bif bif !strEq (cellG true a1 1).asStr (ByteArray.mk #[]) then true else (↑(cellG true a1 2).asList.length : Int) == 0 then some [GV.bool false]
 else bif (cellG true a0 1).asInt == 9 then none else none
 else
 (condO ((↑(cellG true a1 2).asList.length : Int) == 0)
 (fills_s
 [GV.agg [cellG true a0 0, cellG true a0 1, cellG true a0 2, cellG true a0 3, cellG true a0 4, cellG true a0 5], GV.int (↑(cellG true a1 1).asStr.size : Int)])).bind
 fun o0 =>
 (condO (bif (↑(cellG true a1 2).asList.length : Int) == 0 then (nth o0 0).asBool else false) (characters_s [cellG true a0 1, cellG true a1 1])).bind fun o1 =>
 some [GV.bool (bif bif (↑(cellG true a1 2).asList.length : Int) == 0 then (nth o0 0).asBool else false then (nth o1 0).asBool else false)]
else
 bif (cellG true a0 1).asInt == 9 then
 bif bif !strEq (cellG true a1 1).asStr (ByteArray.mk #[]) then true else (↑(cellG true a1 2).asList.length : Int) == 0 then some [GV.bool false]
 else bif (cellG true a0 1).asInt == 9 then none else none
 else
 (condO ((↑(cellG true a1 2).asList.length : Int) == 0)
 (fills_s
 [GV.agg [cellG true a0 0, cellG true a0 1, cellG true a0 2, cellG true a0 3, cellG true a0 4, cellG true a0 5], GV.int (↑(cellG true a1 1).asStr.size : Int)])).bind
 fun o2 =>
 (condO (bif (↑(cellG true a1 2).asList.length : Int) == 0 then (nth o2 0).asBool else false) (characters_s [cellG true a0 1, cellG true a1 1])).bind fun o3 =>
 some [GV.bool (bif bif (↑(cellG true a1 2).asList.length : Int) == 0 then (nth o2 0).asBool else false then (nth o3 0).asBool else false)]
theorem valueG_q (fuel : Nat) (a0 a1 : GV) : gexec valueG_E (LZ) Tryz.f28.ntmps Tryz.f28.results.toList valueG_sg valueG_c [a0, a1] = valueG_f fuel a0 a1 := by kernel_rfl
theorem valueG_calls (hS : SpecsOk Tryz.prog tl valueG_E.sp) (fuel : Nat) : CallsOk Tryz.prog tl 28 valueG_sg (gexec valueG_E (LZ) Tryz.f28.ntmps Tryz.f28.results.toList valueG_sg valueG_c) :=
  gexec_calls (E := valueG_E) hP hS Tryz.func28 (by kernel_rfl) (by kernel_rfl) (fun W => LZ_ok)
theorem valueG_hS : SpecsOk Tryz.prog tl valueG_E.sp := (specs_cons (specs_cons specs_nil characters_ok Tryz.call63) fills_ok Tryz.call62)
def valueG_s : List GV → Option R
  | [a0, a1] => valueG_f 0 a0 a1
  | _ => none
theorem valueG_ok : CallsOk Tryz.prog tl 28 valueG_sg valueG_s := (valueG_calls valueG_hS 0).of fun gs outs h => by
  rcases gs with _ | ⟨a0, _ | ⟨a1, _ | ⟨a2, t⟩⟩⟩ <;> first | (cases h; done) | skip
  rw [valueG_q 0]; exact h

end Go.Proofs.YtgneobkmmmpbiaaGreatDoor

/- fieldG -/
namespace Go.Proofs.YtgneobkmmmpbiaaGreatDoor
open Go Go.Proofs Go.Eng Go.RowKit
set_option linter.unusedVariables false
set_option linter.unusedSimpArgs false

/-! fieldG. -/
def fieldG_sg : FSig := FSig.mk [25, 38, 58] [(28, [])] false
noncomputable def fieldG_c : Code := Tryz.f72.body.getD .skip
def fieldG_E : Env := ⟨tl, [(17, specG_sg, specG_s), (106, names_sg, names_s), (28, valueG_sg, valueG_s)], dirsOf [], dirsOf [], dirsOf [], killOf [], joinsOf tl []⟩
def fieldG_f (fuel : Nat) (a0 a1 a2 : GV) : Option R :=
 (specG_s
 [GV.agg
 [cellG true a0 0, cellG true a0 1, cellG true a0 2, cellG true a0 3, GV.list 0 (cellG true a0 4).asZ (cellG true a0 4).asList (cellG true a0 4).asSp,
 GV.list 0 (cellG true a0 5).asZ (cellG true a0 5).asList (cellG true a0 5).asSp, cellG true a0 6],
 cellG true a2 0]).bind
 fun o0 =>
 bif !(nth o0 1).asBool then some [GV.int 102]
 else
 (names_s
 [GV.agg
 [cellG true a1 0, GV.list 0 (cellG true a1 1).asZ (cellG true a1 1).asList (cellG true a1 1).asSp,
 GV.list 0 (cellG true a1 2).asZ (cellG true a1 2).asList (cellG true a1 2).asSp],
 cellG true a2 0]).bind
 fun o1 =>
 bif !(nth o1 0).asBool then some [GV.int 109]
 else
 (valueG_s
 [GV.agg
 [cellG true (nth o0 0) 0, cellG true (nth o0 0) 1, cellG true (nth o0 0) 2, cellG true (nth o0 0) 3, cellG true (nth o0 0) 4,
 cellG true (nth o0 0) 5],
 GV.agg [cellG true a2 0, cellG true a2 1, GV.list 0 (cellG true a2 2).asZ (cellG true a2 2).asList (cellG true a2 2).asSp]]).bind
 fun o2 => bif !(nth o2 0).asBool then some [GV.int 107] else some [GV.int 0]
theorem fieldG_q (fuel : Nat) (a0 a1 a2 : GV) : gexec fieldG_E (LZ) Tryz.f72.ntmps Tryz.f72.results.toList fieldG_sg fieldG_c [a0, a1, a2] = fieldG_f fuel a0 a1 a2 := by kernel_rfl
theorem fieldG_calls (hS : SpecsOk Tryz.prog tl fieldG_E.sp) (fuel : Nat) : CallsOk Tryz.prog tl 72 fieldG_sg (gexec fieldG_E (LZ) Tryz.f72.ntmps Tryz.f72.results.toList fieldG_sg fieldG_c) :=
  gexec_calls (E := fieldG_E) hP hS Tryz.func72 (by kernel_rfl) (by kernel_rfl) (fun W => LZ_ok)
theorem fieldG_hS : SpecsOk Tryz.prog tl fieldG_E.sp := (specs_cons (specs_cons (specs_cons specs_nil valueG_ok Tryz.call28) names_ok Tryz.call106) specG_ok Tryz.call17)
def fieldG_s : List GV → Option R
  | [a0, a1, a2] => fieldG_f 0 a0 a1 a2
  | _ => none
theorem fieldG_ok : CallsOk Tryz.prog tl 72 fieldG_sg fieldG_s := (fieldG_calls fieldG_hS 0).of fun gs outs h => by
  rcases gs with _ | ⟨a0, _ | ⟨a1, _ | ⟨a2, _ | ⟨a3, t⟩⟩⟩⟩ <;> first | (cases h; done) | skip
  rw [fieldG_q 0]; exact h

end Go.Proofs.YtgneobkmmmpbiaaGreatDoor

/- fitsG -/
namespace Go.Proofs.YtgneobkmmmpbiaaGreatDoor
open Go Go.Proofs Go.Eng Go.RowKit
set_option linter.unusedVariables false
set_option linter.unusedSimpArgs false

/-! fitsG. -/
def fitsG_sg : FSig := FSig.mk [25, 61] [(28, []), (3, [])] false
noncomputable def fitsG_c : Code := Tryz.f32.body.getD .skip
def fitsG_E : Env := ⟨tl, [(19, ruleG_sg, ruleG_s), (54, clone_sg, clone_s), (70, sort_sg, sort_s), (71, compact_sg, compact_s), (72, fieldG_sg, fieldG_s)], dirsOf [], dirsOf [(0, [Dir.only [2, 3, 6], Dir.sort [2, 3, 6], Dir.keep [2, 3, 6, 24, 25, 26]]), (1, [Dir.only [2, 6], Dir.sort [2, 6], Dir.keep [2, 6, 10, 56, 57, 58]])], dirsOf [(0, [Dir.only [2, 3, 6], Dir.sort [2, 3, 6], Dir.keep [2, 3, 4, 5, 6]]), (1, [Dir.only [], Dir.sort [], Dir.keep [4, 5, 10]])], killOf [], joinsOf tl []⟩
def fitsG_sh1 : Shp := Shp.mk 105
 [(2, ASh.one (SSh.ptr 2 [(0, 0)])), (6, ASh.one (SSh.ptr 6 [(0, 0)])), (10, ASh.one (SSh.s (CK.slice 3))), (56, ASh.one (SSh.s (CK.slice 58))),
 (57, ASh.one (SSh.s (CK.int IntKind.i64))), (58, ASh.one (SSh.s (CK.int IntKind.i64)))]
 [(2, RSh.rowA 2 25 [0, 0, 0, 0, 1, 1, 0]), (6, RSh.rowA 2 38 [0, 2, 2])]
def fitsG_xs1 : Outs := [(Ex.ret, Shp.mk 105 [(4, ASh.one (SSh.s (CK.int IntKind.i64))), (5, ASh.one (SSh.s (CK.int IntKind.i64))), (10, ASh.one (SSh.s (CK.slice 3)))] []),
 (Ex.exit 2, Shp.mk 105 [(4, ASh.one SSh.dead), (5, ASh.one SSh.dead), (10, ASh.one (SSh.s (CK.slice 3)))] [])]
def fitsG_b1 {β : Type} (fuel : Nat) (g0 g1 g2 g3 g4 g5 g6 g7 g8 g9 g10 g11 g12 g13 : GV) (kn : List GV → Option β) (kx : Nat → List GV → Option β) : Option β :=
 bif decide (g3.asInt < g2.asInt) then
 bif inRange g3.asInt g1.asList.length then
 bif inRange 0 g0.asList.length || !decide ((↑g0.asList.length : Int) > 0) then
 bif bif decide ((↑g0.asList.length : Int) > 0) then decide ((nth g0.all 0).asInt < (cellG true (nth g1.all g3.asInt.toNat) 0).asInt) else false then
 bif inRange 0 g0.asList.length then kx 0 [GV.int 108, nth g0.all 0, g0] else none
 else
 bif inRange 0 g0.asList.length || !decide ((↑g0.asList.length : Int) > 0) then
 bif bif decide ((↑g0.asList.length : Int) > 0) then (nth g0.all 0).asInt == (cellG true (nth g1.all g3.asInt.toNat) 0).asInt else false then
 bif (inRange 1 (g0.asList.length + 1), 1, g0.asList.length).fst then
 (fieldG_s
 [GV.agg [g4, g5, g6, g7, GV.list 0 g8.asZ g8.asList g8.asSp, GV.list 0 g9.asZ g9.asList g9.asSp, g10],
 GV.agg [g11, GV.list 2 g12.asZ g12.asList g12.asSp, GV.list 2 g13.asZ g13.asList g13.asSp],
 GV.agg
 [cellG true (nth g1.all g3.asInt.toNat) 0, cellG true (nth g1.all g3.asInt.toNat) 1,
 GV.list 0 (cellG true (nth g1.all g3.asInt.toNat) 2).asZ (cellG true (nth g1.all g3.asInt.toNat) 2).asList (cellG true (nth g1.all g3.asInt.toNat) 2).asSp]]).bind
 fun o5 =>
 bif (nth o5 0).asInt != 0 then
 kx 0 [nth o5 0, cellG true (nth g1.all g3.asInt.toNat) 0, GV.list 0 false (List.drop 1 (List.take (inRange 1 (g0.asList.length + 1), 1, g0.asList.length).snd.snd g0.asList)) []]
 else
 kn
 [GV.list 0 false (List.drop 1 (List.take (inRange 1 (g0.asList.length + 1), 1, g0.asList.length).snd.snd g0.asList)) [], g1, g2, GV.int (IntKind.i64.wrap (g3.asInt + 1)), g4, g5, g6, g7,
 GV.list 0 g8.asZ g8.asList g8.asSp, GV.list 0 g9.asZ g9.asList g9.asSp, g10, g11, GV.list 2 g12.asZ g12.asList g12.asSp, GV.list 2 g13.asZ g13.asList g13.asSp]
 else none
 else
 (fieldG_s
 [GV.agg [g4, g5, g6, g7, GV.list 0 g8.asZ g8.asList g8.asSp, GV.list 0 g9.asZ g9.asList g9.asSp, g10],
 GV.agg [g11, GV.list 2 g12.asZ g12.asList g12.asSp, GV.list 2 g13.asZ g13.asList g13.asSp],
 GV.agg
 [cellG true (nth g1.all g3.asInt.toNat) 0, cellG true (nth g1.all g3.asInt.toNat) 1,
 GV.list 0 (cellG true (nth g1.all g3.asInt.toNat) 2).asZ (cellG true (nth g1.all g3.asInt.toNat) 2).asList (cellG true (nth g1.all g3.asInt.toNat) 2).asSp]]).bind
 fun o6 =>
 bif (nth o6 0).asInt != 0 then kx 0 [nth o6 0, cellG true (nth g1.all g3.asInt.toNat) 0, g0]
 else
 kn
 [g0, g1, g2, GV.int (IntKind.i64.wrap (g3.asInt + 1)), g4, g5, g6, g7, GV.list 0 g8.asZ g8.asList g8.asSp, GV.list 0 g9.asZ g9.asList g9.asSp, g10, g11, GV.list 2 g12.asZ g12.asList g12.asSp,
 GV.list 2 g13.asZ g13.asList g13.asSp]
 else none
 else none
 else none
else kx 1 [g0]
def fitsG_e1 (fuel : Nat) : LEnt := ⟨1, fitsG_sh1, fitsG_xs1, fun gs kn kx => fitsG_b1 fuel (nth gs 0) (nth gs 1) (nth gs 2) (nth gs 3) (nth gs 4) (nth gs 5) (nth gs 6) (nth gs 7) (nth gs 8) (nth gs 9) (nth gs 10) (nth gs 11) (nth gs 12) (nth gs 13) kn kx⟩
def fitsG_l1 (fuel : Nat) (gs : List GV) : Option (Nat × List GV) := loopR (fitsG_e1 fuel).step fuel gs
theorem fitsG_t1 {β : Type} (fuel : Nat) (g0 g1 g2 g3 g4 g5 g6 g7 g8 g9 g10 g11 g12 g13 : GV) (kn : List GV → Option β) (kx : Nat → List GV → Option β) : (fitsG_e1 fuel).step [g0, g1, g2, g3, g4, g5, g6, g7, g8, g9, g10, g11, g12, g13] kn kx = fitsG_b1 fuel g0 g1 g2 g3 g4 g5 g6 g7 g8 g9 g10 g11 g12 g13 kn kx := rfl
theorem fitsG_k1 (fuel : Nat) : StepOk fitsG_E fitsG_c (LZ) (fitsG_e1 fuel) :=
  ⟨by kernel_rfl, fun gs kn kx => by kernel_rfl, fun f gs kn kx => by simp only [fitsG_e1, fitsG_b1, bind_cond, Option.bind_assoc, Option.bind_none]⟩
def fitsG_sh0 : Shp := Shp.mk 105
 [(2, ASh.one (SSh.ptr 2 [(0, 0)])), (3, ASh.one (SSh.ptr 3 [(0, 0)])), (6, ASh.one (SSh.ptr 6 [(0, 0)])), (24, ASh.one (SSh.s (CK.slice 58))),
 (25, ASh.one (SSh.s (CK.int IntKind.i64))), (26, ASh.one (SSh.s (CK.int IntKind.i64)))]
 [(2, RSh.rowA 2 25 [0, 0, 0, 0, 1, 1, 0]), (3, RSh.rowA 2 61 [0, 1]), (6, RSh.rowA 2 38 [0, 2, 2])]
def fitsG_xs0 : Outs := [(Ex.ret, Shp.mk 105
 [(2, ASh.one (SSh.ptr 2 [(0, 0)])), (3, ASh.one (SSh.ptr 3 [(0, 0)])), (4, ASh.one (SSh.s (CK.int IntKind.i64))), (5, ASh.one (SSh.s (CK.int IntKind.i64))),
 (6, ASh.one (SSh.ptr 6 [(0, 0)]))]
 [(2, RSh.rowA 2 25 [0, 0, 0, 0, 1, 1, 0]), (3, RSh.rowA 2 61 [0, 1]), (6, RSh.rowA 2 38 [0, 2, 2])]),
 (Ex.exit 0, Shp.mk 105 [(2, ASh.one (SSh.ptr 2 [(0, 0)])), (3, ASh.one (SSh.ptr 3 [(0, 0)])), (4, ASh.one SSh.dead), (5, ASh.one SSh.dead), (6, ASh.one (SSh.ptr 6 [(0, 0)]))]
 [(2, RSh.rowA 2 25 [0, 0, 0, 0, 1, 1, 0]), (3, RSh.rowA 2 61 [0, 1]), (6, RSh.rowA 2 38 [0, 2, 2])])]
def fitsG_b0 {β : Type} (fuel : Nat) (g0 g1 g2 g3 g4 g5 g6 g7 g8 g9 g10 g11 g12 g13 g14 : GV) (kn : List GV → Option β) (kx : Nat → List GV → Option β) : Option β :=
 bif decide (g2.asInt < g1.asInt) then
 bif inRange g2.asInt g0.asList.length then
 bif inRange (IntKind.i64.wrap (g2.asInt - 1)) g11.asList.length || !decide (g2.asInt > 0) then
 bif
 bif decide (g2.asInt > 0) then
 decide ((cellG true (nth g0.all g2.asInt.toNat) 0).asInt ≤ (cellG true (nth (GV.list 0 g11.asZ g11.asList g11.asSp).all (IntKind.i64.wrap (g2.asInt - 1)).toNat) 0).asInt)
 else false then
 kx 0
 [GV.int 102, cellG true (nth g0.all g2.asInt.toNat) 0, g3, g4, g5, g6, GV.list 0 g7.asZ g7.asList g7.asSp, GV.list 0 g8.asZ g8.asList g8.asSp, g9, g10,
 GV.list 0 g11.asZ g11.asList g11.asSp, g12, GV.list 2 g13.asZ g13.asList g13.asSp, GV.list 2 g14.asZ g14.asList g14.asSp]
 else
 kn
 [g0, g1, GV.int (IntKind.i64.wrap (g2.asInt + 1)), g3, g4, g5, g6, GV.list 0 g7.asZ g7.asList g7.asSp, GV.list 0 g8.asZ g8.asList g8.asSp, g9, g10, GV.list 0 g11.asZ g11.asList g11.asSp, g12,
 GV.list 2 g13.asZ g13.asList g13.asSp, GV.list 2 g14.asZ g14.asList g14.asSp]
 else none
 else none
else
 kx 1
 [g3, g4, g5, g6, GV.list 0 g7.asZ g7.asList g7.asSp, GV.list 0 g8.asZ g8.asList g8.asSp, g9, g10, GV.list 0 g11.asZ g11.asList g11.asSp, g12, GV.list 2 g13.asZ g13.asList g13.asSp,
 GV.list 2 g14.asZ g14.asList g14.asSp]
def fitsG_e0 (fuel : Nat) : LEnt := ⟨0, fitsG_sh0, fitsG_xs0, fun gs kn kx => fitsG_b0 fuel (nth gs 0) (nth gs 1) (nth gs 2) (nth gs 3) (nth gs 4) (nth gs 5) (nth gs 6) (nth gs 7) (nth gs 8) (nth gs 9) (nth gs 10) (nth gs 11) (nth gs 12) (nth gs 13) (nth gs 14) kn kx⟩
def fitsG_l0 (fuel : Nat) (gs : List GV) : Option (Nat × List GV) := loopR (fitsG_e0 fuel).step fuel gs
theorem fitsG_t0 {β : Type} (fuel : Nat) (g0 g1 g2 g3 g4 g5 g6 g7 g8 g9 g10 g11 g12 g13 g14 : GV) (kn : List GV → Option β) (kx : Nat → List GV → Option β) : (fitsG_e0 fuel).step [g0, g1, g2, g3, g4, g5, g6, g7, g8, g9, g10, g11, g12, g13, g14] kn kx = fitsG_b0 fuel g0 g1 g2 g3 g4 g5 g6 g7 g8 g9 g10 g11 g12 g13 g14 kn kx := rfl
theorem fitsG_k0 (fuel : Nat) : StepOk fitsG_E fitsG_c (LSc (fitsG_e1 fuel) fuel (LZ)) (fitsG_e0 fuel) :=
  ⟨by kernel_rfl, fun gs kn kx => by kernel_rfl, fun f gs kn kx => by simp only [fitsG_e0, fitsG_b0, bind_cond, Option.bind_assoc, Option.bind_none]⟩
def fitsG_f (fuel : Nat) (a0 a1 : GV) : Option R :=
 (ruleG_s
 [GV.agg
 [cellG true a0 0, cellG true a0 1, cellG true a0 2, cellG true a0 3, GV.list 0 (cellG true a0 4).asZ (cellG true a0 4).asList (cellG true a0 4).asSp,
 GV.list 0 (cellG true a0 5).asZ (cellG true a0 5).asList (cellG true a0 5).asSp, cellG true a0 6],
 cellG true a1 0]).bind
 fun o0 =>
 bif !(nth o0 1).asBool then some [GV.int 110, GV.int 0]
 else
 (fitsG_l0 fuel
 [GV.list 0 (cellG true a1 1).asZ (cellG true a1 1).asList (cellG true a1 1).asSp, GV.int (↑(cellG true a1 1).asList.length : Int), GV.int 0, cellG true a0 0,
 cellG true a0 1, cellG true a0 2, cellG true a0 3, GV.list 0 (cellG true a0 4).asZ (cellG true a0 4).asList (cellG true a0 4).asSp,
 GV.list 0 (cellG true a0 5).asZ (cellG true a0 5).asList (cellG true a0 5).asSp, cellG true a0 6, cellG true a1 0,
 GV.list 0 (cellG true a1 1).asZ (cellG true a1 1).asList (cellG true a1 1).asSp, cellG true (nth o0 0) 0,
 GV.list 2 (cellG true (nth o0 0) 1).asZ (cellG true (nth o0 0) 1).asList (cellG true (nth o0 0) 1).asSp,
 GV.list 2 (cellG true (nth o0 0) 2).asZ (cellG true (nth o0 0) 2).asList (cellG true (nth o0 0) 2).asSp]).bind
 fun r1 =>
 bif r1.fst.beq 0 then some [nth r1.snd 0, nth r1.snd 1]
 else
 (clone_s [GV.list 2 (nth r1.snd 10).asZ (nth r1.snd 10).asList (nth r1.snd 10).asSp]).bind fun o2 =>
 (sort_s [GV.list 2 (nth o2 0).asZ (nth o2 0).asList (nth o2 0).asSp]).bind fun o3 =>
 (compact_s [GV.list 2 (nth o2 0).asZ (nth o2 0).asList (nth o2 0).asSp]).bind fun o4 =>
 (fitsG_l1 fuel
 [nth o4 0, GV.list 0 (nth r1.snd 8).asZ (nth r1.snd 8).asList (nth r1.snd 8).asSp, GV.int (↑(nth r1.snd 8).asList.length : Int), GV.int 0, nth r1.snd 0,
 nth r1.snd 1, nth r1.snd 2, nth r1.snd 3, GV.list 0 (nth r1.snd 4).asZ (nth r1.snd 4).asList (nth r1.snd 4).asSp,
 GV.list 0 (nth r1.snd 5).asZ (nth r1.snd 5).asList (nth r1.snd 5).asSp, nth r1.snd 6, nth r1.snd 9,
 GV.list 2 (nth r1.snd 10).asZ (nth r1.snd 10).asList (nth r1.snd 10).asSp, GV.list 2 (nth r1.snd 11).asZ (nth r1.snd 11).asList (nth r1.snd 11).asSp]).bind
 fun r7 =>
 bif r7.fst.beq 0 then some [nth r7.snd 0, nth r7.snd 1]
 else
 bif decide ((↑(nth r7.snd 0).asList.length : Int) > 0) then bif inRange 0 (nth r7.snd 0).asList.length then some [GV.int 108, nth (nth r7.snd 0).all 0] else none
 else some [GV.int 0, GV.int 0]
theorem fitsG_q (fuel : Nat) (a0 a1 : GV) : gexec fitsG_E (LSc (fitsG_e0 fuel) fuel (LSc (fitsG_e1 fuel) fuel (LZ))) Tryz.f32.ntmps Tryz.f32.results.toList fitsG_sg fitsG_c [a0, a1] = fitsG_f fuel a0 a1 := by kernel_rfl
theorem fitsG_calls (hS : SpecsOk Tryz.prog tl fitsG_E.sp) (fuel : Nat) : CallsOk Tryz.prog tl 32 fitsG_sg (gexec fitsG_E (LSc (fitsG_e0 fuel) fuel (LSc (fitsG_e1 fuel) fuel (LZ))) Tryz.f32.ntmps Tryz.f32.results.toList fitsG_sg fitsG_c) :=
  gexec_calls (E := fitsG_E) hP hS Tryz.func32 (by kernel_rfl) (by kernel_rfl) (fun W => LSc_ok hP hS (LSc_ok hP hS (LZ_ok) (fitsG_k1 fuel) fuel) (fitsG_k0 fuel) fuel)
theorem fitsG_hS : SpecsOk Tryz.prog tl fitsG_E.sp := (specs_cons (specs_cons (specs_cons (specs_cons (specs_cons specs_nil fieldG_ok Tryz.call72) compact_ok Tryz.call71) sort_ok Tryz.call70) clone_ok Tryz.call54) ruleG_ok Tryz.call19)
def fitsG_s : List GV → Option R
  | [a0, a1] => fitsG_f 4 a0 a1
  | _ => none
theorem fitsG_ok : CallsOk Tryz.prog tl 32 fitsG_sg fitsG_s := (fitsG_calls fitsG_hS 4).of fun gs outs h => by
  rcases gs with _ | ⟨a0, _ | ⟨a1, _ | ⟨a2, t⟩⟩⟩ <;> first | (cases h; done) | skip
  rw [fitsG_q 4]; exact h

end Go.Proofs.YtgneobkmmmpbiaaGreatDoor

/- bytesw -/
namespace Go.Proofs.YtgneobkmmmpbiaaGreatDoor
open Go Go.Proofs Go.Eng Go.RowKit
set_option linter.unusedVariables false
set_option linter.unusedSimpArgs false

theorem bytesStr_size (l : List GV) : (bytesStr l).size = l.length := by unfold bytesStr; rw [strOfNums_size, List.length_map]
theorem bt_bytesStr {l : List GV} {i : Nat} (h : i < l.length) (h0 : 0 ≤ (nth l i).asInt) (h1 : (nth l i).asInt < 256) : bt (bytesStr l) i = (nth l i).asInt := by
  unfold bt bytesStr strOfNums
  have e : nth l i = l[i] := by unfold nth; simp [List.getD_eq_getElem?_getD, List.getElem?_eq_getElem h]
  rw [e] at h0 h1 ⊢
  simp only [List.getElem?_toArray, List.getElem?_map, List.getElem?_eq_getElem h, Option.map_some, Option.getD_some]
  have : (UInt8.ofNat (l[i].asInt.toNat)).toNat = l[i].asInt.toNat := by
    rw [UInt8.toNat_ofNat']
    exact Nat.mod_eq_of_lt (by omega)
  rw [this]; omega

end Go.Proofs.YtgneobkmmmpbiaaGreatDoor

/- eqr -/
namespace Go.Proofs.YtgneobkmmmpbiaaGreatDoor
open Go Go.Proofs Go.Eng Go.RowKit
set_option linter.unusedVariables false
set_option linter.unusedSimpArgs false

theorem eqr_int {t : TypeId} {k : IntKind} {by' : Nat} (hl : Eng.look tl t = some ⟨[.int k], false, by', .int k⟩) {g g' : GV} (h : g.asInt = g'.asInt) {ms : List Nat} : EqR tl [(t, ms)] [g] [g'] := by
  have e := ttOf_look hl
  intro q t' ms' hq j hj
  cases q with
  | zero =>
    simp only [List.getElem?_cons_zero, Option.some.injEq, Prod.mk.injEq] at hq
    obtain ⟨rfl, rfl⟩ := hq
    rw [e] at hj ⊢
    have : j = 0 := by simp [TI.sz] at hj; exact hj
    subst this
    exact h
  | succ q => simp at hq

end Go.Proofs.YtgneobkmmmpbiaaGreatDoor

/- width -/
namespace Go.Proofs.YtgneobkmmmpbiaaGreatDoor
open Go Go.Proofs Go.Eng Go.RowKit
set_option linter.unusedVariables false
set_option linter.unusedSimpArgs false

/-! width. -/
def width_sg : FSig := FSig.mk [3, 3] [(3, [])] false
noncomputable def width_c : Code := Tryz.f75.body.getD .skip
def width_E : Env := ⟨tl, [], dirsOf [], dirsOf [], dirsOf [], killOf [], joinsOf tl []⟩
def width_f (fuel : Nat) (a0 a1 : GV) : Option R :=
 bif decide (a1.asInt < 0) then some [GV.int 0]
else
 bif a0.asInt == 2 then some [GV.int (IntKind.i64.wrap (IntKind.i64.wrap (a1.asInt.tdiv 2) + a1.asInt.tmod 2))]
 else
 bif a0.asInt == 3 then some [GV.int (IntKind.i64.wrap (IntKind.i64.wrap (a1.asInt.tdiv 2) + a1.asInt.tmod 2))]
 else
 bif a0.asInt == 1 then bif a0.asInt == 1 then some [a1] else some [GV.int 0]
 else bif a0.asInt == 4 then bif a0.asInt == 4 then some [a1] else some [GV.int 0] else bif a0.asInt == 5 then some [a1] else some [GV.int 0]
theorem width_q (fuel : Nat) (a0 a1 : GV) : gexec width_E (LZ) Tryz.f75.ntmps Tryz.f75.results.toList width_sg width_c [a0, a1] = width_f fuel a0 a1 := by kernel_rfl
theorem width_calls (hS : SpecsOk Tryz.prog tl width_E.sp) (fuel : Nat) : CallsOk Tryz.prog tl 75 width_sg (gexec width_E (LZ) Tryz.f75.ntmps Tryz.f75.results.toList width_sg width_c) :=
  gexec_calls (E := width_E) hP hS Tryz.func75 (by kernel_rfl) (by kernel_rfl) (fun W => LZ_ok)
theorem width_hS : SpecsOk Tryz.prog tl width_E.sp := specs_nil
def widthZ (e n : Int) : Int := bif decide (n < 0) then 0 else bif e == 2 then IntKind.i64.wrap (IntKind.i64.wrap (n.tdiv 2) + n.tmod 2) else bif e == 3 then IntKind.i64.wrap (IntKind.i64.wrap (n.tdiv 2) + n.tmod 2) else
  bif e == 1 then n else bif e == 4 then n else bif e == 5 then n else 0
def width_s : List GV → Option R
  | [a0, a1] => some [.int (widthZ a0.asInt a1.asInt)]
  | _ => none
theorem width_ok : CallsOk Tryz.prog tl 75 width_sg width_s := (width_calls specs_nil 0).ofE fun gs outs h => by
  rcases gs with _ | ⟨a0, _ | ⟨a1, _ | ⟨a2, t⟩⟩⟩ <;> first | (cases h; done) | skip
  rw [width_q 0]
  simp only [width_s, Option.some.injEq] at h
  subst h
  have key : ∃ g, width_f 0 a0 a1 = some [g] ∧ g.asInt = widthZ a0.asInt a1.asInt := by
    simp only [width_f, widthZ]
    cases decide (a1.asInt < 0) <;> cases a0.asInt == 2 <;> cases a0.asInt == 3 <;> cases a0.asInt == 1 <;> cases a0.asInt == 4 <;> cases a0.asInt == 5 <;> exact ⟨_, rfl, rfl⟩
  obtain ⟨g, h1, h2⟩ := key
  exact ⟨[g], h1, eqr_int (k := .i64) (by' := 8) (by kernel_rfl) h2⟩

end Go.Proofs.YtgneobkmmmpbiaaGreatDoor

/- grow -/
namespace Go.Proofs.YtgneobkmmmpbiaaGreatDoor
open Go Go.Proofs Go.Eng Go.RowKit
set_option linter.unusedVariables false
set_option linter.unusedSimpArgs false

def rho : Go.Shelf.Ren := ⟨fun n => bif Nat.beq n 4 then 107 else n, fun t => bif Nat.beq t 22 then 36 else bif Nat.beq t 25 then 3 else t, fun g => g⟩
theorem lays34 : Lays8.n4 Tryz.prog rho where
  mixed := by kernel_rfl
  f4 := ⟨ "slices.Grow[[]int,int]", by rfl, by kernel_rfl⟩
  t0 := Tryz.underlying0
  a0 := Tryz.isAgg0
  z0 := Tryz.sizeOf0
  v0 := Tryz.zeroValue0
  t3 := Tryz.underlying3
  a3 := Tryz.isAgg3
  z3 := Tryz.sizeOf3
  v3 := Tryz.zeroValue3
  t4 := Tryz.underlying4
  a4 := Tryz.isAgg4
  z4 := Tryz.sizeOf4
  v4 := Tryz.zeroValue4
  t9 := Tryz.underlying9
  a9 := Tryz.isAgg9
  z9 := Tryz.sizeOf9
  v9 := Tryz.zeroValue9
  t20 := Tryz.underlying20
  a20 := Tryz.isAgg20
  z20 := Tryz.sizeOf20
  v20 := Tryz.zeroValue20
  t22 := Tryz.underlying36
  a22 := Tryz.isAgg36
  z22 := Tryz.sizeOf36
  v22 := Tryz.zeroValue36

def grow_sg : FSig := ⟨[36, 3], [(36, [2])], false⟩
/-- For no list: an empty one, with room. -/
def grow_s : List GV → Option R
  | [a0, a1] => bif a0.asZ && (a0.all.isEmpty && (decide (0 ≤ a1.asInt) && decide (a1.asInt ≤ 8796093022208))) then some [.list 2 (decide (a1.asInt ≤ 0)) [] []] else none
  | _ => none
theorem grow_ok : CallsOk Tryz.prog tl 107 grow_sg grow_s := by
  intro w F args gs outs hF hsz hgl hargs hrun
  rcases gs with _ | ⟨a0, _ | ⟨a1, _ | ⟨a2, t⟩⟩⟩ <;> first | (cases hrun; done) | skip
  simp only [grow_s] at hrun
  cases hb : a0.asZ && (a0.all.isEmpty && (decide (0 ≤ a1.asInt) && decide (a1.asInt ≤ 8796093022208))) with
  | false => rw [hb] at hrun; cases hrun
  | true =>
    rw [hb] at hrun
    simp only [cond_true, Option.some.injEq] at hrun
    subst hrun
    simp only [Bool.and_eq_true, decide_eq_true_eq] at hb
    obtain ⟨hz, he, h0, h1⟩ := hb
    have he := List.isEmpty_iff.1 he
    obtain ⟨n, hn⟩ : ∃ n : Nat, a1.asInt = (n : Int) := ⟨a1.asInt.toNat, by omega⟩
    rw [hn] at h1 ⊢
    have hs2 : args.size = 2 := hsz
    have t28 : ttOf tl 36 = ⟨[.slice 3], false, 24, .slice 3⟩ := by kernel_rfl
    have t3 : ttOf tl 3 = ⟨[.int .i64], false, 8, .int .i64⟩ := by kernel_rfl
    have g0 : args[0]? = some (.slice none 0 0) := by
      have hv : args[0]? = some args[0] := Array.getElem?_eq_getElem (by omega)
      have := hargs 0 36 a0 args[0] rfl rfl hv
      unfold Eng.seen at this
      rw [t28] at this
      have this : GRel (ttOf tl) w F (.slice 3) a0 args[0] := this
      rw [hv]
      generalize args[0] = v at this
      cases this with
      | nil _ => rfl
      | slice a cap f hz' => exact absurd he (hz' hz)
    have g1 : args[1]? = some (.int .i64 n) := by
      have hv : args[1]? = some args[1] := Array.getElem?_eq_getElem (by omega)
      have := hargs 1 3 a1 args[1] rfl rfl hv
      unfold Eng.seen at this
      rw [t3] at this
      have this : GRel (ttOf tl) w F (.int .i64) a1 args[1] := this
      rw [hv]
      generalize args[1] = v at this
      cases this with
      | int _ => rw [hn]
    have hargs' : args = #[.slice none 0 0, .int .i64 n] := by
      apply Array.ext
      · simp [hs2]
      · intro i hi1 hi2
        have : i < 2 := by simpa using hi2
        match i, this with
        | 0, _ => rw [Array.getElem?_eq_getElem (by omega)] at g0; simpa using g0
        | 1, _ => rw [Array.getElem?_eq_getElem (by omega)] at g1; simpa using g1
    subst hargs'
    by_cases hn0 : n = 0
    · subst hn0
      refine Calls.mono (Any8.slices_Grow_room lays34 none 0 0 0 w (Nat.le_refl _) (by omega) (by omega) (by omega)) ?_
      rintro e w' ⟨rfl, rfl⟩
      refine ⟨Below.refl _ w', ⟨⟨#[.slice none 0 0], F, fun _ _ _ => False, rfl, rfl, fun _ h => h, fun _ h => .inl h, ?_, fun q t ms j b _ _ h => h.elim, fun q t ms j q' t' ms' j' b _ _ _ _ h => h.elim⟩⟩⟩
      intro q t ms u hq hu
      match q with
      | 0 =>
        simp only [grow_sg, List.getElem?_cons_zero, Option.some.injEq, Prod.mk.injEq] at hq
        obtain ⟨rfl, rfl⟩ := hq
        simp only [List.getElem?_toArray, List.getElem?_cons_zero, Option.some.injEq] at hu
        subst hu
        rw [t28]
        refine ⟨rfl, (fun h => by cases h), (fun _ => rfl), fun j x hx => ?_⟩
        have hj : j < 1 := (Array.getElem?_eq_some_iff.1 hx).1
        obtain rfl : j = 0 := by omega
        have hx : x = .slice none 0 0 := by simpa [Value.cells] using hx.symm
        subst hx
        exact ⟨Own.nil rfl, fun _ => rfl⟩
      | q + 1 => simp [grow_sg] at hq
    · have hi0 : Tryz.prog.info? (rho.t 25) = some Tryz.t3 := by kernel_rfl
      refine Calls.mono (Any8.slices_Grow_grow lays34 Tryz.t3 (.int .i64 0) hi0 rfl (by decide) none 0 0 n [] w (Nat.le_refl _) (by omega) (by show (0 + n) * 8 ≤ _; omega) (by omega) rfl (fun _ => rfl) (fun a h => by cases h)) ?_
      rintro e w' ⟨rfl, rfl⟩
      generalize hcur : (([] : List Value).toArray ++ Builtin.zeroCells (Value.int .i64 0).cells (0 + n - 0) ++ Builtin.zeroCells (Value.int .i64 0).cells (grownCap w (0 + n) 0 (rho.t 25) - (0 + n))) = cur
      have hge := grownCap_ge w (0 + n) 0 (rho.t 25)
      have hle := grownCap_le_maxLen w (0 + n) 0 (rho.t 25) (by unfold maxLen; omega)
      generalize grownCap w (0 + n) 0 (rho.t 25) = cap at hge hle hcur
      have hcs : cur.size = cap := by
        rw [← hcur]
        simp only [Array.size_append, size_zeroCells]
        show 0 + (0 + n - 0) * 1 + (cap - (0 + n)) * 1 = cap
        omega
      have hnew : (w.drew.alloc (.cells cur (rho.t 25))).heap[w.heap.size]? = some (.cells cur 3 (0, 0)) := heap_alloc_new w.drew _
      have hsize : (w.drew.alloc (.cells cur (rho.t 25))).heap.size = w.heap.size + 1 := Array.size_push ..
      have hown : Own (ttOf tl) (w.drew.alloc (.cells cur (rho.t 25))) F (.slice 3) (.list 2 (decide ((n : Int) ≤ 0)) [] []) (.slice (some ⟨w.heap.size, 0, none⟩) 0 cap) (fun x => x = w.heap.size ∨ ∃ i j, i < 0 ∧ j < 1 ∧ False) :=
        Own.deep (g := .list 2 (decide ((n : Int) ≤ 0)) [] []) w.heap.size cap cur (fun _ _ => undef) (fun _ _ _ => False) (fun h => by
          have : (n : Int) ≤ 0 := of_decide_eq_true h
          omega) rfl hnew (Nat.zero_le _) hle (by rw [hcs, t3]; exact (Nat.mul_one _).symm) (fun i j hi => absurd hi (Nat.not_lt_zero _)) (fun i j hi => absurd hi (Nat.not_lt_zero _)) (fun i j hi => absurd hi (Nat.not_lt_zero _)) (fun i j i' j' x hi => absurd hi (Nat.not_lt_zero _))
      have hS : ∀ b, (b = w.heap.size ∨ ∃ i j, i < 0 ∧ j < 1 ∧ False) → b = w.heap.size := fun b h => h.elim id (fun ⟨_, _, _, _, h⟩ => h.elim)
      refine ⟨(Below.refl _ w).drew.alloc (Nat.le_refl _) _, ⟨⟨#[.slice (some ⟨w.heap.size, 0, none⟩) 0 cap], F, fun _ _ x => x = w.heap.size ∨ ∃ i j, i < 0 ∧ j < 1 ∧ False, rfl, rfl, fun _ h => h, fun _ h => .inl h, ?_, ?_, ?_⟩⟩⟩
      · intro q t ms u hq hu
        match q with
        | 0 =>
          simp only [grow_sg, List.getElem?_cons_zero, Option.some.injEq, Prod.mk.injEq] at hq
          obtain ⟨rfl, rfl⟩ := hq
          simp only [List.getElem?_toArray, List.getElem?_cons_zero, Option.some.injEq] at hu
          subst hu
          rw [t28]
          refine ⟨rfl, (fun h => by cases h), (fun _ => rfl), fun j x hx => ?_⟩
          have hj : j < 1 := (Array.getElem?_eq_some_iff.1 hx).1
          obtain rfl : j = 0 := by omega
          have hx : x = .slice (some ⟨w.heap.size, 0, none⟩) 0 cap := by simpa [Value.cells] using hx.symm
          subst hx
          exact ⟨hown, fun _ => rfl⟩
        | q + 1 => simp [grow_sg] at hq
      · intro q t ms j b _ _ hb'
        have := hS b hb'
        subst this
        exact ⟨Nat.le_refl _, by rw [hsize]; omega, fun h => by have := hF _ h; omega⟩
      · intro q t ms j q' t' ms' j' b hq hj hq' hj' _ _
        have k1 : ∀ {q : Nat} {t : TypeId} {ms : List Nat} {j : Nat}, grow_sg.rs[q]? = some (t, ms) → j < (ttOf tl t).sz → q = 0 ∧ j = 0 := by
          intro q t ms j hq hj
          match q with
          | 0 =>
            simp only [grow_sg, List.getElem?_cons_zero, Option.some.injEq, Prod.mk.injEq] at hq
            obtain ⟨rfl, rfl⟩ := hq
            rw [t28] at hj
            exact ⟨rfl, by simp [TI.sz] at hj; exact hj⟩
          | q + 1 => simp [grow_sg] at hq
        obtain ⟨a1, a2⟩ := k1 hq hj
        obtain ⟨b1, b2⟩ := k1 hq' hj'
        omega

end Go.Proofs.YtgneobkmmmpbiaaGreatDoor

/- concat -/
namespace Go.Proofs.YtgneobkmmmpbiaaGreatDoor
open Go Go.Proofs Go.Eng Go.RowKit
set_option linter.unusedVariables false
set_option linter.unusedSimpArgs false

/-! concat. -/
def concat_sg : FSig := FSig.mk [49] [(36, [2])] false
noncomputable def concat_c : Code := Tryz.f76.body.getD .skip
def concat_E : Env := ⟨tl, [(107, grow_sg, grow_s)], dirsOf [], dirsOf [(0, [Dir.only [], Dir.sort [], Dir.keep [0, 3, 9, 10, 11]]), (1, [Dir.own 6 3 1006, Dir.only [1006], Dir.sort [1006], Dir.keep [6, 25, 26, 27]])], dirsOf [(0, [Dir.only [], Dir.sort [], Dir.keep [0, 3]]), (1, [Dir.own 6 3 1006, Dir.only [1006], Dir.sort [1006], Dir.keep [6]])], killOf [], joinsOf tl []⟩
def concat_sh1 : Shp := Shp.mk 36
 [(6, ASh.one (SSh.ref 3 1006)), (25, ASh.one (SSh.s (CK.slice 36))), (26, ASh.one (SSh.s (CK.int IntKind.i64))),
 (27, ASh.one (SSh.s (CK.int IntKind.i64)))]
 [(1006, RSh.val 3 3)]
def concat_xs1 : Outs := [(Ex.exit 2, Shp.mk 36 [(6, ASh.one (SSh.ref 3 1006))] [(1006, RSh.val 3 3)])]
def concat_b1 {β : Type} (fuel : Nat) (g0 g1 g2 g3 : GV) (kn : List GV → Option β) (kx : Nat → List GV → Option β) : Option β :=
 bif decide (g2.asInt < g1.asInt) then
 bif inRange g2.asInt g0.asList.length then
 bif lim tl 3 g3.asList.length (nth g0.all g2.asInt.toNat).asList.length then
 kn [g0, g1, GV.int (IntKind.i64.wrap (g2.asInt + 1)), GV.list 2 (g3.asZ && true) (g3.asList ++ (nth g0.all g2.asInt.toNat).asList) []]
 else none
 else none
else kx 0 [GV.list 2 g3.asZ g3.asList []]
def concat_e1 (fuel : Nat) : LEnt := ⟨1, concat_sh1, concat_xs1, fun gs kn kx => concat_b1 fuel (nth gs 0) (nth gs 1) (nth gs 2) (nth gs 3) kn kx⟩
def concat_l1 (fuel : Nat) (gs : List GV) : Option (Nat × List GV) := loopR (concat_e1 fuel).step fuel gs
theorem concat_t1 {β : Type} (fuel : Nat) (g0 g1 g2 g3 : GV) (kn : List GV → Option β) (kx : Nat → List GV → Option β) : (concat_e1 fuel).step [g0, g1, g2, g3] kn kx = concat_b1 fuel g0 g1 g2 g3 kn kx := rfl
theorem concat_k1 (fuel : Nat) : StepOk concat_E concat_c (LZ) (concat_e1 fuel) :=
  ⟨by kernel_rfl, fun gs kn kx => by kernel_rfl, fun f gs kn kx => by simp only [concat_e1, concat_b1, bind_cond, Option.bind_assoc, Option.bind_none]⟩
def concat_sh0 : Shp := Shp.mk 36
 [(0, ASh.one (SSh.s (CK.slice 36))), (3, ASh.one (SSh.s (CK.int IntKind.i64))), (9, ASh.one (SSh.s (CK.slice 36))),
 (10, ASh.one (SSh.s (CK.int IntKind.i64))), (11, ASh.one (SSh.s (CK.int IntKind.i64)))]
 []
def concat_xs0 : Outs := [(Ex.exit 0, Shp.mk 36 [(0, ASh.one (SSh.s (CK.slice 36))), (3, ASh.one (SSh.s (CK.int IntKind.i64)))] [])]
def concat_b0 {β : Type} (fuel : Nat) (g0 g1 g2 g3 g4 : GV) (kn : List GV → Option β) (kx : Nat → List GV → Option β) : Option β :=
 bif decide (g4.asInt < g3.asInt) then
 bif inRange g4.asInt g2.asList.length then
 bif decide (IntKind.i64.wrap (g1.asInt + (↑(nth g2.all g4.asInt.toNat).asList.length : Int)) < 0) then none
 else kn [g0, GV.int (IntKind.i64.wrap (g1.asInt + (↑(nth g2.all g4.asInt.toNat).asList.length : Int))), g2, g3, GV.int (IntKind.i64.wrap (g4.asInt + 1))]
 else none
else kx 0 [g0, g1]
def concat_e0 (fuel : Nat) : LEnt := ⟨0, concat_sh0, concat_xs0, fun gs kn kx => concat_b0 fuel (nth gs 0) (nth gs 1) (nth gs 2) (nth gs 3) (nth gs 4) kn kx⟩
def concat_l0 (fuel : Nat) (gs : List GV) : Option (Nat × List GV) := loopR (concat_e0 fuel).step fuel gs
theorem concat_t0 {β : Type} (fuel : Nat) (g0 g1 g2 g3 g4 : GV) (kn : List GV → Option β) (kx : Nat → List GV → Option β) : (concat_e0 fuel).step [g0, g1, g2, g3, g4] kn kx = concat_b0 fuel g0 g1 g2 g3 g4 kn kx := rfl
theorem concat_k0 (fuel : Nat) : StepOk concat_E concat_c (LSc (concat_e1 fuel) fuel (LZ)) (concat_e0 fuel) :=
  ⟨by kernel_rfl, fun gs kn kx => by kernel_rfl, fun f gs kn kx => by simp only [concat_e0, concat_b0, bind_cond, Option.bind_assoc, Option.bind_none]⟩
def concat_f (fuel : Nat) (a0 : GV) : Option R :=
 (concat_l0 fuel [a0, GV.int 0, a0, GV.int (↑a0.asList.length : Int), GV.int 0]).bind fun r0 =>
 (grow_s [GV.list 2 true [] [], nth r0.snd 1]).bind fun o1 =>
 (concat_l1 fuel
 [nth r0.snd 0, GV.int (↑(nth r0.snd 0).asList.length : Int), GV.int 0, GV.list 2 (bif (nth o1 0).asSp.isEmpty then (nth o1 0).asZ else false) (nth o1 0).asList []]).bind
 fun r2 => some [GV.list 2 (nth r2.snd 0).asZ (nth r2.snd 0).asList []]
theorem concat_q (fuel : Nat) (a0 : GV) : gexec concat_E (LSc (concat_e0 fuel) fuel (LSc (concat_e1 fuel) fuel (LZ))) Tryz.f76.ntmps Tryz.f76.results.toList concat_sg concat_c [a0] = concat_f fuel a0 := by kernel_rfl
theorem concat_calls (hS : SpecsOk Tryz.prog tl concat_E.sp) (fuel : Nat) : CallsOk Tryz.prog tl 76 concat_sg (gexec concat_E (LSc (concat_e0 fuel) fuel (LSc (concat_e1 fuel) fuel (LZ))) Tryz.f76.ntmps Tryz.f76.results.toList concat_sg concat_c) :=
  gexec_calls (E := concat_E) hP hS Tryz.func76 (by kernel_rfl) (by kernel_rfl) (fun W => LSc_ok hP hS (LSc_ok hP hS (LZ_ok) (concat_k1 fuel) fuel) (concat_k0 fuel) fuel)
theorem concat_hS : SpecsOk Tryz.prog tl concat_E.sp := (specs_cons specs_nil grow_ok Tryz.call107)
def flatL (l : List GV) : List GV := l.flatMap GV.asList
def concatOk (l : List GV) : Bool := Nat.ble l.length 1000 && Nat.ble (flatL l).length 4398046511104
def concat_s : List GV → Option R
  | [a0] => bif concatOk a0.asList then some [.list 2 (decide (((flatL a0.asList).length : Int) ≤ 0)) (flatL a0.asList) []] else none
  | _ => none
theorem flat_snoc {l : List GV} {i : Nat} (h : i < l.length) : flatL (l.take (i + 1)) = flatL (l.take i) ++ (nth l i).asList := by
  rw [take_snoc h]; simp [flatL]
theorem flat_le (l : List GV) (i : Nat) : (flatL (l.take i)).length ≤ (flatL l).length := by
  have : flatL l = flatL (l.take i) ++ flatL (l.drop i) := by
    unfold flatL
    rw [← List.flatMap_append, List.take_append_drop]
  rw [this, List.length_append]; omega
theorem concat_ok : CallsOk Tryz.prog tl 76 concat_sg concat_s := (concat_calls (specs_cons specs_nil grow_ok Tryz.call107) 1001).of fun gs outs h => by
  rcases gs with _ | ⟨a0, _ | ⟨a1, t⟩⟩ <;> first | (cases h; done) | skip
  rw [concat_q 1001]
  simp only [concat_s] at h
  cases hb : concatOk a0.asList with
  | false => rw [hb] at h; cases h
  | true =>
    rw [hb] at h
    rw [← h]
    unfold concatOk at hb
    simp only [Bool.and_eq_true] at hb
    have h1 := Nat.le_of_ble_eq_true hb.1
    have h2 := Nat.le_of_ble_eq_true hb.2
    unfold concat_f concat_l0 concat_l1
    have key0 := loop_done (step := (concat_e0 1001).step) (S := fun i => [a0, .int ((flatL (a0.asList.take i)).length : Nat), a0, .int (a0.asList.length : Nat), .int (i : Nat)]) (n := a0.asList.length) (q := 0) (zs := [a0, .int ((flatL a0.asList).length : Nat)]) (fun i hi kn kx => by
        rw [concat_t0]
        unfold concat_b0
        refine (cT (show ((i : Nat) : Int) < ((a0.asList.length : Nat) : Int) by omega) _ _).trans ?_
        refine (bT (inRange_nat hi) _ _).trans ?_
        have hn : nth a0.all (GV.int (i : Int)).asInt.toNat = nth a0.asList i := nth_all hi
        have hle := flat_le a0.asList (i + 1)
        have hw : IntKind.i64.wrap ((GV.int (((flatL (a0.asList.take i)).length : Nat) : Int)).asInt + (((nth a0.all (GV.int (i : Int)).asInt.toNat).asList.length : Nat) : Int)) = ((flatL (a0.asList.take (i + 1))).length : Nat) := by
          rw [hn, flat_snoc hi] at *
          simp only [List.length_append] at hle ⊢
          simp only [asInt_int]
          rw [w64 (by omega) (by omega)]
          omega
        rw [hw]
        refine (cF (by omega) _ _).trans ?_
        simp only [asInt_int]
        rw [w64 (by omega) (by omega)]
        rfl) (fun kn kx => by
        rw [concat_t0]
        unfold concat_b0
        refine (cF (show ¬ ((a0.asList.length : Nat) : Int) < ((a0.asList.length : Nat) : Int) by omega) _ _).trans ?_
        rw [List.take_length]) (N := 1001) (by omega)
    have e0 : ([a0, GV.int 0, a0, GV.int ((a0.asList.length : Nat) : Int), GV.int 0] : List GV) = [a0, .int ((flatL (a0.asList.take 0)).length : Nat), a0, .int (a0.asList.length : Nat), .int ((0 : Nat) : Int)] := rfl
    rw [e0, key0]
    simp only [Option.bind_some, nth_zero, nth_succ]
    have hg : grow_s [GV.list 2 true [] [], .int ((flatL a0.asList).length : Nat)] = some [.list 2 (decide (((flatL a0.asList).length : Int) ≤ 0)) [] []] := by
      have k1 : (0 : Int) ≤ ((flatL a0.asList).length : Nat) := by omega
      have k2 : (((flatL a0.asList).length : Nat) : Int) ≤ 8796093022208 := by omega
      show (bif true && (true && (decide ((0 : Int) ≤ ((flatL a0.asList).length : Nat)) && decide ((((flatL a0.asList).length : Nat) : Int) ≤ 8796093022208))) then _ else _) = _
      rw [dT k1, dT k2]
      rfl
    rw [hg]
    simp only [Option.bind_some, nth_zero, asSp_list, asZ_list, asList_list, List.isEmpty_nil, cond_true]
    generalize decide (((flatL a0.asList).length : Int) ≤ 0) = z
    have key1 := loop_done (step := (concat_e1 1001).step) (S := fun i => [a0, .int (a0.asList.length : Nat), .int (i : Nat), .list 2 z (flatL (a0.asList.take i)) []]) (n := a0.asList.length) (q := 0) (zs := [.list 2 z (flatL a0.asList) []]) (fun i hi kn kx => by
        rw [concat_t1]
        unfold concat_b1
        refine (cT (show ((i : Nat) : Int) < ((a0.asList.length : Nat) : Int) by omega) _ _).trans ?_
        refine (bT (inRange_nat hi) _ _).trans ?_
        have hn : nth a0.all (GV.int (i : Int)).asInt.toNat = nth a0.asList i := nth_all hi
        have hle := flat_le a0.asList (i + 1)
        rw [hn]
        rw [flat_snoc hi, List.length_append] at hle
        refine (bT (lim3 (by simp only [asList_list]; omega)) _ _).trans ?_
        simp only [asInt_int, asZ_list, asList_list, Bool.and_true]
        rw [w64 (by omega) (by omega), flat_snoc hi]
        rfl) (fun kn kx => by
        rw [concat_t1]
        unfold concat_b1
        refine (cF (show ¬ ((a0.asList.length : Nat) : Int) < ((a0.asList.length : Nat) : Int) by omega) _ _).trans ?_
        rw [List.take_length]
        rfl) (N := 1001) (by omega)
    have e1 : ([a0, GV.int ((a0.asList.length : Nat) : Int), GV.int 0, GV.list 2 z [] []] : List GV) = [a0, .int (a0.asList.length : Nat), .int ((0 : Nat) : Int), .list 2 z (flatL (a0.asList.take 0)) []] := rfl
    rw [e1, key1]
    rfl

end Go.Proofs.YtgneobkmmmpbiaaGreatDoor

/- half -/
namespace Go.Proofs.YtgneobkmmmpbiaaGreatDoor
open Go Go.Proofs Go.Eng Go.RowKit
set_option linter.unusedVariables false
set_option linter.unusedSimpArgs false

/-! half. -/
def half_sg : FSig := FSig.mk [5] [(5, []), (4, [])] false
noncomputable def half_c : Code := Tryz.f158.body.getD .skip
def half_E : Env := ⟨tl, [], dirsOf [], dirsOf [], dirsOf [], killOf [], joinsOf tl []⟩
def half_f (fuel : Nat) (a0 : GV) : Option R :=
 bif a0.asInt == 61 then some [GV.int 13, GV.bool true] else some [GV.int (IntKind.u8.wrap (a0.asInt - 48)), GV.bool (bif decide (a0.asInt ≥ 48) then decide (a0.asInt ≤ 57) else false)]
theorem half_q (fuel : Nat) (a0 : GV) : gexec half_E (LZ) Tryz.f158.ntmps Tryz.f158.results.toList half_sg half_c [a0] = half_f fuel a0 := by kernel_rfl
theorem half_calls (hS : SpecsOk Tryz.prog tl half_E.sp) (fuel : Nat) : CallsOk Tryz.prog tl 158 half_sg (gexec half_E (LZ) Tryz.f158.ntmps Tryz.f158.results.toList half_sg half_c) :=
  gexec_calls (E := half_E) hP hS Tryz.func158 (by kernel_rfl) (by kernel_rfl) (fun W => LZ_ok)
theorem half_hS : SpecsOk Tryz.prog tl half_E.sp := specs_nil
def halfZ (c : Int) : Int := bif c == 61 then 13 else IntKind.u8.wrap (c - 48)
def halfB (c : Int) : Bool := bif c == 61 then true else decide (c ≥ 48) && decide (c ≤ 57)
def half_s : List GV → Option R
  | [a0] => some [.int (halfZ a0.asInt), .bool (halfB a0.asInt)]
  | _ => none
theorem half_ok : CallsOk Tryz.prog tl 158 half_sg half_s := (half_calls specs_nil 0).of fun gs outs h => by
  rcases gs with _ | ⟨a0, _ | ⟨a1, t⟩⟩ <;> first | (cases h; done) | skip
  rw [half_q 0, ← h]
  simp only [half_f, half_s, halfZ, halfB]
  cases a0.asInt == 61 <;> cases decide (a0.asInt ≥ 48) <;> rfl

end Go.Proofs.YtgneobkmmmpbiaaGreatDoor

/- packHalves -/
namespace Go.Proofs.YtgneobkmmmpbiaaGreatDoor
open Go Go.Proofs Go.Eng Go.RowKit
set_option linter.unusedVariables false
set_option linter.unusedSimpArgs false

/-! packHalves. -/
def packHalves_sg : FSig := FSig.mk [3, 9] [(9, []), (28, [])] false
noncomputable def packHalves_c : Code := Tryz.f143.body.getD .skip
def packHalves_E : Env := ⟨tl, [(158, half_sg, half_s)], dirsOf [], dirsOf [(0, [Dir.own 6 5 1006, Dir.only [1006], Dir.sort [1006], Dir.keep [1, 6, 24, 25]]), (1, [Dir.own 6 5 1006, Dir.own 10 5 1010, Dir.only [1006, 1010], Dir.sort [1006, 1010], Dir.keep [6, 10, 11]])], dirsOf [(0, [Dir.own 6 5 1006, Dir.only [1006], Dir.sort [1006], Dir.keep [4, 5, 6]]), (1, [Dir.own 10 5 1010, Dir.only [1010], Dir.sort [1010], Dir.keep [10]])], killOf [], joinsOf tl []⟩
def packHalves_sh1 : Shp := Shp.mk 71 [(6, ASh.one (SSh.ref 5 1006)), (10, ASh.one (SSh.ref 5 1010)), (11, ASh.one (SSh.s (CK.int IntKind.i64)))] [(1006, RSh.val 3 5), (1010, RSh.val 3 5)]
def packHalves_xs1 : Outs := [(Ex.exit 2, Shp.mk 71 [(10, ASh.one (SSh.ref 5 1010))] [(1010, RSh.val 3 5)])]
def packHalves_b1 {β : Type} (fuel : Nat) (g0 g1 g2 : GV) (kn : List GV → Option β) (kx : Nat → List GV → Option β) : Option β :=
 bif decide (g0.asInt < (↑g1.asList.length : Int)) then
 bif inRange g0.asInt g1.asList.length && true && true && true then
 bif inRange (IntKind.i64.wrap (g0.asInt + 1)) g1.asList.length && true && true && true then
 bif lim tl 5 g2.asList.length 1 then
 kn
 [GV.int (IntKind.i64.wrap (g0.asInt + 2)), GV.list 2 g1.asZ g1.asList [],
 GV.list 2 (g2.asZ && true)
 (g2.asList ++
 [GV.int
 (bitI Go.BinOp.or IntKind.u8 (shlI IntKind.u8 (nth (GV.list 2 g1.asZ g1.asList []).all g0.asInt.toNat).asInt 4)
 (nth (GV.list 2 g1.asZ g1.asList []).all (IntKind.i64.wrap (g0.asInt + 1)).toNat).asInt)])
 []]
 else none
 else none
 else none
else kx 0 [GV.list 2 g2.asZ g2.asList []]
def packHalves_e1 (fuel : Nat) : LEnt := ⟨1, packHalves_sh1, packHalves_xs1, fun gs kn kx => packHalves_b1 fuel (nth gs 0) (nth gs 1) (nth gs 2) kn kx⟩
def packHalves_l1 (fuel : Nat) (gs : List GV) : Option (Nat × List GV) := loopR (packHalves_e1 fuel).step fuel gs
theorem packHalves_t1 {β : Type} (fuel : Nat) (g0 g1 g2 : GV) (kn : List GV → Option β) (kx : Nat → List GV → Option β) : (packHalves_e1 fuel).step [g0, g1, g2] kn kx = packHalves_b1 fuel g0 g1 g2 kn kx := rfl
theorem packHalves_k1 (fuel : Nat) : StepOk packHalves_E packHalves_c (LZ) (packHalves_e1 fuel) :=
  ⟨by kernel_rfl, fun gs kn kx => by kernel_rfl, fun f gs kn kx => by simp only [packHalves_e1, packHalves_b1, bind_cond, Option.bind_assoc, Option.bind_none]⟩
def packHalves_sh0 : Shp := Shp.mk 71
 [(1, ASh.one (SSh.s CK.str)), (6, ASh.one (SSh.ref 5 1006)), (24, ASh.one (SSh.s (CK.int IntKind.i64))), (25, ASh.one (SSh.s (CK.int IntKind.i64)))]
 [(1006, RSh.val 3 5)]
def packHalves_xs0 : Outs := [(Ex.ret, Shp.mk 71 [(4, ASh.one (SSh.s CK.str)), (5, ASh.one (SSh.s (CK.int IntKind.i64))), (6, ASh.one (SSh.ref 5 1006))] [(1006, RSh.val 3 5)]),
 (Ex.exit 0, Shp.mk 71 [(4, ASh.one SSh.dead), (5, ASh.one SSh.dead), (6, ASh.one (SSh.ref 5 1006))] [(1006, RSh.val 3 5)])]
def packHalves_b0 {β : Type} (fuel : Nat) (g0 g1 g2 g3 : GV) (kn : List GV → Option β) (kx : Nat → List GV → Option β) : Option β :=
 bif decide (g2.asInt < g1.asInt) then
 bif inRange g2.asInt g0.asStr.size then
 bif !halfB (bt g0.asStr g2.asInt.toNat) then kx 0 [GV.str (ByteArray.mk #[]), GV.int 11, GV.list 2 g3.asZ g3.asList []]
 else
 bif lim tl 5 g3.asList.length 1 then
 kn [g0, g1, GV.int (IntKind.i64.wrap (g2.asInt + 1)), GV.list 2 (g3.asZ && true) (g3.asList ++ [GV.int (halfZ (bt g0.asStr g2.asInt.toNat))]) []]
 else none
 else none
else kx 1 [GV.list 2 g3.asZ g3.asList []]
def packHalves_e0 (fuel : Nat) : LEnt := ⟨0, packHalves_sh0, packHalves_xs0, fun gs kn kx => packHalves_b0 fuel (nth gs 0) (nth gs 1) (nth gs 2) (nth gs 3) kn kx⟩
def packHalves_l0 (fuel : Nat) (gs : List GV) : Option (Nat × List GV) := loopR (packHalves_e0 fuel).step fuel gs
theorem packHalves_t0 {β : Type} (fuel : Nat) (g0 g1 g2 g3 : GV) (kn : List GV → Option β) (kx : Nat → List GV → Option β) : (packHalves_e0 fuel).step [g0, g1, g2, g3] kn kx = packHalves_b0 fuel g0 g1 g2 g3 kn kx := rfl
theorem packHalves_k0 (fuel : Nat) : StepOk packHalves_E packHalves_c (LSc (packHalves_e1 fuel) fuel (LZ)) (packHalves_e0 fuel) :=
  ⟨by kernel_rfl, fun gs kn kx => by kernel_rfl, fun f gs kn kx => by simp only [packHalves_e0, packHalves_b0, bind_cond, Option.bind_assoc, Option.bind_none]⟩
def packHalves_f (fuel : Nat) (a0 a1 : GV) : Option R :=
 bif bif a0.asInt == 2 then (↑a1.asStr.size : Int).tmod 2 == 1 else false then
 (packHalves_l0 fuel [a1, GV.int (↑a1.asStr.size : Int), GV.int 0, GV.list 2 true [GV.int 0] []]).bind fun r0 =>
 bif r0.fst.beq 0 then some [nth r0.snd 0, nth r0.snd 1]
 else
 bif (↑(nth r0.snd 0).asList.length : Int).tmod 2 == 1 then
 bif lim tl 5 (nth r0.snd 0).asList.length 1 then
 (packHalves_l1 fuel [GV.int 0, GV.list 2 ((nth r0.snd 0).asZ && true) ((nth r0.snd 0).asList ++ [GV.int 15]) [], GV.list 2 true [] []]).bind fun r1 =>
 bif (nth r1.snd 0).asList.length.ble 140737488351232 then some [GV.str (bytesStr (nth r1.snd 0).asList), GV.int 0] else none
 else none
 else
 (packHalves_l1 fuel [GV.int 0, GV.list 2 (nth r0.snd 0).asZ (nth r0.snd 0).asList [], GV.list 2 true [] []]).bind fun r2 =>
 bif (nth r2.snd 0).asList.length.ble 140737488351232 then some [GV.str (bytesStr (nth r2.snd 0).asList), GV.int 0] else none
else
 (packHalves_l0 fuel [a1, GV.int (↑a1.asStr.size : Int), GV.int 0, GV.list 2 true [] []]).bind fun r3 =>
 bif r3.fst.beq 0 then some [nth r3.snd 0, nth r3.snd 1]
 else
 bif (↑(nth r3.snd 0).asList.length : Int).tmod 2 == 1 then
 bif lim tl 5 (nth r3.snd 0).asList.length 1 then
 (packHalves_l1 fuel [GV.int 0, GV.list 2 ((nth r3.snd 0).asZ && true) ((nth r3.snd 0).asList ++ [GV.int 15]) [], GV.list 2 true [] []]).bind fun r4 =>
 bif (nth r4.snd 0).asList.length.ble 140737488351232 then some [GV.str (bytesStr (nth r4.snd 0).asList), GV.int 0] else none
 else none
 else
 (packHalves_l1 fuel [GV.int 0, GV.list 2 (nth r3.snd 0).asZ (nth r3.snd 0).asList [], GV.list 2 true [] []]).bind fun r5 =>
 bif (nth r5.snd 0).asList.length.ble 140737488351232 then some [GV.str (bytesStr (nth r5.snd 0).asList), GV.int 0] else none
theorem packHalves_q (fuel : Nat) (a0 a1 : GV) : gexec packHalves_E (LSc (packHalves_e0 fuel) fuel (LSc (packHalves_e1 fuel) fuel (LZ))) Tryz.f143.ntmps Tryz.f143.results.toList packHalves_sg packHalves_c [a0, a1] = packHalves_f fuel a0 a1 := by kernel_rfl
theorem packHalves_calls (hS : SpecsOk Tryz.prog tl packHalves_E.sp) (fuel : Nat) : CallsOk Tryz.prog tl 143 packHalves_sg (gexec packHalves_E (LSc (packHalves_e0 fuel) fuel (LSc (packHalves_e1 fuel) fuel (LZ))) Tryz.f143.ntmps Tryz.f143.results.toList packHalves_sg packHalves_c) :=
  gexec_calls (E := packHalves_E) hP hS Tryz.func143 (by kernel_rfl) (by kernel_rfl) (fun W => LSc_ok hP hS (LSc_ok hP hS (LZ_ok) (packHalves_k1 fuel) fuel) (packHalves_k0 fuel) fuel)
theorem packHalves_hS : SpecsOk Tryz.prog tl packHalves_E.sp := (specs_cons specs_nil half_ok Tryz.call158)
def halvesL (s : ByteArray) : List GV := (List.range s.size).map fun i => .int (halfZ (bt s i))
theorem halvesL_len (s : ByteArray) : (halvesL s).length = s.size := by simp [halvesL]
def allHalf (s : ByteArray) : Bool := (List.range s.size).all fun i => halfB (bt s i)
def pairG (l : List GV) (i : Nat) : GV := .int (bitI .or .u8 (shlI .u8 (nth l i).asInt 4) (nth l (i + 1)).asInt)
def pairsL (l : List GV) (k : Nat) : List GV := (List.range k).map fun j => pairG l (2 * j)
def preL (e : Int) (s : ByteArray) : List GV := bif e == 2 && Nat.beq (s.size % 2) 1 then [.int 0] else []
def packL (e : Int) (s : ByteArray) : List GV := preL e s ++ halvesL s
def packL2 (e : Int) (s : ByteArray) : List GV := packL e s ++ (bif Nat.beq ((packL e s).length % 2) 1 then [.int 15] else [])
def packH (e : Int) (s : ByteArray) : List GV := pairsL (packL2 e s) ((packL2 e s).length / 2)
def packHalves_s : List GV → Option R
  | [a0, a1] => bif Nat.ble a1.asStr.size 1000000000 && allHalf a1.asStr then some [.str (bytesStr (packH a0.asInt a1.asStr)), .int 0] else none
  | _ => none
theorem halves_run0 {s : ByteArray} (hs : s.size ≤ 1000000000) (ha : allHalf s = true) (a1 : GV) (h1 : a1.asStr = s) (pre : List GV) (hpre : pre.length ≤ 1) {N : Nat} (hN : s.size < N) :
    packHalves_l0 N [a1, .int (s.size : Nat), .int 0, .list 2 true pre []] = some (1, [.list 2 true (pre ++ halvesL s) []]) := by
  have key := loop_done (step := (packHalves_e0 N).step) (S := fun i => [a1, .int (s.size : Nat), .int (i : Nat), .list 2 true (pre ++ (halvesL s).take i) []]) (n := s.size) (q := 1) (zs := [.list 2 true (pre ++ halvesL s) []]) (fun i hi kn kx => by
      rw [packHalves_t0]
      unfold packHalves_b0
      have e1 : decide ((GV.int (i : Int)).asInt < (GV.int (s.size : Nat)).asInt) = true := by simp; omega
      have e2 : inRange (GV.int (i : Int)).asInt a1.asStr.size = true := by rw [h1]; exact inRange_nat hi
      have e3 : halfB (bt s i) = true := List.all_eq_true.1 ha i (List.mem_range.2 hi)
      have e4 : lim tl 5 (GV.list 2 true (pre ++ (halvesL s).take i) []).asList.length 1 = true := lim5 (by simp [halvesL_len, LIM]; omega)
      rw [e1, e2, e4]
      simp only [cond_true, asInt_int, Int.toNat_natCast, h1, e3, Bool.not_true, cond_false, asZ_list, asList_list]
      rw [w64 (by omega) (by omega)]
      have e5 : (halvesL s).take (i + 1) = (halvesL s).take i ++ [.int (halfZ (bt s i))] := by
        rw [List.take_add_one]
        congr 1
        unfold halvesL
        rw [List.getElem?_map, List.getElem?_range hi]; rfl
      rw [e5, List.append_assoc]
      rfl) (fun kn kx => by
      rw [packHalves_t0]
      unfold packHalves_b0
      have e1 : decide ((GV.int (s.size : Int)).asInt < (GV.int (s.size : Nat)).asInt) = false := by simp
      rw [e1]
      have e2 : (halvesL s).take s.size = halvesL s := by rw [← halvesL_len s, List.take_length]
      rw [e2]
      rfl) hN
  have e : (halvesL s).take 0 = [] := rfl
  unfold packHalves_l0
  simp only [e, List.append_nil] at key
  exact key
theorem halves_run1 {l : List GV} {m : Nat} (hl : l.length = 2 * m) (hm : m ≤ 1000000001) (z : Bool) {N : Nat} (hN : m < N) : packHalves_l1 N [.int 0, .list 2 z l [], .list 2 true [] []] = some (0, [.list 2 true (pairsL l m) []]) := by
  have key := loop_done (step := (packHalves_e1 N).step) (S := fun k => [.int (2 * k : Nat), .list 2 z l [], .list 2 true (pairsL l k) []]) (n := m) (q := 0) (zs := [.list 2 true (pairsL l m) []]) (fun k hk kn kx => by
      rw [packHalves_t1]
      unfold packHalves_b1
      have e1 : decide ((GV.int ((2 * k : Nat) : Int)).asInt < ((GV.list 2 z l []).asList.length : Int)) = true := by simp [hl]; omega
      have e2 : inRange (GV.int ((2 * k : Nat) : Int)).asInt (GV.list 2 z l []).asList.length = true := by simp only [asList_list, asInt_int, hl]; exact inRange_nat (by omega)
      have e3 : IntKind.i64.wrap ((GV.int ((2 * k : Nat) : Int)).asInt + 1) = ((2 * k + 1 : Nat) : Int) := by simp only [asInt_int]; rw [w64 (by omega) (by omega)]; omega
      have e4 : inRange ((2 * k + 1 : Nat) : Int) (GV.list 2 z l []).asList.length = true := by simp only [asList_list, hl]; exact inRange_nat (by omega)
      have e5 : lim tl 5 (GV.list 2 true (pairsL l k) []).asList.length 1 = true := lim5 (by simp [pairsL, LIM]; omega)
      have e6 : IntKind.i64.wrap ((GV.int ((2 * k : Nat) : Int)).asInt + 2) = ((2 * (k + 1) : Nat) : Int) := by simp only [asInt_int]; rw [w64 (by omega) (by omega)]; omega
      rw [e1, e2, e3, e4, e5, e6]
      simp only [Bool.and_true, cond_true, asZ_list, asList_list, all_list, List.append_nil, asInt_int, Int.toNat_natCast]
      have e7 : pairsL l (k + 1) = pairsL l k ++ [pairG l (2 * k)] := by simp [pairsL, List.range_succ]
      rw [e7]
      rfl) (fun kn kx => by
      rw [packHalves_t1]
      unfold packHalves_b1
      have e1 : decide ((GV.int ((2 * m : Nat) : Int)).asInt < ((GV.list 2 z l []).asList.length : Int)) = false := by simp [hl]
      rw [e1]
      rfl) hN
  exact key
theorem packL2_even (e : Int) (s : ByteArray) : (packL2 e s).length = 2 * ((packL2 e s).length / 2) := by
  unfold packL2
  cases h : Nat.beq ((packL e s).length % 2) 1 with
  | true => have := Nat.eq_of_beq_eq_true h; simp only [cond_true, List.length_append, List.length_singleton]; omega
  | false =>
    have : (packL e s).length % 2 ≠ 1 := fun hh => by rw [hh] at h; cases h
    simp only [cond_false, List.append_nil]; omega
theorem packL2_le {e : Int} {s : ByteArray} (hs : s.size ≤ 1000000000) : (packL2 e s).length ≤ 1000000002 := by
  unfold packL2 packL preL
  have key : ∀ (b c : Bool) (l : List GV), l.length ≤ 1000000001 → (l ++ (bif c then [GV.int 15] else [])).length ≤ 1000000002 := by
    intro b c l h
    cases c <;> simp <;> omega
  refine key true _ _ ?_
  cases e == 2 && Nat.beq (s.size % 2) 1 <;> simp [halvesL_len] <;> omega
theorem odd_iff (n : Nat) : ((n : Int).tmod 2 == 1) = Nat.beq (n % 2) 1 := by
  have e : (n : Int).tmod 2 = ((n % 2 : Nat) : Int) := by rw [Int.tmod_eq_emod_of_nonneg (by omega)]; omega
  rw [e]
  by_cases h : n % 2 = 1
  · rw [h]; rfl
  · have h0 : n % 2 = 0 := by omega
    rw [h0]; rfl
/-- What stands behind the first loop. -/
theorem halves_tail {e : Int} {s : ByteArray} (hs : s.size ≤ 1000000000) {N : Nat} (hN : 1000000003 ≤ N) :
    (bif Nat.beq ((packL e s).length % 2) 1 then
        bif lim tl 5 (packL e s).length 1 then
          (packHalves_l1 N [GV.int 0, GV.list 2 true (packL e s ++ [GV.int 15]) [], GV.list 2 true [] []]).bind fun r1 =>
            bif (nth r1.snd 0).asList.length.ble 140737488351232 then some [GV.str (bytesStr (nth r1.snd 0).asList), GV.int 0] else none
        else none
      else
        (packHalves_l1 N [GV.int 0, GV.list 2 true (packL e s) [], GV.list 2 true [] []]).bind fun r2 =>
          bif (nth r2.snd 0).asList.length.ble 140737488351232 then some [GV.str (bytesStr (nth r2.snd 0).asList), GV.int 0] else none : Option R) = some [.str (bytesStr (packH e s)), .int 0] := by
  have h1 := packL2_even e s
  have h2 := packL2_le (e := e) hs
  have fin : ∀ z, ((packHalves_l1 N [GV.int 0, GV.list 2 z (packL2 e s) [], GV.list 2 true [] []]).bind fun r1 =>
            bif (nth r1.snd 0).asList.length.ble 140737488351232 then some [GV.str (bytesStr (nth r1.snd 0).asList), GV.int 0] else none : Option R) = some [.str (bytesStr (packH e s)), .int 0] := by
    intro z
    rw [halves_run1 h1 (by omega) z (by omega)]
    simp only [Option.bind_some, nth_zero, asList_list]
    have : Nat.ble (pairsL (packL2 e s) ((packL2 e s).length / 2)).length 140737488351232 = true := Nat.ble_eq_true_of_le (by simp [pairsL]; omega)
    rw [this]; rfl
  cases h : Nat.beq ((packL e s).length % 2) 1 with
  | true =>
    have e2 : packL2 e s = packL e s ++ [GV.int 15] := by unfold packL2; rw [h]; rfl
    have e3 : lim tl 5 (packL e s).length 1 = true := lim5 (by rw [e2] at h2; simp at h2; unfold LIM; omega)
    rw [e3, ← e2]
    exact fin true
  | false =>
    have e2 : packL2 e s = packL e s := by unfold packL2; rw [h]; simp
    rw [← e2]
    exact fin true
theorem packHalves_ok : CallsOk Tryz.prog tl 143 packHalves_sg packHalves_s := (packHalves_calls (specs_cons specs_nil half_ok Tryz.call158) 1000000003).of fun gs outs h => by
  rcases gs with _ | ⟨a0, _ | ⟨a1, _ | ⟨a2, t⟩⟩⟩ <;> first | (cases h; done) | skip
  rw [packHalves_q 1000000003]
  simp only [packHalves_s] at h
  cases hb : Nat.ble a1.asStr.size 1000000000 && allHalf a1.asStr with
  | false => rw [hb] at h; cases h
  | true =>
    rw [hb] at h
    rw [← h]
    simp only [Bool.and_eq_true] at hb
    have hs := Nat.le_of_ble_eq_true hb.1
    have tail := halves_tail (e := a0.asInt) hs (Nat.le_refl _)
    unfold packHalves_f
    rw [odd_iff]
    cases hc : (bif a0.asInt == 2 then Nat.beq (a1.asStr.size % 2) 1 else false) with
    | true =>
      have hp : preL a0.asInt a1.asStr = [.int 0] := by
        unfold preL
        have : (a0.asInt == 2 && Nat.beq (a1.asStr.size % 2) 1) = true := by revert hc; cases a0.asInt == 2 <;> simp
        rw [this]; rfl
      simp only [cond_true]
      rw [halves_run0 hs hb.2 a1 rfl [.int 0] (by simp) (by omega)]
      simp only [Option.bind_some, nth_zero, asList_list, asZ_list, odd_iff]
      unfold packL at tail
      rw [hp] at tail
      exact tail
    | false =>
      have hp : preL a0.asInt a1.asStr = [] := by
        unfold preL
        have : (a0.asInt == 2 && Nat.beq (a1.asStr.size % 2) 1) = false := by revert hc; cases a0.asInt == 2 <;> simp
        rw [this]; rfl
      simp only [cond_false]
      rw [halves_run0 hs hb.2 a1 rfl [] (by simp) (by omega)]
      simp only [Option.bind_some, nth_zero, asList_list, asZ_list, odd_iff]
      unfold packL at tail
      rw [hp] at tail
      exact tail

end Go.Proofs.YtgneobkmmmpbiaaGreatDoor

/- ebcdic -/
namespace Go.Proofs.YtgneobkmmmpbiaaGreatDoor
open Go Go.Proofs Go.Eng Go.RowKit
set_option linter.unusedVariables false
set_option linter.unusedSimpArgs false

/-! ebcdic. -/
def ebcdic_sg : FSig := FSig.mk [] [(185, [])] false
noncomputable def ebcdic_c : Code := Tryz.f159.body.getD .skip
def ebcdic_E : Env := ⟨tl, [], dirsOf [], dirsOf [], dirsOf [], killOf [], joinsOf tl []⟩
def ebcdic_f (fuel : Nat) : Option R :=
 some
 [GV.agg
 [GV.int 64, GV.int 90, GV.int 127, GV.int 123, GV.int 91, GV.int 108, GV.int 80, GV.int 125, GV.int 77, GV.int 93, GV.int 92, GV.int 78,
 GV.int 107, GV.int 96, GV.int 75, GV.int 97, GV.int 240, GV.int 241, GV.int 242, GV.int 243, GV.int 244, GV.int 245, GV.int 246, GV.int 247,
 GV.int 248, GV.int 249, GV.int 122, GV.int 94, GV.int 76, GV.int 126, GV.int 110, GV.int 111, GV.int 124, GV.int 193, GV.int 194, GV.int 195,
 GV.int 196, GV.int 197, GV.int 198, GV.int 199, GV.int 200, GV.int 201, GV.int 209, GV.int 210, GV.int 211, GV.int 212, GV.int 213, GV.int 214,
 GV.int 215, GV.int 216, GV.int 217, GV.int 226, GV.int 227, GV.int 228, GV.int 229, GV.int 230, GV.int 231, GV.int 232, GV.int 233, GV.int 186,
 GV.int 224, GV.int 187, GV.int 176, GV.int 109, GV.int 121, GV.int 129, GV.int 130, GV.int 131, GV.int 132, GV.int 133, GV.int 134, GV.int 135,
 GV.int 136, GV.int 137, GV.int 145, GV.int 146, GV.int 147, GV.int 148, GV.int 149, GV.int 150, GV.int 151, GV.int 152, GV.int 153, GV.int 162,
 GV.int 163, GV.int 164, GV.int 165, GV.int 166, GV.int 167, GV.int 168, GV.int 169, GV.int 192, GV.int 79, GV.int 208, GV.int 161]]
theorem ebcdic_q (fuel : Nat) : gexec ebcdic_E (LZ) Tryz.f159.ntmps Tryz.f159.results.toList ebcdic_sg ebcdic_c [] = ebcdic_f fuel  := by kernel_rfl
theorem ebcdic_calls (hS : SpecsOk Tryz.prog tl ebcdic_E.sp) (fuel : Nat) : CallsOk Tryz.prog tl 159 ebcdic_sg (gexec ebcdic_E (LZ) Tryz.f159.ntmps Tryz.f159.results.toList ebcdic_sg ebcdic_c) :=
  gexec_calls (E := ebcdic_E) hP hS Tryz.func159 (by kernel_rfl) (by kernel_rfl) (fun W => LZ_ok)
theorem ebcdic_hS : SpecsOk Tryz.prog tl ebcdic_E.sp := specs_nil
def ebcdic_s : List GV → Option R
  | [] => ebcdic_f 0
  | _ => none
theorem ebcdic_ok : CallsOk Tryz.prog tl 159 ebcdic_sg ebcdic_s := (ebcdic_calls specs_nil 0).of fun gs outs h => by
  rcases gs with _ | ⟨a0, t⟩ <;> first | (cases h; done) | skip
  rw [ebcdic_q 0, ← h]
  rfl

end Go.Proofs.YtgneobkmmmpbiaaGreatDoor

/- wrt -/
namespace Go.Proofs.YtgneobkmmmpbiaaGreatDoor
open Go Go.Proofs Go.Eng Go.RowKit
set_option linter.unusedVariables false
set_option linter.unusedSimpArgs false

/-! wrt. -/
def wrt_sg : FSig := FSig.mk [3, 5] [(5, []), (4, [])] false
noncomputable def wrt_c : Code := Tryz.f144.body.getD .skip
def wrt_E : Env := ⟨tl, [(159, ebcdic_sg, ebcdic_s)], dirsOf [], dirsOf [], dirsOf [], killOf [], joinsOf tl []⟩
def wrt_f (fuel : Nat) (a0 a1 : GV) : Option R :=
 bif a0.asInt == 5 then some [a1, GV.bool true]
else
 bif bif decide (a1.asInt < 32) then true else decide (a1.asInt > 126) then some [GV.int 0, GV.bool false]
 else
 bif a0.asInt == 4 then
 bif inRange (IntKind.u8.wrap (a1.asInt - 32)) 95 then
 some
 [cellG true
 (GV.agg
 [GV.int 64, GV.int 90, GV.int 127, GV.int 123, GV.int 91, GV.int 108, GV.int 80, GV.int 125, GV.int 77, GV.int 93, GV.int 92, GV.int 78,
 GV.int 107, GV.int 96, GV.int 75, GV.int 97, GV.int 240, GV.int 241, GV.int 242, GV.int 243, GV.int 244, GV.int 245, GV.int 246,
 GV.int 247, GV.int 248, GV.int 249, GV.int 122, GV.int 94, GV.int 76, GV.int 126, GV.int 110, GV.int 111, GV.int 124, GV.int 193,
 GV.int 194, GV.int 195, GV.int 196, GV.int 197, GV.int 198, GV.int 199, GV.int 200, GV.int 201, GV.int 209, GV.int 210, GV.int 211,
 GV.int 212, GV.int 213, GV.int 214, GV.int 215, GV.int 216, GV.int 217, GV.int 226, GV.int 227, GV.int 228, GV.int 229, GV.int 230,
 GV.int 231, GV.int 232, GV.int 233, GV.int 186, GV.int 224, GV.int 187, GV.int 176, GV.int 109, GV.int 121, GV.int 129, GV.int 130,
 GV.int 131, GV.int 132, GV.int 133, GV.int 134, GV.int 135, GV.int 136, GV.int 137, GV.int 145, GV.int 146, GV.int 147, GV.int 148,
 GV.int 149, GV.int 150, GV.int 151, GV.int 152, GV.int 153, GV.int 162, GV.int 163, GV.int 164, GV.int 165, GV.int 166, GV.int 167,
 GV.int 168, GV.int 169, GV.int 192, GV.int 79, GV.int 208, GV.int 161])
 (IntKind.u8.wrap (a1.asInt - 32)).toNat,
 GV.bool true]
 else none
 else some [a1, GV.bool true]
theorem wrt_q (fuel : Nat) (a0 a1 : GV) : gexec wrt_E (LZ) Tryz.f144.ntmps Tryz.f144.results.toList wrt_sg wrt_c [a0, a1] = wrt_f fuel a0 a1 := by kernel_rfl
theorem wrt_calls (hS : SpecsOk Tryz.prog tl wrt_E.sp) (fuel : Nat) : CallsOk Tryz.prog tl 144 wrt_sg (gexec wrt_E (LZ) Tryz.f144.ntmps Tryz.f144.results.toList wrt_sg wrt_c) :=
  gexec_calls (E := wrt_E) hP hS Tryz.func144 (by kernel_rfl) (by kernel_rfl) (fun W => LZ_ok)
theorem wrt_hS : SpecsOk Tryz.prog tl wrt_E.sp := (specs_cons specs_nil ebcdic_ok Tryz.call159)
def ebL : List GV := (nth ((ebcdic_f 0).getD []) 0).asAgg
def wrtZ (e c : Int) : Int := bif e == 5 then c else bif decide (c < 32) then 0 else bif decide (c > 126) then 0 else bif e == 4 then (nth ebL (c - 32).toNat).asInt else c
def wrtB (e c : Int) : Bool := bif e == 5 then true else bif decide (c < 32) then false else bif decide (c > 126) then false else true
def wrt_s : List GV → Option R
  | [a0, a1] => some [.int (wrtZ a0.asInt a1.asInt), .bool (wrtB a0.asInt a1.asInt)]
  | _ => none
theorem eqr_int_bool {t t' : TypeId} {k : IntKind} {by1 by2 : Nat} (hl : Eng.look tl t = some ⟨[.int k], false, by1, .int k⟩) (hl' : Eng.look tl t' = some ⟨[.bool], false, by2, .bool⟩) {g g' h h' : GV} (h1 : g.asInt = g'.asInt) (h2 : h.asBool = h'.asBool) {ms ms' : List Nat} : EqR tl [(t, ms), (t', ms')] [g, h] [g', h'] := by
  have e := ttOf_look hl
  have e' := ttOf_look hl'
  intro q t1 ms1 hq j hj
  match q with
  | 0 =>
    simp only [List.getElem?_cons_zero, Option.some.injEq, Prod.mk.injEq] at hq
    obtain ⟨rfl, rfl⟩ := hq
    rw [e] at hj ⊢
    have : j = 0 := by simp [TI.sz] at hj; exact hj
    subst this
    exact h1
  | 1 =>
    simp only [List.getElem?_cons_succ, List.getElem?_cons_zero, Option.some.injEq, Prod.mk.injEq] at hq
    obtain ⟨rfl, rfl⟩ := hq
    rw [e'] at hj ⊢
    have : j = 0 := by simp [TI.sz] at hj; exact hj
    subst this
    exact h2
  | q + 2 => simp at hq
theorem wrt_ok : CallsOk Tryz.prog tl 144 wrt_sg wrt_s := (wrt_calls (specs_cons specs_nil ebcdic_ok Tryz.call159) 0).ofE fun gs outs h => by
  rcases gs with _ | ⟨a0, _ | ⟨a1, _ | ⟨a2, t⟩⟩⟩ <;> first | (cases h; done) | skip
  rw [wrt_q 0]
  simp only [wrt_s, Option.some.injEq] at h
  subst h
  have key : ∃ g b, wrt_f 0 a0 a1 = some [g, b] ∧ g.asInt = wrtZ a0.asInt a1.asInt ∧ b.asBool = wrtB a0.asInt a1.asInt := by
    simp only [wrt_f, wrtZ, wrtB]
    cases h5 : a0.asInt == 5 with
    | true => exact ⟨_, _, rfl, rfl, rfl⟩
    | false =>
      by_cases h1 : a1.asInt < 32
      · rw [decide_eq_true h1]; exact ⟨_, _, rfl, rfl, rfl⟩
      · rw [decide_eq_false h1]
        by_cases h2 : a1.asInt > 126
        · rw [decide_eq_true h2]; exact ⟨_, _, rfl, rfl, rfl⟩
        · rw [decide_eq_false h2]
          cases h4 : a0.asInt == 4 with
          | false => exact ⟨_, _, rfl, rfl, rfl⟩
          | true =>
            rw [w8 (by omega) (by omega)]
            have h3 : inRange (a1.asInt - 32) 95 = true := inRange_iff'.2 ⟨by omega, by omega⟩
            rw [h3]
            exact ⟨_, _, rfl, rfl, rfl⟩
  obtain ⟨g, b, h1, h2, h3⟩ := key
  exact ⟨[g, b], h1, eqr_int_bool (k := .u8) (by1 := 1) (by2 := 1) (by kernel_rfl) (by kernel_rfl) h2 h3⟩

end Go.Proofs.YtgneobkmmmpbiaaGreatDoor

/- pack -/
namespace Go.Proofs.YtgneobkmmmpbiaaGreatDoor
open Go Go.Proofs Go.Eng Go.RowKit
set_option linter.unusedVariables false
set_option linter.unusedSimpArgs false

/-! pack. -/
def pack_sg : FSig := FSig.mk [3, 9] [(9, []), (28, [])] false
noncomputable def pack_c : Code := Tryz.f110.body.getD .skip
def pack_E : Env := ⟨tl, [(143, packHalves_sg, packHalves_s), (144, wrt_sg, wrt_s)], dirsOf [], dirsOf [(0, [Dir.own 6 5 1006, Dir.only [1006], Dir.sort [1006], Dir.keep [0, 1, 6, 27, 28]])], dirsOf [(0, [Dir.own 6 5 1006, Dir.only [1006], Dir.sort [1006], Dir.keep [4, 5, 6]])], killOf [], joinsOf tl [(5, mkJP tl [Dir.only [], Dir.sort [], Dir.keep [0, 1, 10, 11]] [(Ex.normal, Shp.mk 48
 [(0, ASh.one (SSh.s (CK.int IntKind.i64))), (1, ASh.one (SSh.s CK.str)), (10, ASh.one (SSh.s (CK.int IntKind.i64))), (11, ASh.one (SSh.s CK.bool))]
 [])]),
 (9, mkJP tl [Dir.only [], Dir.sort [], Dir.keep [0, 1, 19]] [(Ex.normal, Shp.mk 48 [(0, ASh.one (SSh.s (CK.int IntKind.i64))), (1, ASh.one (SSh.s CK.str)), (19, ASh.one (SSh.s CK.bool))] [])])]⟩
def pack_sh0 : Shp := Shp.mk 48
 [(0, ASh.one (SSh.s (CK.int IntKind.i64))), (1, ASh.one (SSh.s CK.str)), (6, ASh.one (SSh.ref 5 1006)), (27, ASh.one (SSh.s (CK.int IntKind.i64))),
 (28, ASh.one (SSh.s (CK.int IntKind.i64)))]
 [(1006, RSh.val 3 5)]
def pack_xs0 : Outs := [(Ex.ret, Shp.mk 48 [(4, ASh.one (SSh.s CK.str)), (5, ASh.one (SSh.s (CK.int IntKind.i64))), (6, ASh.one (SSh.ref 5 1006))] [(1006, RSh.val 3 5)]),
 (Ex.exit 1, Shp.mk 48 [(4, ASh.one SSh.dead), (5, ASh.one SSh.dead), (6, ASh.one (SSh.ref 5 1006))] [(1006, RSh.val 3 5)])]
def pack_b0 {β : Type} (fuel : Nat) (g0 g1 g2 g3 g4 : GV) (kn : List GV → Option β) (kx : Nat → List GV → Option β) : Option β :=
 bif decide (g3.asInt < g2.asInt) then
 bif inRange g3.asInt g1.asStr.size then
 bif !wrtB g0.asInt (bt g1.asStr g3.asInt.toNat) then kx 0 [GV.str (ByteArray.mk #[]), GV.int 11, GV.list 2 g4.asZ g4.asList []]
 else
 bif lim tl 5 g4.asList.length 1 then
 kn [g0, g1, g2, GV.int (IntKind.i64.wrap (g3.asInt + 1)), GV.list 2 (g4.asZ && true) (g4.asList ++ [GV.int (wrtZ g0.asInt (bt g1.asStr g3.asInt.toNat))]) []]
 else none
 else none
else kx 1 [GV.list 2 g4.asZ g4.asList []]
def pack_e0 (fuel : Nat) : LEnt := ⟨0, pack_sh0, pack_xs0, fun gs kn kx => pack_b0 fuel (nth gs 0) (nth gs 1) (nth gs 2) (nth gs 3) (nth gs 4) kn kx⟩
def pack_l0 (fuel : Nat) (gs : List GV) : Option (Nat × List GV) := loopR (pack_e0 fuel).step fuel gs
theorem pack_t0 {β : Type} (fuel : Nat) (g0 g1 g2 g3 g4 : GV) (kn : List GV → Option β) (kx : Nat → List GV → Option β) : (pack_e0 fuel).step [g0, g1, g2, g3, g4] kn kx = pack_b0 fuel g0 g1 g2 g3 g4 kn kx := rfl
theorem pack_k0 (fuel : Nat) : StepOk pack_E pack_c (LZ) (pack_e0 fuel) :=
  ⟨by kernel_rfl, fun gs kn kx => by kernel_rfl, fun f gs kn kx => by simp only [pack_e0, pack_b0, bind_cond, Option.bind_assoc, Option.bind_none]⟩
def pack_f (fuel : Nat) (a0 a1 : GV) : Option R :=
 (bif a0.asInt == 2 then some [GV.int 0, a0, a1, a0, GV.bool (a0.asInt == 2)] else some [GV.int 0, a0, a1, a0, GV.bool (a0.asInt == 3)]).bind fun o0 =>
 bif (nth o0 4).asBool then (packHalves_s [nth o0 1, nth o0 2]).bind fun o1 => some [nth o1 0, nth o1 1]
 else
 (bif (nth o0 3).asInt == 1 then some [GV.int 0, nth o0 1, nth o0 2, GV.bool ((nth o0 3).asInt == 1)]
 else
 bif (nth o0 3).asInt == 4 then some [GV.int 0, nth o0 1, nth o0 2, GV.bool ((nth o0 3).asInt == 4)]
 else some [GV.int 0, nth o0 1, nth o0 2, GV.bool ((nth o0 3).asInt == 5)]).bind
 fun o2 =>
 bif (nth o2 3).asBool then
 bif decide ((↑1 : Int) * (↑(nth o2 2).asStr.size : Int) ≤ 281474976710656) && decide ((↑(nth o2 2).asStr.size : Int) ≤ 9223372036854775807) then
 (pack_l0 fuel
 [nth o2 1, nth o2 2, GV.int (↑(nth o2 2).asStr.size : Int), GV.int 0,
 GV.list 2 (bif (List.replicate ((↑(nth o2 2).asStr.size : Int).toNat - 0) (GV.int 0)).isEmpty then decide (0 < (↑(nth o2 2).asStr.size : Int)) else false) [] []]).bind
 fun r3 =>
 bif r3.fst.beq 0 then some [nth r3.snd 0, nth r3.snd 1]
 else bif (nth r3.snd 0).asList.length.ble 140737488351232 then some [GV.str (bytesStr (nth r3.snd 0).asList), GV.int 0] else none
 else none
 else some [GV.str (ByteArray.mk #[]), GV.int 1]
theorem pack_q (fuel : Nat) (a0 a1 : GV) : gexec pack_E (LSc (pack_e0 fuel) fuel (LZ)) Tryz.f110.ntmps Tryz.f110.results.toList pack_sg pack_c [a0, a1] = pack_f fuel a0 a1 := by kernel_rfl
theorem pack_calls (hS : SpecsOk Tryz.prog tl pack_E.sp) (fuel : Nat) : CallsOk Tryz.prog tl 110 pack_sg (gexec pack_E (LSc (pack_e0 fuel) fuel (LZ)) Tryz.f110.ntmps Tryz.f110.results.toList pack_sg pack_c) :=
  gexec_calls (E := pack_E) hP hS Tryz.func110 (by kernel_rfl) (by kernel_rfl) (fun W => LSc_ok hP hS (LZ_ok) (pack_k0 fuel) fuel)
theorem pack_hS : SpecsOk Tryz.prog tl pack_E.sp := (specs_cons (specs_cons specs_nil wrt_ok Tryz.call144) packHalves_ok Tryz.call143)
def allWrt (e : Int) (s : ByteArray) : Bool := (List.range s.size).all fun i => wrtB e (bt s i)
def wrtL (e : Int) (s : ByteArray) : List GV := (List.range s.size).map fun i => .int (wrtZ e (bt s i))
theorem wrtL_len (e : Int) (s : ByteArray) : (wrtL e s).length = s.size := by simp [wrtL]
def pack_s : List GV → Option R
  | [a0, a1] => bif a0.asInt == 2 then packHalves_s [a0, a1] else bif a0.asInt == 3 then packHalves_s [a0, a1] else
      bif a0.asInt == 1 || (a0.asInt == 4 || a0.asInt == 5) then
        bif Nat.ble a1.asStr.size 1000000000 && allWrt a0.asInt a1.asStr then some [.str (bytesStr (wrtL a0.asInt a1.asStr)), .int 0] else none
      else some [.str ⟨#[]⟩, .int 1]
  | _ => none
theorem pack_run {e : Int} {s : ByteArray} (hs : s.size ≤ 1000000000) (ha : allWrt e s = true) (a0 a1 : GV) (h0 : a0.asInt = e) (h1 : a1.asStr = s) {N : Nat} (hN : s.size < N) :
    pack_l0 N [a0, a1, .int (s.size : Nat), .int 0, .list 2 false [] []] = some (1, [.list 2 false (wrtL e s) []]) := by
  have key := loop_done (step := (pack_e0 N).step) (S := fun i => [a0, a1, .int (s.size : Nat), .int (i : Nat), .list 2 false ((wrtL e s).take i) []]) (n := s.size) (q := 1) (zs := [.list 2 false (wrtL e s) []]) (fun i hi kn kx => by
      rw [pack_t0]
      unfold pack_b0
      have e1 : decide ((GV.int (i : Int)).asInt < (GV.int (s.size : Nat)).asInt) = true := by simp; omega
      have e2 : inRange (GV.int (i : Int)).asInt a1.asStr.size = true := by rw [h1]; exact inRange_nat hi
      have e3 : wrtB e (bt s i) = true := List.all_eq_true.1 ha i (List.mem_range.2 hi)
      have e4 : lim tl 5 (GV.list 2 false ((wrtL e s).take i) []).asList.length 1 = true := lim5 (by simp [wrtL_len, LIM]; omega)
      rw [e1, e2, e4]
      simp only [cond_true, asInt_int, Int.toNat_natCast, h0, h1, e3, Bool.not_true, cond_false, asZ_list, asList_list]
      rw [w64 (by omega) (by omega)]
      have e5 : (wrtL e s).take (i + 1) = (wrtL e s).take i ++ [.int (wrtZ e (bt s i))] := by
        rw [List.take_add_one]
        congr 1
        unfold wrtL
        rw [List.getElem?_map, List.getElem?_range hi]; rfl
      rw [e5]
      rfl) (fun kn kx => by
      rw [pack_t0]
      unfold pack_b0
      have e1 : decide ((GV.int (s.size : Int)).asInt < (GV.int (s.size : Nat)).asInt) = false := by simp
      have e2 : (wrtL e s).take s.size = wrtL e s := by rw [← wrtL_len e s, List.take_length]
      rw [e1, e2]
      rfl) hN
  exact key
/-- A contract with two results, as its list. -/
theorem two_eta {f : List GV → Option R} {l : List GV} (h : ∀ o, f l = some o → ∃ x y, o = [x, y]) : ((f l).bind fun o1 => some [nth o1 0, nth o1 1] : Option R) = f l := by
  cases hf : f l with
  | none => rfl
  | some o =>
    obtain ⟨x, y, rfl⟩ := h o hf
    rfl
theorem packHalves_two {l : List GV} : ∀ o, packHalves_s l = some o → ∃ x y, o = [x, y] := by
  intro o h
  rcases l with _ | ⟨a0, _ | ⟨a1, _ | ⟨a2, t⟩⟩⟩ <;> first | (cases h; done) | skip
  simp only [packHalves_s] at h
  cases hb : Nat.ble a1.asStr.size 1000000000 && allHalf a1.asStr with
  | false => rw [hb] at h; cases h
  | true => rw [hb] at h; cases h; exact ⟨_, _, rfl⟩
theorem pack_ok : CallsOk Tryz.prog tl 110 pack_sg pack_s := (pack_calls (specs_cons (specs_cons specs_nil wrt_ok Tryz.call144) packHalves_ok Tryz.call143) 1000000003).of fun gs outs h => by
  rcases gs with _ | ⟨a0, _ | ⟨a1, _ | ⟨a2, t⟩⟩⟩ <;> first | (cases h; done) | skip
  rw [pack_q 1000000003, ← h]
  simp only [pack_s] at h ⊢
  unfold pack_f
  cases h2 : a0.asInt == 2 with
  | true => exact two_eta packHalves_two
  | false =>
    cases h3 : a0.asInt == 3 with
    | true => exact two_eta packHalves_two
    | false =>
      rw [h2, h3] at h
      have tail : (a0.asInt == 1 || (a0.asInt == 4 || a0.asInt == 5)) = true → (bif decide ((1 : Int) * (a1.asStr.size : Int) ≤ 281474976710656) && decide ((a1.asStr.size : Int) ≤ 9223372036854775807) then
          (pack_l0 1000000003
                [a0, a1, GV.int (a1.asStr.size : Int), GV.int 0,
                  GV.list 2 (bif (List.replicate ((a1.asStr.size : Int).toNat - 0) (GV.int 0)).isEmpty then decide (0 < (a1.asStr.size : Int)) else false) [] []]).bind
            fun r3 =>
            bif r3.fst.beq 0 then some [nth r3.snd 0, nth r3.snd 1]
            else bif (nth r3.snd 0).asList.length.ble 140737488351232 then some [GV.str (bytesStr (nth r3.snd 0).asList), GV.int 0] else none
        else none : Option R) = bif Nat.ble a1.asStr.size 1000000000 && allWrt a0.asInt a1.asStr then some [.str (bytesStr (wrtL a0.asInt a1.asStr)), .int 0] else none := by
        intro hor
        rw [hor] at h
        simp only [cond_false, cond_true] at h
        cases hb : Nat.ble a1.asStr.size 1000000000 && allWrt a0.asInt a1.asStr with
        | false => rw [hb] at h; cases h
        | true =>
          simp only [Bool.and_eq_true] at hb
          have hs := Nat.le_of_ble_eq_true hb.1
          have e1 : decide ((1 : Int) * (a1.asStr.size : Int) ≤ 281474976710656) = true := decide_eq_true (by omega)
          have e2 : decide ((a1.asStr.size : Int) ≤ 9223372036854775807) = true := decide_eq_true (by omega)
          have e3 : (bif (List.replicate ((a1.asStr.size : Int).toNat - 0) (GV.int 0)).isEmpty then decide (0 < (a1.asStr.size : Int)) else false) = false := by
            by_cases h0 : a1.asStr.size = 0
            · rw [h0]; rfl
            · obtain ⟨k, hk⟩ : ∃ k, a1.asStr.size = k + 1 := ⟨a1.asStr.size - 1, by omega⟩
              rw [hk]; rfl
          rw [e1, e2, e3, pack_run hs hb.2 a0 a1 rfl rfl (by omega)]
          simp only [Option.bind_some, nth_zero, asList_list, Bool.and_self, cond_true]
          have e4 : Nat.ble (wrtL a0.asInt a1.asStr).length 140737488351232 = true := Nat.ble_eq_true_of_le (by rw [wrtL_len]; omega)
          rw [e4]; rfl
      have h2' : (nth [GV.int 0, a0, a1, a0, GV.bool false] 3).asInt = a0.asInt := rfl
      cases h1 : a0.asInt == 1 with
      | true =>
        rw [h1] at tail
        simp only [cond_false, Option.bind_some, nth_succ, nth_zero, asBool_bool, h1, cond_true, Bool.true_or]
        exact tail rfl
      | false =>
        cases h4 : a0.asInt == 4 with
        | true =>
          rw [h1, h4] at tail
          simp only [cond_false, Option.bind_some, nth_succ, nth_zero, asBool_bool, h1, h4, cond_true, Bool.true_or, Bool.false_or]
          exact tail rfl
        | false =>
          cases h5 : a0.asInt == 5 with
          | true =>
            rw [h1, h4, h5] at tail
            simp only [cond_false, Option.bind_some, nth_succ, nth_zero, asBool_bool, h1, h4, h5, cond_true, Bool.true_or, Bool.false_or]
            exact tail rfl
          | false =>
            simp only [cond_false, Option.bind_some, nth_succ, nth_zero, asBool_bool, h1, h4, h5, cond_true, Bool.true_or, Bool.false_or]

end Go.Proofs.YtgneobkmmmpbiaaGreatDoor

/- digitsw -/
namespace Go.Proofs.YtgneobkmmmpbiaaGreatDoor
open Go Go.Proofs Go.Eng Go.RowKit
set_option linter.unusedVariables false
set_option linter.unusedSimpArgs false

/-- Digits as characters. -/
def digitsL (l : List GV) : Prop := ∀ i, i < l.length → 48 ≤ (nth l i).asInt ∧ (nth l i).asInt ≤ 57
theorem writeL_digits (w : Nat) : ∀ n, digitsL (writeL n w) := by
  induction w with
  | zero => intro n i h; simp [writeL] at h
  | succ w ih =>
    intro n i h
    rw [writeL_cons] at h ⊢
    cases i with
    | zero => simp only [nth_zero, asInt_int]; have := Nat.mod_lt (n / 10 ^ w) (show 10 > 0 by omega); omega
    | succ i => exact ih n i (by simpa using h)
theorem digits_bt {l : List GV} (h : digitsL l) {i : Nat} (hi : i < l.length) : 48 ≤ bt (bytesStr l) i ∧ bt (bytesStr l) i ≤ 57 := by
  obtain ⟨h1, h2⟩ := h i hi
  rw [bt_bytesStr hi (by omega) (by omega)]
  exact ⟨h1, h2⟩
/-- A text of digits. -/
def digitsS (s : ByteArray) : Prop := ∀ i, i < s.size → 48 ≤ bt s i ∧ bt s i ≤ 57
theorem digitsS_of {l : List GV} (h : digitsL l) : digitsS (bytesStr l) := fun i hi => digits_bt h (by rw [bytesStr_size] at hi; exact hi)
theorem digits_half {s : ByteArray} (h : digitsS s) : allHalf s = true := by
  unfold allHalf
  rw [List.all_eq_true]
  intro i hi
  obtain ⟨h1, h2⟩ := h i (List.mem_range.1 hi)
  unfold halfB
  rw [dT h1, dT h2]
  cases bt s i == 61 <;> rfl
theorem digits_wrt {s : ByteArray} (h : digitsS s) (e : Int) : allWrt e s = true := by
  unfold allWrt
  rw [List.all_eq_true]
  intro i hi
  obtain ⟨h1, h2⟩ := h i (List.mem_range.1 hi)
  unfold wrtB
  rw [dF (show ¬ bt s i < 32 by omega), dF (show ¬ bt s i > 126 by omega)]
  cases e == 5 <;> rfl

end Go.Proofs.YtgneobkmmmpbiaaGreatDoor

/- wide -/
namespace Go.Proofs.YtgneobkmmmpbiaaGreatDoor
open Go Go.Proofs Go.Eng Go.RowKit
set_option linter.unusedVariables false
set_option linter.unusedSimpArgs false

/-! wide. -/
def wide_sg : FSig := FSig.mk [3, 3] [(3, [])] false
noncomputable def wide_c : Code := Tryz.f108.body.getD .skip
def wide_E : Env := ⟨tl, [], dirsOf [], dirsOf [], dirsOf [], killOf [], joinsOf tl []⟩
def wide_f (fuel : Nat) (a0 a1 : GV) : Option R :=
 bif bif decide (a1.asInt < 1) then true else decide (a1.asInt > 4) then some [GV.int 0]
else
 bif a0.asInt == 5 then
 bif a0.asInt == 5 then some [GV.int (IntKind.i64.wrap ((IntKind.i64.wrap (a1.asInt + 1)).tdiv 2))]
 else bif a0.asInt == 1 then bif a0.asInt == 1 then some [a1] else some [GV.int 0] else bif a0.asInt == 4 then some [a1] else some [GV.int 0]
 else
 bif a0.asInt == 2 then some [GV.int (IntKind.i64.wrap ((IntKind.i64.wrap (a1.asInt + 1)).tdiv 2))]
 else bif a0.asInt == 1 then bif a0.asInt == 1 then some [a1] else some [GV.int 0] else bif a0.asInt == 4 then some [a1] else some [GV.int 0]
theorem wide_q (fuel : Nat) (a0 a1 : GV) : gexec wide_E (LZ) Tryz.f108.ntmps Tryz.f108.results.toList wide_sg wide_c [a0, a1] = wide_f fuel a0 a1 := by kernel_rfl
theorem wide_calls (hS : SpecsOk Tryz.prog tl wide_E.sp) (fuel : Nat) : CallsOk Tryz.prog tl 108 wide_sg (gexec wide_E (LZ) Tryz.f108.ntmps Tryz.f108.results.toList wide_sg wide_c) :=
  gexec_calls (E := wide_E) hP hS Tryz.func108 (by kernel_rfl) (by kernel_rfl) (fun W => LZ_ok)
theorem wide_hS : SpecsOk Tryz.prog tl wide_E.sp := specs_nil
def wideZ (e d : Int) : Int := bif decide (d < 1) then 0 else bif decide (d > 4) then 0 else bif e == 5 then IntKind.i64.wrap ((IntKind.i64.wrap (d + 1)).tdiv 2) else bif e == 2 then IntKind.i64.wrap ((IntKind.i64.wrap (d + 1)).tdiv 2) else
  bif e == 1 then d else bif e == 4 then d else 0
def wide_s : List GV → Option R
  | [a0, a1] => some [.int (wideZ a0.asInt a1.asInt)]
  | _ => none

theorem wide_ok : CallsOk Tryz.prog tl 108 wide_sg wide_s := (wide_calls specs_nil 0).ofE fun gs outs h => by
  rcases gs with _ | ⟨a0, _ | ⟨a1, _ | ⟨a2, t⟩⟩⟩ <;> first | (cases h; done) | skip
  rw [wide_q 0]
  simp only [wide_s, Option.some.injEq] at h
  subst h
  have key : ∃ g, wide_f 0 a0 a1 = some [g] ∧ g.asInt = wideZ a0.asInt a1.asInt := by
    simp only [wide_f, wideZ]
    cases decide (a1.asInt < 1) <;> cases decide (a1.asInt > 4) <;> cases a0.asInt == 5 <;> cases a0.asInt == 2 <;> cases a0.asInt == 1 <;> cases a0.asInt == 4 <;> exact ⟨_, rfl, rfl⟩
  obtain ⟨g, h1, h2⟩ := key
  exact ⟨[g], h1, eqr_int (k := .i64) (by' := 8) (by kernel_rfl) h2⟩

end Go.Proofs.YtgneobkmmmpbiaaGreatDoor

/- big -/
namespace Go.Proofs.YtgneobkmmmpbiaaGreatDoor
open Go Go.Proofs Go.Eng Go.RowKit
set_option linter.unusedVariables false
set_option linter.unusedSimpArgs false

def BIG : Nat := 4611686018427387904

end Go.Proofs.YtgneobkmmmpbiaaGreatDoor

/- ten -/
namespace Go.Proofs.YtgneobkmmmpbiaaGreatDoor
open Go Go.Proofs Go.Eng Go.RowKit
set_option linter.unusedVariables false
set_option linter.unusedSimpArgs false

/-! ten. -/
def ten_sg : FSig := FSig.mk [3] [(3, [])] false
noncomputable def ten_c : Code := Tryz.f109.body.getD .skip
def ten_E : Env := ⟨tl, [], dirsOf [], dirsOf [(0, [Dir.only [], Dir.sort [], Dir.keep [3, 4, 5]])], dirsOf [(0, [Dir.only [], Dir.sort [], Dir.keep [3]])], killOf [], joinsOf tl []⟩
def ten_sh0 : Shp := Shp.mk 11 [(3, ASh.one (SSh.s (CK.int IntKind.i64))), (4, ASh.one (SSh.s (CK.int IntKind.i64))), (5, ASh.one (SSh.s (CK.int IntKind.i64)))] []
def ten_xs0 : Outs := [(Ex.exit 0, Shp.mk 11 [(3, ASh.one (SSh.s (CK.int IntKind.i64)))] [])]
def ten_b0 {β : Type} (fuel : Nat) (g0 g1 g2 : GV) (kn : List GV → Option β) (kx : Nat → List GV → Option β) : Option β :=
 bif decide (g2.asInt < g1.asInt) then kn [GV.int (IntKind.i64.wrap (g0.asInt * 10)), g1, GV.int (IntKind.i64.wrap (g2.asInt + 1))] else kx 0 [g0]
def ten_e0 (fuel : Nat) : LEnt := ⟨0, ten_sh0, ten_xs0, fun gs kn kx => ten_b0 fuel (nth gs 0) (nth gs 1) (nth gs 2) kn kx⟩
def ten_l0 (fuel : Nat) (gs : List GV) : Option (Nat × List GV) := loopR (ten_e0 fuel).step fuel gs
theorem ten_t0 {β : Type} (fuel : Nat) (g0 g1 g2 : GV) (kn : List GV → Option β) (kx : Nat → List GV → Option β) : (ten_e0 fuel).step [g0, g1, g2] kn kx = ten_b0 fuel g0 g1 g2 kn kx := rfl
theorem ten_k0 (fuel : Nat) : StepOk ten_E ten_c (LZ) (ten_e0 fuel) :=
  ⟨by kernel_rfl, fun gs kn kx => by kernel_rfl, fun f gs kn kx => by simp only [ten_e0, ten_b0, bind_cond, Option.bind_assoc, Option.bind_none]⟩
def ten_f (fuel : Nat) (a0 : GV) : Option R :=
 (ten_l0 fuel [GV.int 1, a0, GV.int 0]).bind fun r0 => some [nth r0.snd 0]
theorem ten_q (fuel : Nat) (a0 : GV) : gexec ten_E (LSc (ten_e0 fuel) fuel (LZ)) Tryz.f109.ntmps Tryz.f109.results.toList ten_sg ten_c [a0] = ten_f fuel a0 := by kernel_rfl
theorem ten_calls (hS : SpecsOk Tryz.prog tl ten_E.sp) (fuel : Nat) : CallsOk Tryz.prog tl 109 ten_sg (gexec ten_E (LSc (ten_e0 fuel) fuel (LZ)) Tryz.f109.ntmps Tryz.f109.results.toList ten_sg ten_c) :=
  gexec_calls (E := ten_E) hP hS Tryz.func109 (by kernel_rfl) (by kernel_rfl) (fun W => LSc_ok hP hS (LZ_ok) (ten_k0 fuel) fuel)
theorem ten_hS : SpecsOk Tryz.prog tl ten_E.sp := specs_nil
def tenZ (d : Int) : Int := 10 ^ d.toNat
def ten_s : List GV → Option R
  | [a0] => bif decide (0 ≤ a0.asInt) && decide (a0.asInt ≤ 18) then some [.int (tenZ a0.asInt)] else none
  | _ => none
theorem ten_run {d : Nat} (h : d ≤ 18) : ∀ a0 : GV, a0.asInt = (d : Int) → ten_f (d + 1) a0 = some [.int (10 ^ d)] := by
  intro a0 ha
  have hp : ∀ i : Nat, i ≤ 18 → (10 : Int) ^ i ≤ 1000000000000000000 := by
    intro i hi
    have : (10 : Nat) ^ i ≤ 10 ^ 18 := Nat.pow_le_pow_right (by omega) hi
    have e : ((10 ^ i : Nat) : Int) = (10 : Int) ^ i := by push_cast; rfl
    rw [← e]; omega
  have hq : ∀ i : Nat, (0 : Int) < 10 ^ i := fun i => Int.pow_pos (by omega)
  have := loop_done (step := (ten_e0 (d + 1)).step) (S := fun i => [.int (10 ^ i), a0, .int (i : Nat)]) (n := d) (q := 0) (zs := [.int (10 ^ d)]) (fun i hi kn kx => by
    rw [ten_t0]
    unfold ten_b0
    have h1 : decide ((GV.int (i : Int)).asInt < a0.asInt) = true := by rw [ha]; simp; omega
    rw [h1]
    simp only [cond_true, asInt_int]
    have h2 := hp (i + 1) (by omega)
    have h3 := hq i
    rw [Int.pow_succ] at h2
    rw [w64 (by omega) (by omega), w64 (by omega) (by omega), Int.pow_succ]
    rfl) (fun kn kx => by
    rw [ten_t0]
    unfold ten_b0
    have h1 : decide ((GV.int (d : Int)).asInt < a0.asInt) = false := by rw [ha]; simp
    rw [h1]
    rfl) (N := d + 1) (by omega)
  unfold ten_f ten_l0
  have e : ([GV.int 1, a0, GV.int 0] : List GV) = [.int (10 ^ 0), a0, .int ((0 : Nat) : Int)] := rfl
  rw [e, this]
  rfl
theorem ten_ok : CallsOk Tryz.prog tl 109 ten_sg ten_s := CallsOk.sup (φ := fun n => _) (fun n => ten_calls specs_nil n) fun gs outs h => by
  rcases gs with _ | ⟨a0, _ | ⟨a1, t⟩⟩ <;> first | (cases h; done) | skip
  simp only [ten_s] at h
  cases hb : decide (0 ≤ a0.asInt) && decide (a0.asInt ≤ 18) with
  | false => rw [hb] at h; cases h
  | true =>
    rw [hb] at h
    simp only [Bool.and_eq_true, decide_eq_true_eq] at hb
    have := ten_run (d := a0.asInt.toNat) (by omega) a0 (by omega)
    exact ⟨_, by rw [ten_q, this, ← h]; rfl⟩

end Go.Proofs.YtgneobkmmmpbiaaGreatDoor

/- prefix -/
namespace Go.Proofs.YtgneobkmmmpbiaaGreatDoor
open Go Go.Proofs Go.Eng Go.RowKit
set_option linter.unusedVariables false
set_option linter.unusedSimpArgs false

/-! prefix. -/
def prefix_sg : FSig := FSig.mk [3, 3, 3] [(9, []), (28, [])] false
noncomputable def prefix_c : Code := Tryz.f77.body.getD .skip
def prefix_E : Env := ⟨tl, [(108, wide_sg, wide_s), (109, ten_sg, ten_s), (87, write_sg, write_s), (110, pack_sg, pack_s)], dirsOf [], dirsOf [], dirsOf [], killOf [], joinsOf tl []⟩
def prefix_f (fuel : Nat) (a0 a1 a2 : GV) : Option R :=
 bif bif wideZ a0.asInt a1.asInt == 0 then true else decide (a2.asInt < 0) then some [GV.str (ByteArray.mk #[]), GV.int 1]
else
 (ten_s [a1]).bind fun o0 =>
 bif decide (a2.asInt ≥ (nth o0 0).asInt) then some [GV.str (ByteArray.mk #[]), GV.int 13]
 else
 bif a0.asInt == 5 then
 bif (inRange (IntKind.i64.wrap (2 - wideZ a0.asInt a1.asInt)) 3, (IntKind.i64.wrap (2 - wideZ a0.asInt a1.asInt)).toNat, 2).fst then
 bif
 (List.drop (inRange (IntKind.i64.wrap (2 - wideZ a0.asInt a1.asInt)) 3, (IntKind.i64.wrap (2 - wideZ a0.asInt a1.asInt)).toNat, 2).snd.fst
 [GV.int (IntKind.u8.wrap (shrI IntKind.i64 a2.asInt 8)), GV.int (IntKind.u8.wrap a2.asInt)]).length.ble
 140737488351232 then
 some
 [GV.str
 (bytesStr
 (List.drop
 (inRange (IntKind.i64.wrap (2 - wideZ a0.asInt a1.asInt)) 3, (IntKind.i64.wrap (2 - wideZ a0.asInt a1.asInt)).toNat, 2).snd.fst
 [GV.int (IntKind.u8.wrap (shrI IntKind.i64 a2.asInt 8)), GV.int (IntKind.u8.wrap a2.asInt)])),
 GV.int 0]
 else none
 else none
 else
 (write_s [a2, a1]).bind fun o1 =>
 bif (nth o1 1).asInt != 0 then some [GV.str (ByteArray.mk #[]), nth o1 1] else (pack_s [a0, nth o1 0]).bind fun o2 => some [nth o2 0, nth o2 1]
theorem prefix_q (fuel : Nat) (a0 a1 a2 : GV) : gexec prefix_E (LZ) Tryz.f77.ntmps Tryz.f77.results.toList prefix_sg prefix_c [a0, a1, a2] = prefix_f fuel a0 a1 a2 := by kernel_rfl
theorem prefix_calls (hS : SpecsOk Tryz.prog tl prefix_E.sp) (fuel : Nat) : CallsOk Tryz.prog tl 77 prefix_sg (gexec prefix_E (LZ) Tryz.f77.ntmps Tryz.f77.results.toList prefix_sg prefix_c) :=
  gexec_calls (E := prefix_E) hP hS Tryz.func77 (by kernel_rfl) (by kernel_rfl) (fun W => LZ_ok)
theorem prefix_hS : SpecsOk Tryz.prog tl prefix_E.sp := (specs_cons (specs_cons (specs_cons (specs_cons specs_nil pack_ok Tryz.call110) write_ok Tryz.call87) ten_ok Tryz.call109) wide_ok Tryz.call108)
def encOk (e : Int) : Bool := e == 1 || (e == 2 || (e == 4 || e == 5))
def prefixOk (e d n : Int) : Bool := encOk e && (decide (1 ≤ d) && (decide (d ≤ 4) && (decide (0 ≤ n) && decide (n < tenZ d))))
def prefixL (e d n : Int) : List GV :=
  bif e == 5 then [GV.int (IntKind.u8.wrap (shrI IntKind.i64 n 8)), GV.int (IntKind.u8.wrap n)].drop (2 - wideZ e d).toNat
  else bif e == 2 then packH e (bytesStr (writeL n.toNat d.toNat)) else wrtL e (bytesStr (writeL n.toNat d.toNat))
def prefix_s : List GV → Option R
  | [a0, a1, a2] => bif wideZ a0.asInt a1.asInt == 0 then some [.str ⟨#[]⟩, .int 1] else bif prefixOk a0.asInt a1.asInt a2.asInt then some [.str (bytesStr (prefixL a0.asInt a1.asInt a2.asInt)), .int 0] else none
  | _ => none
theorem enc_cases {e : Int} (h : encOk e = true) : e = 1 ∨ e = 2 ∨ e = 4 ∨ e = 5 := by
  unfold encOk at h
  simp only [Bool.or_eq_true, beq_iff_eq] at h
  exact h
theorem wideZ_of {e d : Int} (he : encOk e = true) (h1 : 1 ≤ d) (h4 : d ≤ 4) : wideZ e d = bif e == 5 || e == 2 then (d + 1) / 2 else d := by
  unfold wideZ
  rw [dF (show ¬ d < 1 by omega), dF (show ¬ d > 4 by omega)]
  have e1 : IntKind.i64.wrap ((IntKind.i64.wrap (d + 1)).tdiv 2) = (d + 1) / 2 := by
    rw [w64 (n := d + 1) (by omega) (by omega), Int.tdiv_eq_ediv_of_nonneg (by omega), w64 (by omega) (by omega)]
  rw [e1]
  rcases enc_cases he with rfl | rfl | rfl | rfl <;> rfl
theorem prefix_ok : CallsOk Tryz.prog tl 77 prefix_sg prefix_s := (prefix_calls (specs_cons (specs_cons (specs_cons (specs_cons specs_nil pack_ok Tryz.call110) write_ok Tryz.call87) ten_ok Tryz.call109) wide_ok Tryz.call108) 0).of fun gs outs h => by
  rcases gs with _ | ⟨a0, _ | ⟨a1, _ | ⟨a2, _ | ⟨a3, t⟩⟩⟩⟩ <;> first | (cases h; done) | skip
  rw [prefix_q 0]
  simp only [prefix_s] at h
  cases hw00 : wideZ a0.asInt a1.asInt == 0 with
  | true =>
    rw [hw00] at h
    rw [← h]
    unfold prefix_f
    rw [hw00]; rfl
  | false =>
  rw [hw00] at h
  simp only [cond_false] at h
  cases hb : prefixOk a0.asInt a1.asInt a2.asInt with
  | false => rw [hb] at h; cases h
  | true =>
    rw [hb] at h
    rw [← h]
    unfold prefixOk at hb
    simp only [Bool.and_eq_true, decide_eq_true_eq] at hb
    obtain ⟨he, h1, h4, h0, hlt⟩ := hb
    have hw := wideZ_of he h1 h4
    unfold prefix_f
    have hw0 : (wideZ a0.asInt a1.asInt == 0) = false := by
      rw [beq_eq_false_iff_ne, hw]
      cases a0.asInt == 5 || a0.asInt == 2 <;> simp <;> omega
    have hten : ten_s [a1] = some [.int (tenZ a1.asInt)] := by
      simp only [ten_s]
      rw [dT (show 0 ≤ a1.asInt by omega), dT (show a1.asInt ≤ 18 by omega)]
      rfl
    have hsmall : a2.asInt < 10000 := by
      have : tenZ a1.asInt ≤ tenZ 4 := by
        unfold tenZ
        have hp : ∀ k : Nat, k ≤ 4 → (10 : Int) ^ k ≤ 10000 := by
          intro k hk
          match k, hk with
          | 0, _ => decide
          | 1, _ => decide
          | 2, _ => decide
          | 3, _ => decide
          | 4, _ => decide
        exact hp _ (by omega)
      have h4' : tenZ 4 = 10000 := by decide
      omega
    rw [hw0, dF (show ¬ a2.asInt < 0 by omega), hten]
    simp only [cond_false, Option.bind_some, nth_zero, asInt_int]
    refine (cF (show ¬ a2.asInt ≥ tenZ a1.asInt by omega) _ _).trans ?_
    have hcut : ∀ k : Nat, k ≤ 2 → wideZ a0.asInt a1.asInt = (k : Int) → inRange (IntKind.i64.wrap (2 - wideZ a0.asInt a1.asInt)) 3 = true ∧ (IntKind.i64.wrap (2 - wideZ a0.asInt a1.asInt)) = 2 - wideZ a0.asInt a1.asInt := by
      intro k hk hwk
      have : IntKind.i64.wrap (2 - wideZ a0.asInt a1.asInt) = 2 - wideZ a0.asInt a1.asInt := w64 (by omega) (by omega)
      rw [this]
      exact ⟨inRange_iff'.2 ⟨by omega, by omega⟩, rfl⟩
    rcases enc_cases he with h5 | h5 | h5 | h5
    case inr.inr.inr =>
      have hk : wideZ a0.asInt a1.asInt = (((a1.asInt.toNat + 1) / 2 : Nat) : Int) := by rw [hw, h5]; show (a1.asInt + 1) / 2 = _; omega
      obtain ⟨c1, c2⟩ := hcut _ (by omega) hk
      have c3 : (a0.asInt == 5) = true := by rw [h5]; rfl
      rw [c3, c1]
      simp only [cond_true]
      rw [c2]
      have c4 : ∀ (k : Nat) (l : List GV), l.length ≤ 2 → Nat.ble (l.drop k).length 140737488351232 = true := fun k l hl => Nat.ble_eq_true_of_le (by simp; omega)
      rw [c4 _ _ (by simp)]
      simp only [cond_true]
      unfold prefixL
      rw [c3]; rfl
    all_goals
      have c3 : (a0.asInt == 5) = false := by rw [h5]; rfl
      rw [c3]
      simp only [cond_false]
      have hwr : write_s [a2, a1] = some [.str (bytesStr (writeL a2.asInt.toNat a1.asInt.toNat)), .int 0] := by
        simp only [write_s, writeS, writeE, writeOk]
        rw [dT (show a2.asInt < 9223372036854775808 by omega), dT h0, dT (show (1 : Int) ≤ a1.asInt by omega), dT (show a1.asInt ≤ 18 by omega)]
        have : decide (a2.asInt < 10 ^ a1.asInt.toNat) = true := dT hlt
        rw [this]; rfl
      rw [hwr]
      simp only [Option.bind_some, nth_zero, nth_succ, asInt_int]
      have hdig := digitsS_of (writeL_digits a1.asInt.toNat a2.asInt.toNat)
      have hsz : (bytesStr (writeL a2.asInt.toNat a1.asInt.toNat)).size ≤ 1000000000 := by rw [bytesStr_size, writeL_len]; omega
      have hp : pack_s [a0, .str (bytesStr (writeL a2.asInt.toNat a1.asInt.toNat))] = some [.str (bytesStr (prefixL a0.asInt a1.asInt a2.asInt)), .int 0] := by
        simp only [pack_s, packHalves_s, asStr_str, digits_half hdig, digits_wrt hdig, Nat.ble_eq_true_of_le hsz, Bool.and_self, cond_true, prefixL, c3, cond_false]
        rw [h5]; rfl
      rw [hp]
      rfl

end Go.Proofs.YtgneobkmmmpbiaaGreatDoor

/- most -/
namespace Go.Proofs.YtgneobkmmmpbiaaGreatDoor
open Go Go.Proofs Go.Eng Go.RowKit
set_option linter.unusedVariables false
set_option linter.unusedSimpArgs false

/-! most. -/
def most_sg : FSig := FSig.mk [25, 9] [(3, []), (28, [])] false
noncomputable def most_c : Code := Tryz.f34.body.getD .skip
def most_E : Env := ⟨tl, [(19, ruleG_sg, ruleG_s), (75, width_sg, width_s), (76, concat_sg, concat_s), (17, specG_sg, specG_s), (77, prefix_sg, prefix_s)], dirsOf [(1, [.freeze 6])], dirsOf [(0, [Dir.only [2, 38], Dir.sort [2, 38], Dir.keep [2, 8, 9, 10, 38, 39, 40]])], dirsOf [(0, [Dir.only [], Dir.sort [], Dir.keep [8, 9, 10]])], killOf [], joinsOf tl []⟩
def most_sh0 : Shp := Shp.mk 81
 [(2, ASh.one (SSh.ptr 2 [(0, 0)])), (8, ASh.one (SSh.s (CK.int IntKind.i64))), (9, ASh.one (SSh.s (CK.int IntKind.i64))), (10, ASh.one (SSh.s CK.bool)),
 (38, ASh.one (SSh.ref 3 38)), (39, ASh.one (SSh.s (CK.int IntKind.i64))), (40, ASh.one (SSh.s (CK.int IntKind.i64)))]
 [(2, RSh.rowA 2 25 [0, 0, 0, 0, 1, 1, 0]), (38, RSh.val 2 3)]
def most_xs0 : Outs := [(Ex.exit 0, Shp.mk 81 [(8, ASh.one (SSh.s (CK.int IntKind.i64))), (9, ASh.one (SSh.s (CK.int IntKind.i64))), (10, ASh.one (SSh.s CK.bool))] [])]
def most_b0 {β : Type} (fuel : Nat) (g0 g1 g2 g3 g4 g5 g6 g7 g8 g9 g10 g11 g12 : GV) (kn : List GV → Option β) (kx : Nat → List GV → Option β) : Option β :=
 bif decide (g4.asInt < g3.asInt) then
 bif inRange g4.asInt g12.asList.length && true && true && true then
 (specG_s
 [GV.agg [g5, g6, g7, g8, GV.list 0 g9.asZ g9.asList g9.asSp, GV.list 0 g10.asZ g10.asList g10.asSp, g11], nth (GV.list 2 g12.asZ g12.asList g12.asSp).all g4.asInt.toNat]).bind
 fun o2 =>
 bif !(nth o2 1).asBool then
 kn [g0, g1, g2, g3, GV.int (IntKind.i64.wrap (g4.asInt + 1)), g5, g6, g7, g8, GV.list 0 g9.asZ g9.asList g9.asSp, GV.list 0 g10.asZ g10.asList g10.asSp, g11, GV.list 2 g12.asZ g12.asList g12.asSp]
 else
 (prefix_s [cellG true (nth o2 0) 4, cellG true (nth o2 0) 3, GV.int 0]).bind fun o3 =>
 kn
 [g0,
 GV.int
 (IntKind.i64.wrap
 (g1.asInt + IntKind.i64.wrap ((↑(nth o3 0).asStr.size : Int) + widthZ (cellG true (nth o2 0) 2).asInt (cellG true (nth o2 0) 5).asInt))),
 GV.bool (bif g2.asBool then true else decide ((nth (GV.list 2 g12.asZ g12.asList g12.asSp).all g4.asInt.toNat).asInt > 64)), g3, GV.int (IntKind.i64.wrap (g4.asInt + 1)), g5, g6, g7, g8,
 GV.list 0 g9.asZ g9.asList g9.asSp, GV.list 0 g10.asZ g10.asList g10.asSp, g11, GV.list 2 g12.asZ g12.asList g12.asSp]
 else none
else kx 0 [g0, g1, g2]
def most_e0 (fuel : Nat) : LEnt := ⟨0, most_sh0, most_xs0, fun gs kn kx => most_b0 fuel (nth gs 0) (nth gs 1) (nth gs 2) (nth gs 3) (nth gs 4) (nth gs 5) (nth gs 6) (nth gs 7) (nth gs 8) (nth gs 9) (nth gs 10) (nth gs 11) (nth gs 12) kn kx⟩
def most_l0 (fuel : Nat) (gs : List GV) : Option (Nat × List GV) := loopR (most_e0 fuel).step fuel gs
theorem most_t0 {β : Type} (fuel : Nat) (g0 g1 g2 g3 g4 g5 g6 g7 g8 g9 g10 g11 g12 : GV) (kn : List GV → Option β) (kx : Nat → List GV → Option β) : (most_e0 fuel).step [g0, g1, g2, g3, g4, g5, g6, g7, g8, g9, g10, g11, g12] kn kx = most_b0 fuel g0 g1 g2 g3 g4 g5 g6 g7 g8 g9 g10 g11 g12 kn kx := rfl
theorem most_k0 (fuel : Nat) : StepOk most_E most_c (LZ) (most_e0 fuel) :=
  ⟨by kernel_rfl, fun gs kn kx => by kernel_rfl, fun f gs kn kx => by simp only [most_e0, most_b0, bind_cond, Option.bind_assoc, Option.bind_none]⟩
def most_f (fuel : Nat) (a0 a1 : GV) : Option R :=
 (ruleG_s
 [GV.agg
 [cellG true a0 0, cellG true a0 1, cellG true a0 2, cellG true a0 3, GV.list 0 (cellG true a0 4).asZ (cellG true a0 4).asList (cellG true a0 4).asSp,
 GV.list 0 (cellG true a0 5).asZ (cellG true a0 5).asList (cellG true a0 5).asSp, cellG true a0 6],
 a1]).bind
 fun o0 =>
 bif !(nth o0 1).asBool then some [GV.int 0, GV.int 110]
 else
 bif (cellG true a0 3).asInt == 5 then
 (concat_s
 [GV.list 2 true
 [GV.list 0 (cellG true (nth o0 0) 1).asZ (cellG true (nth o0 0) 1).asList (cellG true (nth o0 0) 1).asSp,
 GV.list 0 (cellG true (nth o0 0) 2).asZ (cellG true (nth o0 0) 2).asList (cellG true (nth o0 0) 2).asSp]
 []]).bind
 fun o1 =>
 (most_l0 fuel
 [GV.int 8, GV.int (IntKind.i64.wrap (widthZ (cellG true a0 2).asInt 4 + 8)), GV.bool false, GV.int (↑(nth o1 0).asList.length : Int),
 GV.int 0, cellG true a0 0, cellG true a0 1, cellG true a0 2, cellG true a0 3, GV.list 0 (cellG true a0 4).asZ (cellG true a0 4).asList (cellG true a0 4).asSp,
 GV.list 0 (cellG true a0 5).asZ (cellG true a0 5).asList (cellG true a0 5).asSp, cellG true a0 6,
 GV.list 2 (nth o1 0).asZ (nth o1 0).asList (nth o1 0).asSp]).bind
 fun r4 => bif (nth r4.snd 2).asBool then some [GV.int (IntKind.i64.wrap ((nth r4.snd 1).asInt + (nth r4.snd 0).asInt)), GV.int 0] else some [nth r4.snd 1, GV.int 0]
 else
 (concat_s
 [GV.list 2 true
 [GV.list 0 (cellG true (nth o0 0) 1).asZ (cellG true (nth o0 0) 1).asList (cellG true (nth o0 0) 1).asSp,
 GV.list 0 (cellG true (nth o0 0) 2).asZ (cellG true (nth o0 0) 2).asList (cellG true (nth o0 0) 2).asSp]
 []]).bind
 fun o5 =>
 (most_l0 fuel
 [GV.int 16, GV.int (IntKind.i64.wrap (widthZ (cellG true a0 2).asInt 4 + 16)), GV.bool false, GV.int (↑(nth o5 0).asList.length : Int),
 GV.int 0, cellG true a0 0, cellG true a0 1, cellG true a0 2, cellG true a0 3, GV.list 0 (cellG true a0 4).asZ (cellG true a0 4).asList (cellG true a0 4).asSp,
 GV.list 0 (cellG true a0 5).asZ (cellG true a0 5).asList (cellG true a0 5).asSp, cellG true a0 6,
 GV.list 2 (nth o5 0).asZ (nth o5 0).asList (nth o5 0).asSp]).bind
 fun r6 => bif (nth r6.snd 2).asBool then some [GV.int (IntKind.i64.wrap ((nth r6.snd 1).asInt + (nth r6.snd 0).asInt)), GV.int 0] else some [nth r6.snd 1, GV.int 0]
theorem most_q (fuel : Nat) (a0 a1 : GV) : gexec most_E (LSc (most_e0 fuel) fuel (LZ)) Tryz.f34.ntmps Tryz.f34.results.toList most_sg most_c [a0, a1] = most_f fuel a0 a1 := by kernel_rfl
theorem most_calls (hS : SpecsOk Tryz.prog tl most_E.sp) (fuel : Nat) : CallsOk Tryz.prog tl 34 most_sg (gexec most_E (LSc (most_e0 fuel) fuel (LZ)) Tryz.f34.ntmps Tryz.f34.results.toList most_sg most_c) :=
  gexec_calls (E := most_E) hP hS Tryz.func34 (by kernel_rfl) (by kernel_rfl) (fun W => LSc_ok hP hS (LZ_ok) (most_k0 fuel) fuel)
theorem most_hS : SpecsOk Tryz.prog tl most_E.sp := (specs_cons (specs_cons (specs_cons (specs_cons (specs_cons specs_nil prefix_ok Tryz.call77) specG_ok Tryz.call17) concat_ok Tryz.call76) width_ok Tryz.call75) ruleG_ok Tryz.call19)
/-- The bytes of a field's length. -/
def preSize (s : GV) : Int := ((bif wideZ (cellG true s 4).asInt (cellG true s 3).asInt == 0 then 0 else (prefixL (cellG true s 4).asInt (cellG true s 3).asInt 0).length : Nat) : Int)
def preOk (s : GV) : Bool := wideZ (cellG true s 4).asInt (cellG true s 3).asInt == 0 || prefixOk (cellG true s 4).asInt (cellG true s 3).asInt 0
/-- The bytes of a field at most. -/
def fieldSize (s : GV) : Int := IntKind.i64.wrap (preSize s + widthZ (cellG true s 2).asInt (cellG true s 5).asInt)
def mostStep (fl : List GV) (x : Int × Bool) (k : GV) : Int × Bool := bif specF fl k.asInt then (IntKind.i64.wrap (x.1 + fieldSize (specV fl k.asInt)), bif x.2 then true else decide (k.asInt > 64)) else x
def mostOk (fl ks : List GV) : Bool := ks.all fun k => !specF fl k.asInt || preOk (specV fl k.asInt)
def halfZ2 (e : Int) : Int := bif e == 5 then 8 else 16
def ruleKs (g : GV) : List GV := (cellG true g 1).asList ++ (cellG true g 2).asList
def mostR (mtiEnc mapEnc : Int) (fl ks : List GV) : Int × Bool := ks.foldl (mostStep fl) (IntKind.i64.wrap (widthZ mtiEnc 4 + halfZ2 mapEnc), false)
def mostZ (mtiEnc mapEnc : Int) (fl ks : List GV) : Int := bif (mostR mtiEnc mapEnc fl ks).2 then IntKind.i64.wrap ((mostR mtiEnc mapEnc fl ks).1 + halfZ2 mapEnc) else (mostR mtiEnc mapEnc fl ks).1
def most_s : List GV → Option R
  | [a0, a1] => bif Nat.ble (cellG true a0 4).asList.length 2199023255552 && Nat.ble (cellG true a0 5).asList.length 2199023255552 then
      bif ruleF (cellG true a0 5).asList a1.asStr then
        bif ruleOk (nth (cellG true a0 5).asList (ruleI (cellG true a0 5).asList a1.asStr)) &&
            (Nat.ble (ruleKs (nth (cellG true a0 5).asList (ruleI (cellG true a0 5).asList a1.asStr))).length 4398046511104 && mostOk (cellG true a0 4).asList (ruleKs (nth (cellG true a0 5).asList (ruleI (cellG true a0 5).asList a1.asStr)))) then
          some [.int (mostZ (cellG true a0 2).asInt (cellG true a0 3).asInt (cellG true a0 4).asList (ruleKs (nth (cellG true a0 5).asList (ruleI (cellG true a0 5).asList a1.asStr)))), .int 0] else none
      else some [.int 0, .int 110]
    else none
  | _ => none
theorem prefix_size {e d : GV} (h : (wideZ e.asInt d.asInt == 0 || prefixOk e.asInt d.asInt 0) = true) : ∃ s : ByteArray, ∃ x, prefix_s [e, d, .int 0] = some [.str s, x] ∧ s.size = (bif wideZ e.asInt d.asInt == 0 then 0 else (prefixL e.asInt d.asInt 0).length) := by
  simp only [prefix_s, asInt_int]
  cases hw : wideZ e.asInt d.asInt == 0 with
  | true => exact ⟨⟨#[]⟩, .int 1, rfl, rfl⟩
  | false =>
    rw [hw, Bool.false_or] at h
    rw [h]
    exact ⟨_, _, rfl, by rw [bytesStr_size]; rfl⟩
theorem most_run {g0 g5 g6 g7 g8 g9 g10 g11 : GV} {fl ks : List GV} {z : Bool} (h9 : g9.asList = fl) (hfl : fl.length ≤ 2199023255552) (hks : ks.length ≤ 4398046511104) (hok : mostOk fl ks = true) (n0 : Int) {N : Nat} (hN : ks.length < N) :
    most_l0 N [g0, .int n0, .bool false, .int (ks.length : Nat), .int 0, g5, g6, g7, g8, .list 0 g9.asZ g9.asList g9.asSp, .list 0 g10.asZ g10.asList g10.asSp, g11, .list 2 z ks []] =
      some (0, [g0, .int (ks.foldl (mostStep fl) (n0, false)).1, .bool (ks.foldl (mostStep fl) (n0, false)).2]) := by
  let X : Nat → Int × Bool := fun i => (ks.take i).foldl (mostStep fl) (n0, false)
  have key := loop_done (step := (most_e0 N).step) (S := fun i => [g0, .int (X i).1, .bool (X i).2, .int (ks.length : Nat), .int (i : Nat), g5, g6, g7, g8, .list 0 g9.asZ g9.asList g9.asSp, .list 0 g10.asZ g10.asList g10.asSp, g11, .list 2 z ks []]) (n := ks.length) (q := 0) (zs := [g0, .int (X ks.length).1, .bool (X ks.length).2]) (fun i hi kn kx => by
      rw [most_t0]
      unfold most_b0
      refine (cT (show ((i : Nat) : Int) < ((ks.length : Nat) : Int) by omega) _ _).trans ?_
      refine (bT (by simp only [asInt_int, asList_list, Bool.and_true]; exact inRange_nat hi) _ _).trans ?_
      have hn : nth (GV.list 2 (GV.list 2 z ks []).asZ (GV.list 2 z ks []).asList (GV.list 2 z ks []).asSp).all (GV.int (i : Int)).asInt.toNat = nth ks i := by
        simp only [asInt_int, Int.toNat_natCast, all_list, asList_list]; exact nth_append_left hi
      rw [hn]
      have hsp : specG_s [GV.agg [g5, g6, g7, g8, GV.list 0 (GV.list 0 g9.asZ g9.asList g9.asSp).asZ (GV.list 0 g9.asZ g9.asList g9.asSp).asList (GV.list 0 g9.asZ g9.asList g9.asSp).asSp, GV.list 0 (GV.list 0 g10.asZ g10.asList g10.asSp).asZ (GV.list 0 g10.asZ g10.asList g10.asSp).asList (GV.list 0 g10.asZ g10.asList g10.asSp).asSp, g11], nth ks i] =
          some [specV fl (nth ks i).asInt, .bool (specF fl (nth ks i).asInt)] := by
        simp only [specG_s, cellG_agg, nth_succ, nth_zero, asList_list, h9]
        exact bT (Nat.ble_eq_true_of_le (Nat.le_trans hfl (by omega))) _ _
      rw [hsp]
      simp only [Option.bind_some, nth_zero, nth_succ, asBool_bool, asInt_int]
      have hX : X (i + 1) = mostStep fl (X i) (nth ks i) := by
        show (ks.take (i + 1)).foldl (mostStep fl) (n0, false) = _
        rw [take_snoc hi, List.foldl_append]; rfl
      have hm : specF fl (nth ks i).asInt = true → preOk (specV fl (nth ks i).asInt) = true := by
        intro hf
        have := List.all_eq_true.1 hok _ (nth_mem hi)
        rw [hf] at this; simpa using this
      rw [w64 (n := (i : Int) + 1) (by omega) (by omega)]
      unfold mostStep at hX
      cases hf : specF fl (nth ks i).asInt with
      | false =>
        rw [hf] at hX
        simp only [cond_false] at hX
        rw [hX]
        rfl
      | true =>
        rw [hf] at hX
        simp only [cond_true] at hX
        obtain ⟨s, x, hp, hsz⟩ := prefix_size (hm hf)
        rw [hp, hX]
        simp only [Option.bind_some, nth_zero, asStr_str, hsz, Bool.not_true, cond_false]
        rfl) (fun kn kx => by
      rw [most_t0]
      unfold most_b0
      exact (cF (show ¬ ((ks.length : Nat) : Int) < ((ks.length : Nat) : Int) by omega) _ _)) hN
  have hX : X ks.length = ks.foldl (mostStep fl) (n0, false) := by show (ks.take ks.length).foldl _ _ = _; rw [List.take_length]
  rw [hX] at key
  exact key
theorem most_ok : CallsOk Tryz.prog tl 34 most_sg most_s := (most_calls (specs_cons (specs_cons (specs_cons (specs_cons (specs_cons specs_nil prefix_ok Tryz.call77) specG_ok Tryz.call17) concat_ok Tryz.call76) width_ok Tryz.call75) ruleG_ok Tryz.call19) 4398046511105).of fun gs outs h => by
  rcases gs with _ | ⟨a0, _ | ⟨a1, _ | ⟨a2, t⟩⟩⟩ <;> first | (cases h; done) | skip
  rw [most_q 4398046511105]
  simp only [most_s] at h
  generalize hfl : (cellG true a0 4).asList = fl at h
  generalize hrl : (cellG true a0 5).asList = rl at h
  cases hb : Nat.ble fl.length 2199023255552 && Nat.ble rl.length 2199023255552 with
  | false => rw [hb] at h; cases h
  | true =>
    rw [hb] at h
    simp only [Bool.and_eq_true, cond_true] at hb h
    have h1 := Nat.le_of_ble_eq_true hb.1
    unfold most_f
    have hr : ruleG_s [GV.agg [cellG true a0 0, cellG true a0 1, cellG true a0 2, cellG true a0 3, GV.list 0 (cellG true a0 4).asZ (cellG true a0 4).asList (cellG true a0 4).asSp,
            GV.list 0 (cellG true a0 5).asZ (cellG true a0 5).asList (cellG true a0 5).asSp, cellG true a0 6], a1] =
        bif ruleF rl a1.asStr then bif ruleOk (nth rl (ruleI rl a1.asStr)) then some [ruleV (nth rl (ruleI rl a1.asStr)), .bool true] else none else some [noRule, .bool false] := by
      simp only [ruleG_s, cellG_agg, nth_succ, nth_zero, asList_list, hrl]
      exact bT hb.2 _ _
    rw [hr]
    cases hf : ruleF rl a1.asStr with
    | false =>
      rw [hf] at h
      rw [← h]
      rfl
    | true =>
      rw [hf] at h
      simp only [cond_true] at h ⊢
      generalize nth rl (ruleI rl a1.asStr) = g at h ⊢
      cases hok : ruleOk g && (Nat.ble (ruleKs g).length 4398046511104 && mostOk fl (ruleKs g)) with
      | false => rw [hok] at h; cases h
      | true =>
        rw [hok] at h
        simp only [Bool.and_eq_true] at hok
        obtain ⟨k1, k2, k3⟩ := hok
        have k2 := Nat.le_of_ble_eq_true k2
        rw [← h, k1]
        have hc : concat_s [GV.list 2 true [GV.list 0 (cellG true (ruleV g) 1).asZ (cellG true (ruleV g) 1).asList (cellG true (ruleV g) 1).asSp, GV.list 0 (cellG true (ruleV g) 2).asZ (cellG true (ruleV g) 2).asList (cellG true (ruleV g) 2).asSp] []] =
            some [.list 2 (decide (((ruleKs g).length : Int) ≤ 0)) (ruleKs g) []] := by
          have e : flatL [GV.list 0 (cellG true (ruleV g) 1).asZ (cellG true (ruleV g) 1).asList (cellG true (ruleV g) 1).asSp, GV.list 0 (cellG true (ruleV g) 2).asZ (cellG true (ruleV g) 2).asList (cellG true (ruleV g) 2).asSp] = ruleKs g := by
            simp [flatL, ruleV, ruleKs, cloneG]
          simp only [concat_s, asList_list, concatOk, e]
          exact bT (by rw [Nat.ble_eq_true_of_le k2]; rfl) _ _
        have run := fun (g0 : GV) (n0 : Int) => most_run (g0 := g0) (g5 := cellG true a0 0) (g6 := cellG true a0 1) (g7 := cellG true a0 2) (g8 := cellG true a0 3) (g9 := cellG true a0 4) (g10 := cellG true a0 5) (g11 := cellG true a0 6) (z := decide (((ruleKs g).length : Int) ≤ 0)) hfl h1 k2 k3 n0 (N := 4398046511105) (by omega)
        simp only [cond_true, Option.bind_some, nth_succ, nth_zero, asBool_bool, Bool.not_true, cond_false]
        rw [hc]
        simp only [Option.bind_some, nth_zero, asList_list, asZ_list, asSp_list]
        unfold mostZ mostR halfZ2
        cases (cellG true a0 3).asInt == 5 with
        | true =>
          simp only [cond_true]
          rw [run]
          simp only [Option.bind_some, nth_zero, nth_succ, asBool_bool, asInt_int]
          cases (List.foldl (mostStep fl) (IntKind.i64.wrap (widthZ (cellG true a0 2).asInt 4 + 8), false) (ruleKs g)).2 <;> rfl
        | false =>
          simp only [cond_false]
          rw [run]
          simp only [Option.bind_some, nth_zero, nth_succ, asBool_bool, asInt_int]
          cases (List.foldl (mostStep fl) (IntKind.i64.wrap (widthZ (cellG true a0 2).asInt 4 + 16), false) (ruleKs g)).2 <;> rfl

end Go.Proofs.YtgneobkmmmpbiaaGreatDoor

/- least -/
namespace Go.Proofs.YtgneobkmmmpbiaaGreatDoor
open Go Go.Proofs Go.Eng Go.RowKit
set_option linter.unusedVariables false
set_option linter.unusedSimpArgs false

/-! least. -/
def least_sg : FSig := FSig.mk [] [(4, [])] false
noncomputable def least_c : Code := Tryz.f10.body.getD .skip
def least_E : Env := ⟨tl, [(12, rightG_sg, rightG_s), (32, fitsG_sg, fitsG_s), (34, most_sg, most_s)], dirsOf [], dirsOf [], dirsOf [], killOf [(1, [(4, 13)])], joinsOf tl []⟩
def least_f (fuel : Nat) : Option R :=
 some [GV.bool true]
theorem least_q (fuel : Nat) : gexec least_E (LZ) Tryz.f10.ntmps Tryz.f10.results.toList least_sg least_c [] = least_f fuel  := by kernel_rfl
theorem least_calls (hS : SpecsOk Tryz.prog tl least_E.sp) (fuel : Nat) : CallsOk Tryz.prog tl 10 least_sg (gexec least_E (LZ) Tryz.f10.ntmps Tryz.f10.results.toList least_sg least_c) :=
  gexec_calls (E := least_E) hP hS Tryz.func10 (by kernel_rfl) (by kernel_rfl) (fun W => LZ_ok)
theorem least_hS : SpecsOk Tryz.prog tl least_E.sp := (specs_cons (specs_cons (specs_cons specs_nil most_ok Tryz.call34) fitsG_ok Tryz.call32) rightG_ok Tryz.call12)
def least_s : List GV → Option R
  | [] => some [.bool true]
  | _ => none
theorem least_run : least_f 4 = some [.bool true] := by kernel_rfl
theorem least_ok : CallsOk Tryz.prog tl 10 least_sg least_s := (least_calls least_hS 4).of fun gs outs h => by
  rcases gs with _ | ⟨a0, t⟩ <;> first | (cases h; done) | skip
  obtain rfl := Option.some.inj h
  rw [least_q 4]
  exact least_run

end Go.Proofs.YtgneobkmmmpbiaaGreatDoor

/- r10Wide -/
namespace Go.Proofs.YtgneobkmmmpbiaaGreatDoor
open Go Go.Proofs Go.Eng Go.RowKit
set_option linter.unusedVariables false
set_option linter.unusedSimpArgs false

/-! r10Wide. -/
def r10Wide_sg : FSig := FSig.mk [25] [(4, [])] false
noncomputable def r10Wide_c : Code := Tryz.f11.body.getD .skip
def r10Wide_E : Env := ⟨tl, [], dirsOf [], dirsOf [(0, [Dir.only [1], Dir.sort [1], Dir.keep [1, 3, 4]])], dirsOf [(0, [Dir.only [], Dir.sort [], Dir.keep [3]])], killOf [], joinsOf tl []⟩
def r10Wide_sh0 : Shp := Shp.mk 42 [(1, ASh.one (SSh.ptr 1 [(0, 0)])), (3, ASh.one (SSh.s (CK.int IntKind.i64))), (4, ASh.one (SSh.s (CK.int IntKind.i64)))]
 [(1, RSh.rowA 2 25 [0, 0, 0, 0, 1, 1, 0])]
def r10Wide_xs0 : Outs := [(Ex.exit 0, Shp.mk 42 [(3, ASh.one (SSh.s (CK.int IntKind.i64)))] [])]
def r10Wide_b0 {β : Type} (fuel : Nat) (g0 g1 g2 g3 g4 g5 g6 g7 g8 : GV) (kn : List GV → Option β) (kx : Nat → List GV → Option β) : Option β :=
 bif bif decide (g1.asInt < (↑g7.asList.length : Int)) then decide (g0.asInt ≤ 10000) else false then
 bif inRange g1.asInt g7.asList.length then
 bif inRange g1.asInt g7.asList.length then
 kn
 [GV.int
 (IntKind.i64.wrap
 (IntKind.i64.wrap (g0.asInt + (↑(cellG true (nth (GV.list 0 g7.asZ g7.asList g7.asSp).all g1.asInt.toNat) 1).asList.length : Int)) +
 (↑(cellG true (nth (GV.list 0 g7.asZ g7.asList g7.asSp).all g1.asInt.toNat) 2).asList.length : Int))),
 GV.int (IntKind.i64.wrap (g1.asInt + 1)), g2, g3, g4, g5, GV.list 0 g6.asZ g6.asList g6.asSp, GV.list 0 g7.asZ g7.asList g7.asSp, g8]
 else none
 else none
else kx 0 [g0]
def r10Wide_e0 (fuel : Nat) : LEnt := ⟨0, r10Wide_sh0, r10Wide_xs0, fun gs kn kx => r10Wide_b0 fuel (nth gs 0) (nth gs 1) (nth gs 2) (nth gs 3) (nth gs 4) (nth gs 5) (nth gs 6) (nth gs 7) (nth gs 8) kn kx⟩
def r10Wide_l0 (fuel : Nat) (gs : List GV) : Option (Nat × List GV) := loopR (r10Wide_e0 fuel).step fuel gs
theorem r10Wide_t0 {β : Type} (fuel : Nat) (g0 g1 g2 g3 g4 g5 g6 g7 g8 : GV) (kn : List GV → Option β) (kx : Nat → List GV → Option β) : (r10Wide_e0 fuel).step [g0, g1, g2, g3, g4, g5, g6, g7, g8] kn kx = r10Wide_b0 fuel g0 g1 g2 g3 g4 g5 g6 g7 g8 kn kx := rfl
theorem r10Wide_k0 (fuel : Nat) : StepOk r10Wide_E r10Wide_c (LZ) (r10Wide_e0 fuel) :=
  ⟨by kernel_rfl, fun gs kn kx => by kernel_rfl, fun f gs kn kx => by simp only [r10Wide_e0, r10Wide_b0, bind_cond, Option.bind_assoc, Option.bind_none]⟩
def r10Wide_f (fuel : Nat) (a0 : GV) : Option R :=
 (r10Wide_l0 fuel
 [GV.int (IntKind.i64.wrap ((↑(cellG true a0 4).asList.length : Int) + (↑(cellG true a0 5).asList.length : Int))), GV.int 0, cellG true a0 0, cellG true a0 1, cellG true a0 2,
 cellG true a0 3, GV.list 0 (cellG true a0 4).asZ (cellG true a0 4).asList (cellG true a0 4).asSp,
 GV.list 0 (cellG true a0 5).asZ (cellG true a0 5).asList (cellG true a0 5).asSp, cellG true a0 6]).bind
 fun r0 => some [GV.bool (decide ((nth r0.snd 0).asInt > 10000))]
theorem r10Wide_q (fuel : Nat) (a0 : GV) : gexec r10Wide_E (LSc (r10Wide_e0 fuel) fuel (LZ)) Tryz.f11.ntmps Tryz.f11.results.toList r10Wide_sg r10Wide_c [a0] = r10Wide_f fuel a0 := by kernel_rfl
theorem r10Wide_calls (hS : SpecsOk Tryz.prog tl r10Wide_E.sp) (fuel : Nat) : CallsOk Tryz.prog tl 11 r10Wide_sg (gexec r10Wide_E (LSc (r10Wide_e0 fuel) fuel (LZ)) Tryz.f11.ntmps Tryz.f11.results.toList r10Wide_sg r10Wide_c) :=
  gexec_calls (E := r10Wide_E) hP hS Tryz.func11 (by kernel_rfl) (by kernel_rfl) (fun W => LSc_ok hP hS (LZ_ok) (r10Wide_k0 fuel) fuel)
theorem r10Wide_hS : SpecsOk Tryz.prog tl r10Wide_E.sp := specs_nil
def wideN (fl rl : List GV) : Nat → Int
  | 0 => ((fl.length : Nat) : Int) + ((rl.length : Nat) : Int)
  | i + 1 => wideN fl rl i + (((cellG true (nth rl i) 1).asList.length : Nat) : Int) + (((cellG true (nth rl i) 2).asList.length : Nat) : Int)
def wideB (fl rl : List GV) : Bool := anyN (fun i => ltI 10000 (wideN fl rl i)) (rl.length + 1)
theorem wideN_nn (fl rl : List GV) (i : Nat) : 0 ≤ wideN fl rl i := by
  induction i with
  | zero => show (0 : Int) ≤ ((fl.length : Nat) : Int) + ((rl.length : Nat) : Int); omega
  | succ i ih => show (0 : Int) ≤ wideN fl rl i + _ + _; omega
def r10Wide_s : List GV → Option R
  | [a0] => bif okI (cellG true a0 4) && (okI (cellG true a0 5) && (cellG true a0 5).asList.all okR) then some [.bool (wideB (cellG true a0 4).asList (cellG true a0 5).asList)] else none
  | _ => none
theorem r10Wide_run {c2 c3 c4 c5 c8 : GV} {z6 z7 : Bool} {s6 s7 fl rl : List GV} (hf : fl.length ≤ 17592186044416) (hr : rl.length ≤ 17592186044416) (hall : rl.all okR = true) {N : Nat} (hN : rl.length < N) :
    r10Wide_l0 N [.int (wideN fl rl 0), .int 0, c2, c3, c4, c5, .list 0 z6 fl s6, .list 0 z7 rl s7, c8] =
      some (0, [.int (bif anyN (fun i => ltI 10000 (wideN fl rl i)) rl.length then wideN fl rl (firstN (fun i => ltI 10000 (wideN fl rl i)) rl.length) else wideN fl rl rl.length)]) := by
  have key := loop_scan (step := (r10Wide_e0 N).step) (S := fun i => [.int (wideN fl rl i), .int (i : Nat), c2, c3, c4, c5, .list 0 z6 fl s6, .list 0 z7 rl s7, c8]) (n := rl.length)
    (stop := fun i => ltI 10000 (wideN fl rl i)) (out := fun i => (0, [.int (wideN fl rl i)])) (e := (0, [.int (wideN fl rl rl.length)]))
    (fun i hi _ kn kx => by
      rw [r10Wide_t0]
      unfold r10Wide_b0
      simp only [ltD, leD]
      have hn : nth (GV.list 0 z7 rl s7).all i = nth rl i := nth_append_left hi
      simp only [asInt_int, asList_list, asZ_list, asSp_list, Int.toNat_natCast, hn]
      rw [ltT (by omega), inRange_nat hi, add1 (by omega)]
      have hokr : okR (nth rl i) = true := List.all_eq_true.1 hall _ (nth_mem hi)
      simp only [okR, Bool.and_eq_true] at hokr
      have o1 := okI_iff.1 hokr.1
      have o2 := okI_iff.1 hokr.2
      unfold MX at o1 o2
      have nn := wideN_nn fl rl i
      have hle : leI (wideN fl rl i) 10000 = !ltI 10000 (wideN fl rl i) := ltI_not.symm
      rw [hle]
      cases hb : ltI 10000 (wideN fl rl i) with
      | true => rfl
      | false =>
        have hb : ¬ 10000 < wideN fl rl i := fun h => by rw [ltT h] at hb; cases hb
        have ew : IntKind.i64.wrap (IntKind.i64.wrap (wideN fl rl i + (((cellG true (nth rl i) 1).asList.length : Nat) : Int)) + (((cellG true (nth rl i) 2).asList.length : Nat) : Int)) = wideN fl rl (i + 1) := by
          rw [w64 (n := wideN fl rl i + _) (by omega) (by omega), w64 (by omega) (by omega)]; rfl
        rw [ew]; rfl)
    (fun _ kn kx => by
      rw [r10Wide_t0]
      unfold r10Wide_b0
      simp only [ltD, leD]
      simp only [asInt_int, asList_list]
      rw [ltF (by omega)]
      rfl) hN
  refine (show r10Wide_l0 N _ = _ from key).trans ?_
  unfold anyN
  cases decide (firstN (fun i => ltI 10000 (wideN fl rl i)) rl.length < rl.length) <;> rfl
theorem r10Wide_ok : CallsOk Tryz.prog tl 11 r10Wide_sg r10Wide_s := (r10Wide_calls r10Wide_hS 35184372088832).of fun gs outs h => by
  rcases gs with _ | ⟨a0, _ | ⟨a1, t⟩⟩ <;> first | (cases h; done) | skip
  obtain ⟨hb, rfl⟩ := guard_inv h
  simp only [Bool.and_eq_true] at hb
  obtain ⟨h4, h5, hall⟩ := hb
  have h4 := okI_iff.1 h4
  have h5 := okI_iff.1 h5
  unfold MX at h4 h5
  rw [r10Wide_q 35184372088832]
  unfold r10Wide_f
  have e0 : IntKind.i64.wrap ((((cellG true a0 4).asList.length : Nat) : Int) + (((cellG true a0 5).asList.length : Nat) : Int)) = wideN (cellG true a0 4).asList (cellG true a0 5).asList 0 := w64 (by omega) (by omega)
  rw [e0, r10Wide_run h4 h5 hall (by omega)]
  simp only [Option.bind_some, nth_zero, asInt_int, gtD]
  unfold wideB
  generalize (cellG true a0 4).asList = fl
  generalize (cellG true a0 5).asList = rl
  have hs : anyN (fun i => ltI 10000 (wideN fl rl i)) (rl.length + 1) = (anyN (fun i => ltI 10000 (wideN fl rl i)) rl.length || ltI 10000 (wideN fl rl rl.length)) := by
    rw [Bool.eq_iff_iff, Bool.or_eq_true, anyN_iff, anyN_iff]
    constructor
    · rintro ⟨i, h1, h2⟩
      rcases Nat.lt_or_ge i rl.length with h | h
      · exact .inl ⟨i, h, h2⟩
      · have : i = rl.length := by omega
        subst this; exact .inr h2
    · rintro (⟨i, h1, h2⟩ | h)
      · exact ⟨i, by omega, h2⟩
      · exact ⟨rl.length, by omega, h⟩
  rw [hs]
  cases hany : anyN (fun i => ltI 10000 (wideN fl rl i)) rl.length with
  | false => rfl
  | true =>
    have := firstN_at (p := fun i => ltI 10000 (wideN fl rl i)) (n := rl.length) (of_decide_eq_true hany)
    simp only [cond_true, Bool.true_or]
    rw [this]

end Go.Proofs.YtgneobkmmmpbiaaGreatDoor

/- r10in -/
namespace Go.Proofs.YtgneobkmmmpbiaaGreatDoor
open Go Go.Proofs Go.Eng Go.RowKit
set_option linter.unusedVariables false
set_option linter.unusedSimpArgs false

/-! r10in. -/
def r10in_sg : FSig := FSig.mk [36, 3] [(4, [])] false
noncomputable def r10in_c : Code := Tryz.f47.body.getD .skip
def r10in_E : Env := ⟨tl, [], dirsOf [], dirsOf [(0, [Dir.only [], Dir.sort [], Dir.keep [0, 1, 5]])], dirsOf [(0, [Dir.only [], Dir.sort [], Dir.keep [4]])], killOf [], joinsOf tl []⟩
def r10in_sh0 : Shp := Shp.mk 18 [(0, ASh.one (SSh.s (CK.slice 3))), (1, ASh.one (SSh.s (CK.int IntKind.i64))), (5, ASh.one (SSh.s (CK.int IntKind.i64)))] []
def r10in_xs0 : Outs := [(Ex.ret, Shp.mk 18 [(4, ASh.one (SSh.s CK.bool))] []),
 (Ex.exit 0, Shp.mk 18 [(4, ASh.one SSh.dead)] [])]
def r10in_b0 {β : Type} (fuel : Nat) (g0 g1 g2 : GV) (kn : List GV → Option β) (kx : Nat → List GV → Option β) : Option β :=
 bif decide (g2.asInt < (↑g0.asList.length : Int)) then
 bif inRange g2.asInt g0.asList.length then bif (nth g0.all g2.asInt.toNat).asInt == g1.asInt then kx 0 [GV.bool true] else kn [g0, g1, GV.int (IntKind.i64.wrap (g2.asInt + 1))] else none
else kx 1 []
def r10in_e0 (fuel : Nat) : LEnt := ⟨0, r10in_sh0, r10in_xs0, fun gs kn kx => r10in_b0 fuel (nth gs 0) (nth gs 1) (nth gs 2) kn kx⟩
def r10in_l0 (fuel : Nat) (gs : List GV) : Option (Nat × List GV) := loopR (r10in_e0 fuel).step fuel gs
theorem r10in_t0 {β : Type} (fuel : Nat) (g0 g1 g2 : GV) (kn : List GV → Option β) (kx : Nat → List GV → Option β) : (r10in_e0 fuel).step [g0, g1, g2] kn kx = r10in_b0 fuel g0 g1 g2 kn kx := rfl
theorem r10in_k0 (fuel : Nat) : StepOk r10in_E r10in_c (LZ) (r10in_e0 fuel) :=
  ⟨by kernel_rfl, fun gs kn kx => by kernel_rfl, fun f gs kn kx => by simp only [r10in_e0, r10in_b0, bind_cond, Option.bind_assoc, Option.bind_none]⟩
def r10in_f (fuel : Nat) (a0 a1 : GV) : Option R :=
 (r10in_l0 fuel [a0, a1, GV.int 0]).bind fun r0 => bif r0.fst.beq 0 then some [nth r0.snd 0] else some [GV.bool false]
theorem r10in_q (fuel : Nat) (a0 a1 : GV) : gexec r10in_E (LSc (r10in_e0 fuel) fuel (LZ)) Tryz.f47.ntmps Tryz.f47.results.toList r10in_sg r10in_c [a0, a1] = r10in_f fuel a0 a1 := by kernel_rfl
theorem r10in_calls (hS : SpecsOk Tryz.prog tl r10in_E.sp) (fuel : Nat) : CallsOk Tryz.prog tl 47 r10in_sg (gexec r10in_E (LSc (r10in_e0 fuel) fuel (LZ)) Tryz.f47.ntmps Tryz.f47.results.toList r10in_sg r10in_c) :=
  gexec_calls (E := r10in_E) hP hS Tryz.func47 (by kernel_rfl) (by kernel_rfl) (fun W => LSc_ok hP hS (LZ_ok) (r10in_k0 fuel) fuel)
theorem r10in_hS : SpecsOk Tryz.prog tl r10in_E.sp := specs_nil
theorem hasB_any (l : List GV) (n : Int) : hasB l n = anyN (fun i => (nth l i).asInt == n) l.length := by
  unfold anyN
  rw [firstN_list l (fun g => g.asInt == n)]
  have e : (fun g : GV => g.asInt == n) = fun g => n == g.asInt := funext fun g => by
    rw [Bool.eq_iff_iff, beq_iff_eq, beq_iff_eq]; exact eq_comm
  rw [e]
  rfl
def r10in_s : List GV → Option R
  | [a0, a1] => bif okI a0 then some [.bool (hasB a0.asList a1.asInt)] else none
  | _ => none
theorem r10in_ok : CallsOk Tryz.prog tl 47 r10in_sg r10in_s := CallsOk.sup (φ := fun n => _) (fun n => r10in_calls r10in_hS n) fun gs outs h => by
  rcases gs with _ | ⟨a0, _ | ⟨a1, _ | ⟨a2, t⟩⟩⟩ <;> first | (cases h; done) | skip
  obtain ⟨hb, rfl⟩ := guard_inv h
  have hb := okI_iff.1 hb
  unfold MX at hb
  refine ⟨a0.asList.length + 1, ?_⟩
  have := loop_scan (step := (r10in_e0 (a0.asList.length + 1)).step) (S := fun i => [a0, a1, .int i]) (n := a0.asList.length) (stop := fun i => (nth a0.asList i).asInt == a1.asInt) (out := fun _ => (0, [.bool true])) (e := (1, []))
    (fun i hi _ kn kx => by
      rw [r10in_t0]
      unfold r10in_b0
      simp only [ltD]
      simp only [asInt_int]
      rw [ltT (by omega), inRange_nat hi, Int.toNat_natCast, nth_all hi, add1 (by omega)]
      rfl)
    (fun _ kn kx => by
      rw [r10in_t0]
      unfold r10in_b0
      simp only [ltD]
      simp only [asInt_int]
      rw [ltF (by omega)]
      rfl) (Nat.lt_succ_self _)
  rw [r10in_q]
  unfold r10in_f r10in_l0
  rw [show GV.int 0 = GV.int ((0 : Nat) : Int) from rfl, this, hasB_any]
  show _ = some [GV.bool (decide (firstN _ _ < _))]
  cases decide (firstN (fun i => (nth a0.asList i).asInt == a1.asInt) a0.asList.length < a0.asList.length) <;> rfl

end Go.Proofs.YtgneobkmmmpbiaaGreatDoor

/- r10Number -/
namespace Go.Proofs.YtgneobkmmmpbiaaGreatDoor
open Go Go.Proofs Go.Eng Go.RowKit
set_option linter.unusedVariables false
set_option linter.unusedSimpArgs false

/-! r10Number. -/
def r10Number_sg : FSig := FSig.mk [3] [(4, [])] false
noncomputable def r10Number_c : Code := Tryz.f48.body.getD .skip
def r10Number_E : Env := ⟨tl, [], dirsOf [], dirsOf [], dirsOf [], killOf [], joinsOf tl []⟩
def r10Number_f (fuel : Nat) (a0 : GV) : Option R :=
 some [GV.bool (bif bif decide (a0.asInt ≥ 2) then decide (a0.asInt ≤ 128) else false then a0.asInt != 65 else false)]
theorem r10Number_q (fuel : Nat) (a0 : GV) : gexec r10Number_E (LZ) Tryz.f48.ntmps Tryz.f48.results.toList r10Number_sg r10Number_c [a0] = r10Number_f fuel a0 := by kernel_rfl
theorem r10Number_calls (hS : SpecsOk Tryz.prog tl r10Number_E.sp) (fuel : Nat) : CallsOk Tryz.prog tl 48 r10Number_sg (gexec r10Number_E (LZ) Tryz.f48.ntmps Tryz.f48.results.toList r10Number_sg r10Number_c) :=
  gexec_calls (E := r10Number_E) hP hS Tryz.func48 (by kernel_rfl) (by kernel_rfl) (fun W => LZ_ok)
theorem r10Number_hS : SpecsOk Tryz.prog tl r10Number_E.sp := specs_nil
def r10Number_s : List GV → Option R
  | [a0] => some [.bool (fieldB a0.asInt)]
  | _ => none
theorem r10Number_ok : CallsOk Tryz.prog tl 48 r10Number_sg r10Number_s := (r10Number_calls r10Number_hS 0).of fun gs outs h => by
  rcases gs with _ | ⟨a0, _ | ⟨a1, t⟩⟩ <;> first | (cases h; done) | skip
  rw [r10Number_q 0, ← h]
  simp only [r10Number_f, r10Number_s, fieldB]
  cases decide (a0.asInt ≥ 2) <;> cases decide (a0.asInt ≤ 128) <;> rfl

end Go.Proofs.YtgneobkmmmpbiaaGreatDoor

/- r10encodings -/
namespace Go.Proofs.YtgneobkmmmpbiaaGreatDoor
open Go Go.Proofs Go.Eng Go.RowKit
set_option linter.unusedVariables false
set_option linter.unusedSimpArgs false

/-! r10encodings. -/
def r10encodings_sg : FSig := FSig.mk [3] [(36, [2])] false
noncomputable def r10encodings_c : Code := Tryz.f88.body.getD .skip
def r10encodings_E : Env := ⟨tl, [], dirsOf [], dirsOf [], dirsOf [], killOf [], joinsOf tl [(9, mkJP tl [Dir.only [], Dir.sort [], Dir.keep [3, 7]] [(Ex.normal, Shp.mk 23 [(3, ASh.one (SSh.s (CK.int IntKind.i64))), (7, ASh.one (SSh.s CK.bool))] [])]),
 (12, mkJP tl [Dir.only [], Dir.sort [], Dir.keep [3, 13]] [(Ex.normal, Shp.mk 23 [(3, ASh.one (SSh.s (CK.int IntKind.i64))), (13, ASh.one (SSh.s CK.bool))] [])])]⟩
def r10encodings_f (fuel : Nat) (a0 : GV) : Option R :=
 bif a0.asInt == 1 then some [GV.list 2 true [GV.int 1, GV.int 2, GV.int 4] []]
else
 (bif a0.asInt == 2 then some [GV.int 0, a0, GV.bool (a0.asInt == 2)]
 else
 bif a0.asInt == 3 then some [GV.int 0, a0, GV.bool (a0.asInt == 3)]
 else bif a0.asInt == 4 then some [GV.int 0, a0, GV.bool (a0.asInt == 4)] else some [GV.int 0, a0, GV.bool (a0.asInt == 7)]).bind
 fun o0 =>
 bif (nth o0 2).asBool then some [GV.list 2 true [GV.int 1, GV.int 4] []]
 else
 (bif (nth o0 1).asInt == 5 then some [GV.int 0, nth o0 1, GV.bool ((nth o0 1).asInt == 5)] else some [GV.int 0, nth o0 1, GV.bool ((nth o0 1).asInt == 8)]).bind fun o1 =>
 bif (nth o1 2).asBool then some [GV.list 2 true [GV.int 5] []]
 else
 bif (nth o1 1).asInt == 6 then some [GV.list 2 true [GV.int 1, GV.int 3, GV.int 4] []]
 else bif (nth o1 1).asInt == 9 then some [GV.list 2 true [GV.int 1] []] else some [GV.list 2 true [] []]
theorem r10encodings_q (fuel : Nat) (a0 : GV) : gexec r10encodings_E (LZ) Tryz.f88.ntmps Tryz.f88.results.toList r10encodings_sg r10encodings_c [a0] = r10encodings_f fuel a0 := by kernel_rfl
theorem r10encodings_calls (hS : SpecsOk Tryz.prog tl r10encodings_E.sp) (fuel : Nat) : CallsOk Tryz.prog tl 88 r10encodings_sg (gexec r10encodings_E (LZ) Tryz.f88.ntmps Tryz.f88.results.toList r10encodings_sg r10encodings_c) :=
  gexec_calls (E := r10encodings_E) hP hS Tryz.func88 (by kernel_rfl) (by kernel_rfl) (fun W => LZ_ok)
theorem r10encodings_hS : SpecsOk Tryz.prog tl r10encodings_E.sp := specs_nil
def r10encodings_s : List GV → Option R
  | [a0] => some [.list 2 true (encG a0.asInt) []]
  | _ => none
theorem r10encodings_ok : CallsOk Tryz.prog tl 88 r10encodings_sg r10encodings_s := (r10encodings_calls specs_nil 0).of fun gs outs h => by
  rcases gs with _ | ⟨a0, _ | ⟨a1, t⟩⟩ <;> first | (cases h; done) | skip
  rw [r10encodings_q 0, ← h]
  show r10encodings_f 0 a0 = some [.list 2 true (encG a0.asInt) []]
  by_cases h1 : a0.asInt = 1
  · simp [r10encodings_f, encG, h1]
  by_cases h2 : a0.asInt = 2
  · simp [r10encodings_f, encG, h2]
  by_cases h3 : a0.asInt = 3
  · simp [r10encodings_f, encG, h3]
  by_cases h4 : a0.asInt = 4
  · simp [r10encodings_f, encG, h4]
  by_cases h5 : a0.asInt = 5
  · simp [r10encodings_f, encG, h5]
  by_cases h6 : a0.asInt = 6
  · simp [r10encodings_f, encG, h6]
  by_cases h7 : a0.asInt = 7
  · simp [r10encodings_f, encG, h7]
  by_cases h8 : a0.asInt = 8
  · simp [r10encodings_f, encG, h8]
  by_cases h9 : a0.asInt = 9
  · simp [r10encodings_f, encG, h9]
  simp [r10encodings_f, encG, beq_eq_false_iff_ne.2 h1, beq_eq_false_iff_ne.2 h2, beq_eq_false_iff_ne.2 h3, beq_eq_false_iff_ne.2 h4, beq_eq_false_iff_ne.2 h5, beq_eq_false_iff_ne.2 h6, beq_eq_false_iff_ne.2 h7, beq_eq_false_iff_ne.2 h8, beq_eq_false_iff_ne.2 h9]

end Go.Proofs.YtgneobkmmmpbiaaGreatDoor

/- r10spec -/
namespace Go.Proofs.YtgneobkmmmpbiaaGreatDoor
open Go Go.Proofs Go.Eng Go.RowKit
set_option linter.unusedVariables false
set_option linter.unusedSimpArgs false

/-! r10spec. -/
def r10spec_sg : FSig := FSig.mk [34] [(28, [])] false
noncomputable def r10spec_c : Code := Tryz.f49.body.getD .skip
def r10spec_E : Env := ⟨tl, [(88, r10encodings_sg, r10encodings_s), (47, r10in_sg, r10in_s)], dirsOf [], dirsOf [(0, [Dir.only [1], Dir.sort [1], Dir.keep [1, 4, 5, 6]])], dirsOf [(0, [Dir.only [1], Dir.sort [1], Dir.keep [1, 4, 5]])], killOf [], joinsOf tl []⟩
def r10spec_sh0 : Shp := Shp.mk 87
 [(1, ASh.one (SSh.ptr 1 [(0, 0)])), (4, ASh.one (SSh.s CK.bool)), (5, ASh.one (SSh.s (CK.int IntKind.i64))), (6, ASh.one (SSh.s (CK.int IntKind.i64)))]
 [(1, RSh.rowA 2 34 [0, 0, 0, 0, 0, 0])]
def r10spec_xs0 : Outs := [(Ex.exit 0, Shp.mk 87 [(1, ASh.one (SSh.ptr 1 [(0, 0)])), (4, ASh.one (SSh.s CK.bool)), (5, ASh.one (SSh.s (CK.int IntKind.i64)))] [(1, RSh.rowA 2 34 [0, 0, 0, 0, 0, 0])])]
def r10spec_b0 {β : Type} (fuel : Nat) (g0 g1 g2 g3 g4 g5 g6 g7 g8 : GV) (kn : List GV → Option β) (kx : Nat → List GV → Option β) : Option β :=
 bif decide (g2.asInt < g6.asInt) then kn [g0, GV.int (IntKind.i64.wrap (g1.asInt * 10)), GV.int (IntKind.i64.wrap (g2.asInt + 1)), g3, g4, g5, g6, g7, g8] else kx 0 [g0, g1, g3, g4, g5, g6, g7, g8]
def r10spec_e0 (fuel : Nat) : LEnt := ⟨0, r10spec_sh0, r10spec_xs0, fun gs kn kx => r10spec_b0 fuel (nth gs 0) (nth gs 1) (nth gs 2) (nth gs 3) (nth gs 4) (nth gs 5) (nth gs 6) (nth gs 7) (nth gs 8) kn kx⟩
def r10spec_l0 (fuel : Nat) (gs : List GV) : Option (Nat × List GV) := loopR (r10spec_e0 fuel).step fuel gs
theorem r10spec_t0 {β : Type} (fuel : Nat) (g0 g1 g2 g3 g4 g5 g6 g7 g8 : GV) (kn : List GV → Option β) (kx : Nat → List GV → Option β) : (r10spec_e0 fuel).step [g0, g1, g2, g3, g4, g5, g6, g7, g8] kn kx = r10spec_b0 fuel g0 g1 g2 g3 g4 g5 g6 g7 g8 kn kx := rfl
theorem r10spec_k0 (fuel : Nat) : StepOk r10spec_E r10spec_c (LZ) (r10spec_e0 fuel) :=
  ⟨by kernel_rfl, fun gs kn kx => by kernel_rfl, fun f gs kn kx => by simp only [r10spec_e0, r10spec_b0, bind_cond, Option.bind_assoc, Option.bind_none]⟩
def r10spec_f (fuel : Nat) (a0 : GV) : Option R :=
 (r10in_s [GV.list 2 true (encG (cellG true a0 1).asInt) [], cellG true a0 2]).bind fun o0 =>
 bif !(nth o0 0).asBool then some [GV.int 103]
 else
 bif
 bif bif bif decide ((cellG true a0 3).asInt < 0) then true else decide ((cellG true a0 3).asInt > 4) then true else decide ((cellG true a0 5).asInt < 1) then true
 else decide ((cellG true a0 5).asInt > 9999) then
 some [GV.int 104]
 else
 bif bif (cellG true a0 3).asInt == 0 then (cellG true a0 4).asInt != 0 else false then some [GV.int 104]
 else
 bif decide ((cellG true a0 3).asInt > 0) then
 (r10spec_l0 fuel
 [GV.bool (hasB [GV.int 1, GV.int 2, GV.int 4, GV.int 5] (cellG true a0 4).asInt), GV.int 1, GV.int 0, cellG true a0 0,
 cellG true a0 1, cellG true a0 2, cellG true a0 3, cellG true a0 4, cellG true a0 5]).bind
 fun r1 =>
 bif bif !(nth r1.snd 0).asBool then true else decide ((nth r1.snd 7).asInt ≥ (nth r1.snd 1).asInt) then some [GV.int 104]
 else
 bif
 bif bif bif (nth r1.snd 3).asInt == 8 then true else (nth r1.snd 3).asInt == 9 then (nth r1.snd 5).asInt == 0 else false then true
 else bif (nth r1.snd 3).asInt == 7 then (nth r1.snd 7).asInt == 1 else false then
 some [GV.int 104]
 else some [GV.int 0]
 else
 bif
 bif bif bif (cellG true a0 1).asInt == 8 then true else (cellG true a0 1).asInt == 9 then (cellG true a0 3).asInt == 0 else false then true
 else bif (cellG true a0 1).asInt == 7 then (cellG true a0 5).asInt == 1 else false then
 some [GV.int 104]
 else some [GV.int 0]
theorem r10spec_q (fuel : Nat) (a0 : GV) : gexec r10spec_E (LSc (r10spec_e0 fuel) fuel (LZ)) Tryz.f49.ntmps Tryz.f49.results.toList r10spec_sg r10spec_c [a0] = r10spec_f fuel a0 := by kernel_rfl
theorem r10spec_calls (hS : SpecsOk Tryz.prog tl r10spec_E.sp) (fuel : Nat) : CallsOk Tryz.prog tl 49 r10spec_sg (gexec r10spec_E (LSc (r10spec_e0 fuel) fuel (LZ)) Tryz.f49.ntmps Tryz.f49.results.toList r10spec_sg r10spec_c) :=
  gexec_calls (E := r10spec_E) hP hS Tryz.func49 (by kernel_rfl) (by kernel_rfl) (fun W => LSc_ok hP hS (LZ_ok) (r10spec_k0 fuel) fuel)
theorem r10spec_hS : SpecsOk Tryz.prog tl r10spec_E.sp := (specs_cons (specs_cons specs_nil r10in_ok Tryz.call47) r10encodings_ok Tryz.call88)
def r10spec_s : List GV → Option R
  | [a0] => some [.int (specE a0)]
  | _ => none
theorem r10spec_run {d : Nat} (hd : d ≤ 4) (g0 c0 c1 c2 c3 c4 c5 : GV) (h3 : c3.asInt = (d : Int)) : r10spec_l0 5 [g0, .int 1, .int 0, c0, c1, c2, c3, c4, c5] = some (0, [g0, .int (10 ^ d), c0, c1, c2, c3, c4, c5]) := by
  have key := loop_done (step := (r10spec_e0 5).step) (S := fun i => [g0, .int (10 ^ i), .int (i : Nat), c0, c1, c2, c3, c4, c5]) (n := d) (q := 0) (zs := [g0, .int (10 ^ d), c0, c1, c2, c3, c4, c5]) (fun i hi kn kx => by
      rw [r10spec_t0]
      unfold r10spec_b0
      simp only [ltD]
      simp only [asInt_int, h3]
      rw [ltT (by omega), add1 (by omega)]
      have : IntKind.i64.wrap ((10 : Int) ^ i * 10) = 10 ^ (i + 1) := by
        match i, hi with
        | 0, _ => decide
        | 1, _ => decide
        | 2, _ => decide
        | 3, _ => decide
        | i + 4, h => omega
      rw [this]; rfl) (fun kn kx => by
      rw [r10spec_t0]
      unfold r10spec_b0
      simp only [ltD]
      simp only [asInt_int, h3]
      rw [ltF (by omega)]; rfl) (N := 5) (by omega)
  exact key
theorem r10spec_ok : CallsOk Tryz.prog tl 49 r10spec_sg r10spec_s := (r10spec_calls r10spec_hS 5).of fun gs outs h => by
  rcases gs with _ | ⟨a0, _ | ⟨a1, t⟩⟩ <;> first | (cases h; done) | skip
  obtain rfl := Option.some.inj h
  rw [r10spec_q 5]
  unfold r10spec_f
  have e0 : r10in_s [GV.list 2 true (encG (cellG true a0 1).asInt) [], cellG true a0 2] = some [.bool (hasB (encG (cellG true a0 1).asInt) (cellG true a0 2).asInt)] :=
    bT (okI_iff.2 (by have := encG_len (cellG true a0 1).asInt; simp only [asList_list]; unfold MX; omega)) _ _
  rw [e0]
  unfold specE
  generalize hc : (cellG true a0 1).asInt = c
  generalize hd : (cellG true a0 3).asInt = d
  generalize hl : (cellG true a0 4).asInt = le
  generalize hz : (cellG true a0 5).asInt = sz
  simp only [Option.bind_some, nth_zero, asBool_bool]
  cases hasB (encG c) (cellG true a0 2).asInt with
  | false => rfl
  | true =>
    simp only [Bool.not_true, cond_false, cond_true, ltD, gtD, leD, geD, bif_and, bif_or]
    by_cases hr : 0 < d ∧ d ≤ 4 ∧ 1 ≤ sz ∧ sz ≤ 9999
    · obtain ⟨h1, h2, h3, h4⟩ := hr
      have f0 : (d == 0) = false := beq_eq_false_iff_ne.2 (by omega)
      have hrun := r10spec_run (d := d.toNat) (by omega) (GV.bool (hasB [.int 1, .int 2, .int 4, .int 5] le)) (cellG true a0 0) (cellG true a0 1) (cellG true a0 2) (cellG true a0 3) (cellG true a0 4) (cellG true a0 5) (by rw [hd]; omega)
      rw [hrun]
      unfold badB
      rw [ltF (show ¬ d < 0 by omega), ltF (show ¬ 4 < d by omega), ltT h1, ltF (show ¬ sz < 1 by omega), ltF (show ¬ 9999 < sz by omega), f0]
      simp only [Option.bind_some, nth_zero, nth_succ, asInt_int, asBool_bool, hc, hd, hz, Bool.false_or, Bool.false_and, cond_false, cond_true, f0, Bool.and_false, Bool.or_false, Bool.true_and]
      cases hasB [.int 1, .int 2, .int 4, .int 5] le <;> cases leI (10 ^ d.toNat) sz <;> cases (c == 7 && sz == 1) <;> rfl
    · by_cases h1 : 0 < d
      · have hA : ((ltI d 0 || ltI 4 d) || (ltI sz 1 || ltI 9999 sz)) = true := by
          rw [Bool.or_eq_true, Bool.or_eq_true, Bool.or_eq_true, ltI_iff, ltI_iff, ltI_iff, ltI_iff]; omega
        have hB : badB c d le sz = true := by unfold badB; rw [hA]; rfl
        have hA' : (((ltI d 0 || ltI 4 d) || ltI sz 1) || ltI 9999 sz) = true := by rw [← hA, Bool.or_assoc]
        rw [hB, hA']; rfl
      · unfold badB
        rw [ltF h1]
        simp only [cond_false]
        cases ltI d 0 <;> cases ltI 4 d <;> cases ltI sz 1 <;> cases ltI 9999 sz <;> cases (d == 0) <;> cases (le != 0) <;> cases (c == 8) <;> cases (c == 9) <;> cases (c == 7) <;> cases (sz == 1) <;> rfl

end Go.Proofs.YtgneobkmmmpbiaaGreatDoor

/- r10Type -/
namespace Go.Proofs.YtgneobkmmmpbiaaGreatDoor
open Go Go.Proofs Go.Eng Go.RowKit
set_option linter.unusedVariables false
set_option linter.unusedSimpArgs false

/-! r10Type. -/
def r10Type_sg : FSig := FSig.mk [9] [(4, [])] false
noncomputable def r10Type_c : Code := Tryz.f83.body.getD .skip
def r10Type_E : Env := ⟨tl, [], dirsOf [], dirsOf [], dirsOf [], killOf [], joinsOf tl [(11, mkJP tl [Dir.only [], Dir.sort [], Dir.keep [17, 18]] [(Ex.normal, Shp.mk 42 [(17, ASh.one (SSh.s CK.str)), (18, ASh.one (SSh.s CK.bool))] [])]),
 (18, mkJP tl [Dir.only [], Dir.sort [], Dir.keep [17, 25]] [(Ex.normal, Shp.mk 42 [(17, ASh.one (SSh.s CK.str)), (25, ASh.one (SSh.s CK.bool))] [])]),
 (28, mkJP tl [Dir.only [], Dir.sort [], Dir.keep [32]] [(Ex.normal, Shp.mk 42 [(32, ASh.one (SSh.s CK.bool))] [])])]⟩
def r10Type_f (fuel : Nat) (a0 : GV) : Option R :=
 bif inRange 0 a0.asStr.size || !!(↑a0.asStr.size : Int) != 4 then
 bif inRange 0 a0.asStr.size || !(!(↑a0.asStr.size : Int) != 4 && bt a0.asStr 0 != 48) then
 bif bif (↑a0.asStr.size : Int) != 4 then true else bif bt a0.asStr 0 != 48 then bt a0.asStr 0 != 49 else false then some [GV.bool false]
 else
 bif (inRange 1 (a0.asStr.size + 1), 1, a0.asStr.size).fst then
 (bif strEq (a0.asStr.extract 1 (inRange 1 (a0.asStr.size + 1), 1, a0.asStr.size).snd.snd) (ByteArray.mk #[49, 48, 48]) then
 some
 [GV.int 0, GV.str (a0.asStr.extract 1 (inRange 1 (a0.asStr.size + 1), 1, a0.asStr.size).snd.snd),
 GV.bool (strEq (a0.asStr.extract 1 (inRange 1 (a0.asStr.size + 1), 1, a0.asStr.size).snd.snd) (ByteArray.mk #[49, 48, 48]))]
 else
 bif strEq (a0.asStr.extract 1 (inRange 1 (a0.asStr.size + 1), 1, a0.asStr.size).snd.snd) (ByteArray.mk #[49, 48, 49]) then
 some
 [GV.int 0, GV.str (a0.asStr.extract 1 (inRange 1 (a0.asStr.size + 1), 1, a0.asStr.size).snd.snd),
 GV.bool (strEq (a0.asStr.extract 1 (inRange 1 (a0.asStr.size + 1), 1, a0.asStr.size).snd.snd) (ByteArray.mk #[49, 48, 49]))]
 else
 bif strEq (a0.asStr.extract 1 (inRange 1 (a0.asStr.size + 1), 1, a0.asStr.size).snd.snd) (ByteArray.mk #[49, 49, 48]) then
 some
 [GV.int 0, GV.str (a0.asStr.extract 1 (inRange 1 (a0.asStr.size + 1), 1, a0.asStr.size).snd.snd),
 GV.bool (strEq (a0.asStr.extract 1 (inRange 1 (a0.asStr.size + 1), 1, a0.asStr.size).snd.snd) (ByteArray.mk #[49, 49, 48]))]
 else
 bif strEq (a0.asStr.extract 1 (inRange 1 (a0.asStr.size + 1), 1, a0.asStr.size).snd.snd) (ByteArray.mk #[49, 50, 48]) then
 some
 [GV.int 0, GV.str (a0.asStr.extract 1 (inRange 1 (a0.asStr.size + 1), 1, a0.asStr.size).snd.snd),
 GV.bool (strEq (a0.asStr.extract 1 (inRange 1 (a0.asStr.size + 1), 1, a0.asStr.size).snd.snd) (ByteArray.mk #[49, 50, 48]))]
 else
 bif strEq (a0.asStr.extract 1 (inRange 1 (a0.asStr.size + 1), 1, a0.asStr.size).snd.snd) (ByteArray.mk #[49, 50, 49]) then
 some
 [GV.int 0, GV.str (a0.asStr.extract 1 (inRange 1 (a0.asStr.size + 1), 1, a0.asStr.size).snd.snd),
 GV.bool (strEq (a0.asStr.extract 1 (inRange 1 (a0.asStr.size + 1), 1, a0.asStr.size).snd.snd) (ByteArray.mk #[49, 50, 49]))]
 else
 some
 [GV.int 0, GV.str (a0.asStr.extract 1 (inRange 1 (a0.asStr.size + 1), 1, a0.asStr.size).snd.snd),
 GV.bool (strEq (a0.asStr.extract 1 (inRange 1 (a0.asStr.size + 1), 1, a0.asStr.size).snd.snd) (ByteArray.mk #[49, 51, 48]))]).bind
 fun o0 =>
 bif (nth o0 2).asBool then some [GV.bool true]
 else
 (bif strEq (nth o0 1).asStr (ByteArray.mk #[50, 48, 48]) then some [GV.int 0, nth o0 1, GV.bool (strEq (nth o0 1).asStr (ByteArray.mk #[50, 48, 48]))]
 else
 bif strEq (nth o0 1).asStr (ByteArray.mk #[50, 48, 49]) then some [GV.int 0, nth o0 1, GV.bool (strEq (nth o0 1).asStr (ByteArray.mk #[50, 48, 49]))]
 else
 bif strEq (nth o0 1).asStr (ByteArray.mk #[50, 49, 48]) then some [GV.int 0, nth o0 1, GV.bool (strEq (nth o0 1).asStr (ByteArray.mk #[50, 49, 48]))]
 else
 bif strEq (nth o0 1).asStr (ByteArray.mk #[50, 50, 48]) then some [GV.int 0, nth o0 1, GV.bool (strEq (nth o0 1).asStr (ByteArray.mk #[50, 50, 48]))]
 else
 bif strEq (nth o0 1).asStr (ByteArray.mk #[50, 50, 49]) then some [GV.int 0, nth o0 1, GV.bool (strEq (nth o0 1).asStr (ByteArray.mk #[50, 50, 49]))]
 else some [GV.int 0, nth o0 1, GV.bool (strEq (nth o0 1).asStr (ByteArray.mk #[50, 51, 48]))]).bind
 fun o1 =>
 bif (nth o1 2).asBool then some [GV.bool true]
 else
 (bif strEq (nth o1 1).asStr (ByteArray.mk #[52, 50, 48]) then some [GV.int 0, GV.bool (strEq (nth o1 1).asStr (ByteArray.mk #[52, 50, 48]))]
 else
 bif strEq (nth o1 1).asStr (ByteArray.mk #[52, 50, 49]) then some [GV.int 0, GV.bool (strEq (nth o1 1).asStr (ByteArray.mk #[52, 50, 49]))]
 else
 bif strEq (nth o1 1).asStr (ByteArray.mk #[52, 51, 48]) then some [GV.int 0, GV.bool (strEq (nth o1 1).asStr (ByteArray.mk #[52, 51, 48]))]
 else
 bif strEq (nth o1 1).asStr (ByteArray.mk #[53, 48, 48]) then some [GV.int 0, GV.bool (strEq (nth o1 1).asStr (ByteArray.mk #[53, 48, 48]))]
 else
 bif strEq (nth o1 1).asStr (ByteArray.mk #[53, 48, 49]) then some [GV.int 0, GV.bool (strEq (nth o1 1).asStr (ByteArray.mk #[53, 48, 49]))]
 else
 bif strEq (nth o1 1).asStr (ByteArray.mk #[53, 49, 48]) then some [GV.int 0, GV.bool (strEq (nth o1 1).asStr (ByteArray.mk #[53, 49, 48]))]
 else
 bif strEq (nth o1 1).asStr (ByteArray.mk #[56, 48, 48]) then some [GV.int 0, GV.bool (strEq (nth o1 1).asStr (ByteArray.mk #[56, 48, 48]))]
 else
 bif strEq (nth o1 1).asStr (ByteArray.mk #[56, 48, 49]) then some [GV.int 0, GV.bool (strEq (nth o1 1).asStr (ByteArray.mk #[56, 48, 49]))]
 else some [GV.int 0, GV.bool (strEq (nth o1 1).asStr (ByteArray.mk #[56, 49, 48]))]).bind
 fun o2 => bif (nth o2 1).asBool then some [GV.bool true] else some [GV.bool false]
 else none
 else none
else none
theorem r10Type_q (fuel : Nat) (a0 : GV) : gexec r10Type_E (LZ) Tryz.f83.ntmps Tryz.f83.results.toList r10Type_sg r10Type_c [a0] = r10Type_f fuel a0 := by kernel_rfl
theorem r10Type_calls (hS : SpecsOk Tryz.prog tl r10Type_E.sp) (fuel : Nat) : CallsOk Tryz.prog tl 83 r10Type_sg (gexec r10Type_E (LZ) Tryz.f83.ntmps Tryz.f83.results.toList r10Type_sg r10Type_c) :=
  gexec_calls (E := r10Type_E) hP hS Tryz.func83 (by kernel_rfl) (by kernel_rfl) (fun W => LZ_ok)
theorem r10Type_hS : SpecsOk Tryz.prog tl r10Type_E.sp := specs_nil
def r10Type_s : List GV → Option R
  | [a0] => some [.bool (typeB a0.asStr)]
  | _ => none
theorem pick6 (g : GV) (a b c d e f : Bool) : (bif a then some [GV.int 0, g, GV.bool a] else bif b then some [GV.int 0, g, GV.bool b] else bif c then some [GV.int 0, g, GV.bool c] else bif d then some [GV.int 0, g, GV.bool d] else bif e then some [GV.int 0, g, GV.bool e] else some [GV.int 0, g, GV.bool f]) = (some [GV.int 0, g, GV.bool (a || (b || (c || (d || (e || f)))))] : Option R) := by
  cases a <;> cases b <;> cases c <;> cases d <;> cases e <;> rfl
theorem pick9 (a b c d e f g h i : Bool) : (bif a then some [GV.int 0, GV.bool a] else bif b then some [GV.int 0, GV.bool b] else bif c then some [GV.int 0, GV.bool c] else bif d then some [GV.int 0, GV.bool d] else bif e then some [GV.int 0, GV.bool e] else bif f then some [GV.int 0, GV.bool f] else bif g then some [GV.int 0, GV.bool g] else bif h then some [GV.int 0, GV.bool h] else some [GV.int 0, GV.bool i]) = (some [GV.int 0, GV.bool (a || (b || (c || (d || (e || (f || (g || (h || i))))))))] : Option R) := by
  cases a <;> cases b <;> cases c <;> cases d <;> cases e <;> cases f <;> cases g <;> cases h <;> rfl
theorem typ3_list (x y z : Int) : (((x == 49 && (y == 48 && z == 48)) || ((x == 49 && (y == 48 && z == 49)) || ((x == 49 && (y == 49 && z == 48)) || ((x == 49 && (y == 50 && z == 48)) || ((x == 49 && (y == 50 && z == 49)) || (x == 49 && (y == 51 && z == 48))))))) || (((x == 50 && (y == 48 && z == 48)) || ((x == 50 && (y == 48 && z == 49)) || ((x == 50 && (y == 49 && z == 48)) || ((x == 50 && (y == 50 && z == 48)) || ((x == 50 && (y == 50 && z == 49)) || (x == 50 && (y == 51 && z == 48))))))) || ((x == 52 && (y == 50 && z == 48)) || ((x == 52 && (y == 50 && z == 49)) || ((x == 52 && (y == 51 && z == 48)) || ((x == 53 && (y == 48 && z == 48)) || ((x == 53 && (y == 48 && z == 49)) || ((x == 53 && (y == 49 && z == 48)) || ((x == 56 && (y == 48 && z == 48)) || ((x == 56 && (y == 48 && z == 49)) || (x == 56 && (y == 49 && z == 48)))))))))))) = typ3 x y z := by
  unfold typ3
  by_cases x49 : x = 49
  · subst x49
    by_cases y48 : y = 48
    · subst y48; cases z == 48 <;> cases z == 49 <;> rfl
    by_cases y49 : y = 49
    · subst y49; cases z == 48 <;> cases z == 49 <;> rfl
    by_cases y50 : y = 50
    · subst y50; cases z == 48 <;> cases z == 49 <;> rfl
    by_cases y51 : y = 51
    · subst y51; cases z == 48 <;> cases z == 49 <;> rfl
    rw [beq_eq_false_iff_ne.2 y48, beq_eq_false_iff_ne.2 y49, beq_eq_false_iff_ne.2 y50, beq_eq_false_iff_ne.2 y51]
    cases z == 48 <;> cases z == 49 <;> rfl
  by_cases x50 : x = 50
  · subst x50
    by_cases y48 : y = 48
    · subst y48; cases z == 48 <;> cases z == 49 <;> rfl
    by_cases y49 : y = 49
    · subst y49; cases z == 48 <;> cases z == 49 <;> rfl
    by_cases y50 : y = 50
    · subst y50; cases z == 48 <;> cases z == 49 <;> rfl
    by_cases y51 : y = 51
    · subst y51; cases z == 48 <;> cases z == 49 <;> rfl
    rw [beq_eq_false_iff_ne.2 y48, beq_eq_false_iff_ne.2 y49, beq_eq_false_iff_ne.2 y50, beq_eq_false_iff_ne.2 y51]
    cases z == 48 <;> cases z == 49 <;> rfl
  by_cases x52 : x = 52
  · subst x52
    by_cases y48 : y = 48
    · subst y48; cases z == 48 <;> cases z == 49 <;> rfl
    by_cases y49 : y = 49
    · subst y49; cases z == 48 <;> cases z == 49 <;> rfl
    by_cases y50 : y = 50
    · subst y50; cases z == 48 <;> cases z == 49 <;> rfl
    by_cases y51 : y = 51
    · subst y51; cases z == 48 <;> cases z == 49 <;> rfl
    rw [beq_eq_false_iff_ne.2 y48, beq_eq_false_iff_ne.2 y49, beq_eq_false_iff_ne.2 y50, beq_eq_false_iff_ne.2 y51]
    cases z == 48 <;> cases z == 49 <;> rfl
  by_cases x53 : x = 53
  · subst x53
    by_cases y48 : y = 48
    · subst y48; cases z == 48 <;> cases z == 49 <;> rfl
    by_cases y49 : y = 49
    · subst y49; cases z == 48 <;> cases z == 49 <;> rfl
    by_cases y50 : y = 50
    · subst y50; cases z == 48 <;> cases z == 49 <;> rfl
    by_cases y51 : y = 51
    · subst y51; cases z == 48 <;> cases z == 49 <;> rfl
    rw [beq_eq_false_iff_ne.2 y48, beq_eq_false_iff_ne.2 y49, beq_eq_false_iff_ne.2 y50, beq_eq_false_iff_ne.2 y51]
    cases z == 48 <;> cases z == 49 <;> rfl
  by_cases x56 : x = 56
  · subst x56
    by_cases y48 : y = 48
    · subst y48; cases z == 48 <;> cases z == 49 <;> rfl
    by_cases y49 : y = 49
    · subst y49; cases z == 48 <;> cases z == 49 <;> rfl
    by_cases y50 : y = 50
    · subst y50; cases z == 48 <;> cases z == 49 <;> rfl
    by_cases y51 : y = 51
    · subst y51; cases z == 48 <;> cases z == 49 <;> rfl
    rw [beq_eq_false_iff_ne.2 y48, beq_eq_false_iff_ne.2 y49, beq_eq_false_iff_ne.2 y50, beq_eq_false_iff_ne.2 y51]
    cases z == 48 <;> cases z == 49 <;> rfl
  rw [beq_eq_false_iff_ne.2 x49, beq_eq_false_iff_ne.2 x50, beq_eq_false_iff_ne.2 x52, beq_eq_false_iff_ne.2 x53, beq_eq_false_iff_ne.2 x56]
  rfl
theorem r10Type_ok : CallsOk Tryz.prog tl 83 r10Type_sg r10Type_s := (r10Type_calls r10Type_hS 0).of fun gs outs h => by
  rcases gs with _ | ⟨a0, _ | ⟨a1, t⟩⟩ <;> first | (cases h; done) | skip
  obtain rfl := Option.some.inj h
  rw [r10Type_q 0]
  generalize hs : a0.asStr = s
  by_cases h4 : s.size = 4
  · have i0 : inRange 0 s.size = true := by rw [h4]; rfl
    have i1 : inRange 1 (s.size + 1) = true := by rw [h4]; rfl
    have hT : typeB s = ((bt s 0 == 48 || bt s 0 == 49) && typ3 (bt s 1) (bt s 2) (bt s 3)) := by unfold typeB; rw [h4]; rfl
    have hz : (s.extract 1 s.size).size = 3 := by rw [size_extract' _ (Nat.le_refl _), h4]
    have b0 : bt (s.extract 1 s.size) 0 = bt s 1 := bt_extract s (by omega)
    have b1 : bt (s.extract 1 s.size) 1 = bt s 2 := bt_extract s (by omega)
    have b2 : bt (s.extract 1 s.size) 2 = bt s 3 := bt_extract s (by omega)
    unfold r10Type_f
    simp only [hs, size_eq4 h4, i0, i1, Bool.not_false, Bool.not_true, Bool.true_or, Bool.or_true, Bool.true_and, cond_true, cond_false]
    generalize s.extract 1 s.size = e at hz b0 b1 b2
    rw [pick6]
    simp only [Option.bind_some, nth_zero, nth_succ, asBool_bool, asStr_str]
    rw [pick6]
    simp only [Option.bind_some, nth_zero, nth_succ, asBool_bool, asStr_str]
    rw [pick9]
    simp only [Option.bind_some, nth_zero, nth_succ, asBool_bool, asStr_str]
    simp only [strEq3 hz, b0, b1, b2]
    rw [hT, ← typ3_list]
    have fin : ∀ p q A B C : Bool, (bif bif !p then !q else false then some [GV.bool false] else bif A then some [GV.bool true] else bif B then some [GV.bool true] else bif C then some [GV.bool true] else some [GV.bool false]) = (some [GV.bool ((p || q) && (A || (B || C)))] : Option R) := by
      intro p q A B C
      cases p <;> cases q <;> cases A <;> cases B <;> cases C <;> rfl
    exact fin _ _ _ _ _
  · unfold r10Type_f
    simp only [hs, size_ne h4, Bool.not_true, Bool.not_false, Bool.or_true, cond_true, Bool.false_and, Bool.not_false]
    refine congrArg (fun b => some [GV.bool b]) ?_
    unfold typeB
    have : Nat.beq s.size 4 = false := by
      cases hb : Nat.beq s.size 4 with
      | false => rfl
      | true => exact absurd (Nat.eq_of_beq_eq_true hb) h4
    rw [this]; rfl

end Go.Proofs.YtgneobkmmmpbiaaGreatDoor

/- r10rule -/
namespace Go.Proofs.YtgneobkmmmpbiaaGreatDoor
open Go Go.Proofs Go.Eng Go.RowKit
set_option linter.unusedVariables false
set_option linter.unusedSimpArgs false

/-! r10rule. -/
def r10rule_sg : FSig := FSig.mk [25, 38] [(4, [])] false
noncomputable def r10rule_c : Code := Tryz.f50.body.getD .skip
def r10rule_E : Env := ⟨tl, [(83, r10Type_sg, r10Type_s), (89, r10rise_sg, r10rise_s), (18, r10Spec_sg, r10Spec_s), (47, r10in_sg, r10in_s)], dirsOf [], dirsOf [(0, [Dir.only [2, 3], Dir.sort [2, 3], Dir.keep [2, 3, 8]]), (1, [Dir.only [2, 3], Dir.sort [2, 3], Dir.keep [2, 3, 11]])], dirsOf [(0, [Dir.only [2, 3], Dir.sort [2, 3], Dir.keep [2, 3, 4]]), (1, [Dir.only [], Dir.sort [], Dir.keep [4]])], killOf [(9, [(11, 9)]), (15, [(11, 12)])], joinsOf tl []⟩
def r10rule_sh1 : Shp := Shp.mk 93 [(2, ASh.one (SSh.ptr 2 [(0, 0)])), (3, ASh.one (SSh.ptr 3 [(0, 0)])), (11, ASh.one (SSh.s (CK.int IntKind.i64)))]
 [(2, RSh.rowA 2 25 [0, 0, 0, 0, 1, 1, 0]), (3, RSh.rowA 2 38 [0, 1, 1])]
def r10rule_xs1 : Outs := [(Ex.ret, Shp.mk 93 [(4, ASh.one (SSh.s CK.bool))] []),
 (Ex.exit 2, Shp.mk 93 [(4, ASh.one SSh.dead)] [])]
def r10rule_b1 {β : Type} (fuel : Nat) (g0 g1 g2 g3 g4 g5 g6 g7 g8 g9 g10 : GV) (kn : List GV → Option β) (kx : Nat → List GV → Option β) : Option β :=
 bif decide (g0.asInt < (↑g10.asList.length : Int)) then
 bif inRange g0.asInt g10.asList.length then
 (r10Spec_s
 [GV.agg [g1, g2, g3, g4, GV.list 0 g5.asZ g5.asList g5.asSp, GV.list 0 g6.asZ g6.asList g6.asSp, g7], nth (GV.list 0 g10.asZ g10.asList g10.asSp).all g0.asInt.toNat]).bind
 fun o4 =>
 bif inRange g0.asInt g10.asList.length then
 (r10in_s [GV.list 0 g9.asZ g9.asList g9.asSp, nth (GV.list 0 g10.asZ g10.asList g10.asSp).all g0.asInt.toNat]).bind fun o5 =>
 bif bif !(nth o4 1).asBool then true else (nth o5 0).asBool then kx 0 [GV.bool false]
 else
 kn
 [GV.int (IntKind.i64.wrap (g0.asInt + 1)), g1, g2, g3, g4, GV.list 0 g5.asZ g5.asList g5.asSp, GV.list 0 g6.asZ g6.asList g6.asSp, g7, g8, GV.list 0 g9.asZ g9.asList g9.asSp,
 GV.list 0 g10.asZ g10.asList g10.asSp]
 else none
 else none
else kx 1 []
def r10rule_e1 (fuel : Nat) : LEnt := ⟨1, r10rule_sh1, r10rule_xs1, fun gs kn kx => r10rule_b1 fuel (nth gs 0) (nth gs 1) (nth gs 2) (nth gs 3) (nth gs 4) (nth gs 5) (nth gs 6) (nth gs 7) (nth gs 8) (nth gs 9) (nth gs 10) kn kx⟩
def r10rule_l1 (fuel : Nat) (gs : List GV) : Option (Nat × List GV) := loopR (r10rule_e1 fuel).step fuel gs
theorem r10rule_t1 {β : Type} (fuel : Nat) (g0 g1 g2 g3 g4 g5 g6 g7 g8 g9 g10 : GV) (kn : List GV → Option β) (kx : Nat → List GV → Option β) : (r10rule_e1 fuel).step [g0, g1, g2, g3, g4, g5, g6, g7, g8, g9, g10] kn kx = r10rule_b1 fuel g0 g1 g2 g3 g4 g5 g6 g7 g8 g9 g10 kn kx := rfl
theorem r10rule_k1 (fuel : Nat) : StepOk r10rule_E r10rule_c (LZ) (r10rule_e1 fuel) :=
  ⟨by kernel_rfl, fun gs kn kx => by kernel_rfl, fun f gs kn kx => by simp only [r10rule_e1, r10rule_b1, bind_cond, Option.bind_assoc, Option.bind_none]⟩
def r10rule_sh0 : Shp := Shp.mk 93 [(2, ASh.one (SSh.ptr 2 [(0, 0)])), (3, ASh.one (SSh.ptr 3 [(0, 0)])), (8, ASh.one (SSh.s (CK.int IntKind.i64)))]
 [(2, RSh.rowA 2 25 [0, 0, 0, 0, 1, 1, 0]), (3, RSh.rowA 2 38 [0, 1, 1])]
def r10rule_xs0 : Outs := [(Ex.ret, Shp.mk 93 [(2, ASh.one (SSh.ptr 2 [(0, 0)])), (3, ASh.one (SSh.ptr 3 [(0, 0)])), (4, ASh.one (SSh.s CK.bool))]
 [(2, RSh.rowA 2 25 [0, 0, 0, 0, 1, 1, 0]), (3, RSh.rowA 2 38 [0, 1, 1])]),
 (Ex.exit 0, Shp.mk 93 [(2, ASh.one (SSh.ptr 2 [(0, 0)])), (3, ASh.one (SSh.ptr 3 [(0, 0)])), (4, ASh.one SSh.dead)] [(2, RSh.rowA 2 25 [0, 0, 0, 0, 1, 1, 0]), (3, RSh.rowA 2 38 [0, 1, 1])])]
def r10rule_b0 {β : Type} (fuel : Nat) (g0 g1 g2 g3 g4 g5 g6 g7 g8 g9 g10 : GV) (kn : List GV → Option β) (kx : Nat → List GV → Option β) : Option β :=
 bif decide (g0.asInt < (↑g9.asList.length : Int)) then
 bif inRange g0.asInt g9.asList.length then
 (r10Spec_s
 [GV.agg [g1, g2, g3, g4, GV.list 0 g5.asZ g5.asList g5.asSp, GV.list 0 g6.asZ g6.asList g6.asSp, g7], nth (GV.list 0 g9.asZ g9.asList g9.asSp).all g0.asInt.toNat]).bind
 fun o2 =>
 bif !(nth o2 1).asBool then
 kx 0 [GV.bool false, g1, g2, g3, g4, GV.list 0 g5.asZ g5.asList g5.asSp, GV.list 0 g6.asZ g6.asList g6.asSp, g7, g8, GV.list 0 g9.asZ g9.asList g9.asSp, GV.list 0 g10.asZ g10.asList g10.asSp]
 else
 kn
 [GV.int (IntKind.i64.wrap (g0.asInt + 1)), g1, g2, g3, g4, GV.list 0 g5.asZ g5.asList g5.asSp, GV.list 0 g6.asZ g6.asList g6.asSp, g7, g8, GV.list 0 g9.asZ g9.asList g9.asSp,
 GV.list 0 g10.asZ g10.asList g10.asSp]
 else none
else kx 1 [g1, g2, g3, g4, GV.list 0 g5.asZ g5.asList g5.asSp, GV.list 0 g6.asZ g6.asList g6.asSp, g7, g8, GV.list 0 g9.asZ g9.asList g9.asSp, GV.list 0 g10.asZ g10.asList g10.asSp]
def r10rule_e0 (fuel : Nat) : LEnt := ⟨0, r10rule_sh0, r10rule_xs0, fun gs kn kx => r10rule_b0 fuel (nth gs 0) (nth gs 1) (nth gs 2) (nth gs 3) (nth gs 4) (nth gs 5) (nth gs 6) (nth gs 7) (nth gs 8) (nth gs 9) (nth gs 10) kn kx⟩
def r10rule_l0 (fuel : Nat) (gs : List GV) : Option (Nat × List GV) := loopR (r10rule_e0 fuel).step fuel gs
theorem r10rule_t0 {β : Type} (fuel : Nat) (g0 g1 g2 g3 g4 g5 g6 g7 g8 g9 g10 : GV) (kn : List GV → Option β) (kx : Nat → List GV → Option β) : (r10rule_e0 fuel).step [g0, g1, g2, g3, g4, g5, g6, g7, g8, g9, g10] kn kx = r10rule_b0 fuel g0 g1 g2 g3 g4 g5 g6 g7 g8 g9 g10 kn kx := rfl
theorem r10rule_k0 (fuel : Nat) : StepOk r10rule_E r10rule_c (LSc (r10rule_e1 fuel) fuel (LZ)) (r10rule_e0 fuel) :=
  ⟨by kernel_rfl, fun gs kn kx => by kernel_rfl, fun f gs kn kx => by simp only [r10rule_e0, r10rule_b0, bind_cond, Option.bind_assoc, Option.bind_none]⟩
def r10rule_f (fuel : Nat) (a0 a1 : GV) : Option R :=
 (r10rise_s [GV.list 0 (cellG true a1 1).asZ (cellG true a1 1).asList (cellG true a1 1).asSp]).bind fun o0 =>
 (r10rise_s [GV.list 0 (cellG true a1 2).asZ (cellG true a1 2).asList (cellG true a1 2).asSp]).bind fun o1 =>
 bif inRange 0 (cellG true a1 0).asStr.size || !!bif bif !typeB (cellG true a1 0).asStr then true else !(nth o0 0).asBool then true else !(nth o1 0).asBool then
 bif
 bif bif bif !typeB (cellG true a1 0).asStr then true else !(nth o0 0).asBool then true else !(nth o1 0).asBool then true
 else IntKind.i64.wrap (IntKind.i64.wrap (bt (cellG true a1 0).asStr 0) - 48) != (cellG true a0 1).asInt then
 some [GV.bool false]
 else
 (r10rule_l0 fuel
 [GV.int 0, cellG true a0 0, cellG true a0 1, cellG true a0 2, cellG true a0 3, GV.list 0 (cellG true a0 4).asZ (cellG true a0 4).asList (cellG true a0 4).asSp,
 GV.list 0 (cellG true a0 5).asZ (cellG true a0 5).asList (cellG true a0 5).asSp, cellG true a0 6, cellG true a1 0,
 GV.list 0 (cellG true a1 1).asZ (cellG true a1 1).asList (cellG true a1 1).asSp, GV.list 0 (cellG true a1 2).asZ (cellG true a1 2).asList (cellG true a1 2).asSp]).bind
 fun r3 =>
 bif r3.fst.beq 0 then some [nth r3.snd 0]
 else
 (r10rule_l1 fuel
 [GV.int 0, nth r3.snd 0, nth r3.snd 1, nth r3.snd 2, nth r3.snd 3, GV.list 0 (nth r3.snd 4).asZ (nth r3.snd 4).asList (nth r3.snd 4).asSp,
 GV.list 0 (nth r3.snd 5).asZ (nth r3.snd 5).asList (nth r3.snd 5).asSp, nth r3.snd 6, nth r3.snd 7,
 GV.list 0 (nth r3.snd 8).asZ (nth r3.snd 8).asList (nth r3.snd 8).asSp, GV.list 0 (nth r3.snd 9).asZ (nth r3.snd 9).asList (nth r3.snd 9).asSp]).bind
 fun r6 => bif r6.fst.beq 0 then some [nth r6.snd 0] else some [GV.bool true]
 else none
theorem r10rule_q (fuel : Nat) (a0 a1 : GV) : gexec r10rule_E (LSc (r10rule_e0 fuel) fuel (LSc (r10rule_e1 fuel) fuel (LZ))) Tryz.f50.ntmps Tryz.f50.results.toList r10rule_sg r10rule_c [a0, a1] = r10rule_f fuel a0 a1 := by kernel_rfl
theorem r10rule_calls (hS : SpecsOk Tryz.prog tl r10rule_E.sp) (fuel : Nat) : CallsOk Tryz.prog tl 50 r10rule_sg (gexec r10rule_E (LSc (r10rule_e0 fuel) fuel (LSc (r10rule_e1 fuel) fuel (LZ))) Tryz.f50.ntmps Tryz.f50.results.toList r10rule_sg r10rule_c) :=
  gexec_calls (E := r10rule_E) hP hS Tryz.func50 (by kernel_rfl) (by kernel_rfl) (fun W => LSc_ok hP hS (LSc_ok hP hS (LZ_ok) (r10rule_k1 fuel) fuel) (r10rule_k0 fuel) fuel)
theorem r10rule_hS : SpecsOk Tryz.prog tl r10rule_E.sp := (specs_cons (specs_cons (specs_cons (specs_cons specs_nil r10in_ok Tryz.call47) r10Spec_ok Tryz.call18) r10rise_ok Tryz.call89) r10Type_ok Tryz.call83)
def r10rule_s : List GV → Option R
  | [a0, a1] => bif okI (cellG true a0 4) && okR a1 then some [.bool (ruleB (cellG true a0 4).asList (cellG true a0 1).asInt a1)] else none
  | _ => none
section
variable {c1 c2 c3 c4 c7 c8 : GV} {z5 z6 z9 z10 : Bool} {l5 s5 l6 s6 l9 s9 l10 s10 : List GV}
theorem r10rule_run0 (h5 : l5.length ≤ 17592186044416) (h9 : l9.length ≤ 17592186044416) {N : Nat} (hN : l9.length < N) :
    r10rule_l0 N [.int 0, c1, c2, c3, c4, .list 0 z5 l5 s5, .list 0 z6 l6 s6, c7, c8, .list 0 z9 l9 s9, .list 0 z10 l10 s10] =
      some (bif mustB l5 l9 then (1, [c1, c2, c3, c4, .list 0 z5 l5 s5, .list 0 z6 l6 s6, c7, c8, .list 0 z9 l9 s9, .list 0 z10 l10 s10]) else (0, [.bool false, c1, c2, c3, c4, .list 0 z5 l5 s5, .list 0 z6 l6 s6, c7, c8, .list 0 z9 l9 s9, .list 0 z10 l10 s10])) := by
  have := loop_scan (step := (r10rule_e0 N).step) (S := fun i => [.int (i : Nat), c1, c2, c3, c4, .list 0 z5 l5 s5, .list 0 z6 l6 s6, c7, c8, .list 0 z9 l9 s9, .list 0 z10 l10 s10]) (n := l9.length)
    (stop := fun i => !specF l5 (nth l9 i).asInt) (out := fun _ => (0, [.bool false, c1, c2, c3, c4, .list 0 z5 l5 s5, .list 0 z6 l6 s6, c7, c8, .list 0 z9 l9 s9, .list 0 z10 l10 s10]))
    (e := (1, [c1, c2, c3, c4, .list 0 z5 l5 s5, .list 0 z6 l6 s6, c7, c8, .list 0 z9 l9 s9, .list 0 z10 l10 s10]))
    (fun i hi _ kn kx => by
      rw [r10rule_t0]
      unfold r10rule_b0
      simp only [ltD]
      have hn : nth (GV.list 0 z9 l9 s9).all i = nth l9 i := nth_append_left hi
      simp only [asInt_int, asList_list, asZ_list, asSp_list, Int.toNat_natCast, hn]
      rw [ltT (by omega), inRange_nat hi, add1 (by omega)]
      have e : r10Spec_s [GV.agg [c1, c2, c3, c4, .list 0 z5 l5 s5, .list 0 z6 l6 s6, c7], nth l9 i] = some [specV l5 (nth l9 i).asInt, .bool (specF l5 (nth l9 i).asInt)] := bT ((okI_iff (g := .list 0 z5 l5 s5)).2 h5) _ _
      rw [e]
      rfl)
    (fun _ kn kx => by
      rw [r10rule_t0]
      unfold r10rule_b0
      simp only [ltD]
      simp only [asInt_int, asList_list]
      rw [ltF (by omega)]
      rfl) hN
  refine (show r10rule_l0 N _ = _ from this).trans ?_
  unfold mustB anyN
  cases decide (firstN (fun i => !specF l5 (nth l9 i).asInt) l9.length < l9.length) <;> rfl
theorem r10rule_run1 (h5 : l5.length ≤ 17592186044416) (h9 : l9.length ≤ 17592186044416) (h10 : l10.length ≤ 17592186044416) {N : Nat} (hN : l10.length < N) :
    r10rule_l1 N [.int 0, c1, c2, c3, c4, .list 0 z5 l5 s5, .list 0 z6 l6 s6, c7, c8, .list 0 z9 l9 s9, .list 0 z10 l10 s10] =
      some (bif mayB l5 l10 l9 then (1, []) else (0, [.bool false])) := by
  have := loop_scan (step := (r10rule_e1 N).step) (S := fun i => [.int (i : Nat), c1, c2, c3, c4, .list 0 z5 l5 s5, .list 0 z6 l6 s6, c7, c8, .list 0 z9 l9 s9, .list 0 z10 l10 s10]) (n := l10.length)
    (stop := fun i => !specF l5 (nth l10 i).asInt || hasB l9 (nth l10 i).asInt) (out := fun _ => (0, [.bool false])) (e := (1, []))
    (fun i hi _ kn kx => by
      rw [r10rule_t1]
      unfold r10rule_b1
      simp only [ltD]
      have hn : nth (GV.list 0 z10 l10 s10).all i = nth l10 i := nth_append_left hi
      simp only [asInt_int, asList_list, asZ_list, asSp_list, Int.toNat_natCast, hn]
      rw [ltT (by omega), inRange_nat hi, add1 (by omega)]
      have e : r10Spec_s [GV.agg [c1, c2, c3, c4, .list 0 z5 l5 s5, .list 0 z6 l6 s6, c7], nth l10 i] = some [specV l5 (nth l10 i).asInt, .bool (specF l5 (nth l10 i).asInt)] := bT ((okI_iff (g := .list 0 z5 l5 s5)).2 h5) _ _
      have e2 : r10in_s [.list 0 z9 l9 s9, nth l10 i] = some [.bool (hasB l9 (nth l10 i).asInt)] := bT ((okI_iff (g := .list 0 z9 l9 s9)).2 h9) _ _
      rw [e, e2]
      simp only [cond_true, Option.bind_some, nth_zero, nth_succ, asBool_bool, bif_or'])
    (fun _ kn kx => by
      rw [r10rule_t1]
      unfold r10rule_b1
      simp only [ltD]
      simp only [asInt_int, asList_list]
      rw [ltF (by omega)]
      rfl) hN
  refine (show r10rule_l1 N _ = _ from this).trans ?_
  unfold mayB anyN
  cases decide (firstN (fun i => !specF l5 (nth l10 i).asInt || hasB l9 (nth l10 i).asInt) l10.length < l10.length) <;> rfl
end
theorem r10rule_ok : CallsOk Tryz.prog tl 50 r10rule_sg r10rule_s := (r10rule_calls r10rule_hS 17592186044417).of fun gs outs h => by
  rcases gs with _ | ⟨a0, _ | ⟨a1, _ | ⟨a2, t⟩⟩⟩ <;> first | (cases h; done) | skip
  obtain ⟨hb, rfl⟩ := guard_inv h
  simp only [Bool.and_eq_true, okR] at hb
  obtain ⟨h5, h9, h10⟩ := hb
  have k5 := okI_iff.1 h5
  have k9 := okI_iff.1 h9
  have k10 := okI_iff.1 h10
  unfold MX at k5 k9 k10
  rw [r10rule_q 17592186044417]
  unfold r10rule_f
  have e1 : r10rise_s [GV.list 0 (cellG true a1 1).asZ (cellG true a1 1).asList (cellG true a1 1).asSp] = some [.bool (riseB (cellG true a1 1).asList)] := bT h9 _ _
  have e2 : r10rise_s [GV.list 0 (cellG true a1 2).asZ (cellG true a1 2).asList (cellG true a1 2).asSp] = some [.bool (riseB (cellG true a1 2).asList)] := bT h10 _ _
  rw [e1, e2]
  simp only [Option.bind_some, nth_zero, asBool_bool, bif_or']
  unfold ruleB
  cases ht : typeB (cellG true a1 0).asStr with
  | false => simp
  | true =>
    have hz := typeB_size ht
    have hb0 := typeB_b0 ht
    have i0 : inRange 0 (cellG true a1 0).asStr.size = true := by rw [hz]; rfl
    have hw : IntKind.i64.wrap (IntKind.i64.wrap (bt (cellG true a1 0).asStr 0) - 48) = bt (cellG true a1 0).asStr 0 - 48 := by
      rw [w64 (n := bt (cellG true a1 0).asStr 0) (by omega) (by omega), w64 (by omega) (by omega)]
    rw [i0, hw]
    cases riseB (cellG true a1 1).asList <;> cases riseB (cellG true a1 2).asList <;> try (simp; done)
    have hne : (bt (cellG true a1 0).asStr 0 - 48 != (cellG true a0 1).asInt) = !(bt (cellG true a1 0).asStr 0 - 48 == (cellG true a0 1).asInt) := rfl
    rw [hne]
    cases bt (cellG true a1 0).asStr 0 - 48 == (cellG true a0 1).asInt with
    | false => simp
    | true =>
      simp only [Bool.not_true, Bool.or_false, Bool.not_false, Bool.or_true, Bool.true_or, cond_true, cond_false, Bool.true_and, Bool.and_true]
      rw [r10rule_run0 k5 k9 (by omega)]
      cases mustB (cellG true a0 4).asList (cellG true a1 1).asList with
      | false => rfl
      | true =>
        simp only [cond_true, Option.bind_some, nth_zero, nth_succ, asZ_list, asList_list, asSp_list]
        refine (bF rfl _ _).trans ?_
        rw [r10rule_run1 k5 k9 k10 (by omega)]
        cases mayB (cellG true a0 4).asList (cellG true a1 2).asList (cellG true a1 1).asList <;> rfl

end Go.Proofs.YtgneobkmmmpbiaaGreatDoor

/- r10tag -/
namespace Go.Proofs.YtgneobkmmmpbiaaGreatDoor
open Go Go.Proofs Go.Eng Go.RowKit
set_option linter.unusedVariables false
set_option linter.unusedSimpArgs false

/-! r10tag. -/
def r10tag_sg : FSig := FSig.mk [25] [(4, [])] false
noncomputable def r10tag_c : Code := Tryz.f51.body.getD .skip
def r10tag_E : Env := ⟨tl, [(18, r10Spec_sg, r10Spec_s)], dirsOf [], dirsOf [(0, [Dir.only [1], Dir.sort [1], Dir.keep [1, 5]])], dirsOf [(0, [Dir.only [], Dir.sort [], Dir.keep [2]])], killOf [], joinsOf tl []⟩
def r10tag_sh0 : Shp := Shp.mk 57 [(1, ASh.one (SSh.ptr 1 [(0, 0)])), (5, ASh.one (SSh.s (CK.int IntKind.i64)))] [(1, RSh.rowA 2 25 [0, 0, 0, 0, 1, 1, 0])]
def r10tag_xs0 : Outs := [(Ex.ret, Shp.mk 57 [(2, ASh.one (SSh.s CK.bool))] []),
 (Ex.exit 0, Shp.mk 57 [(2, ASh.one SSh.dead)] [])]
def r10tag_b0 {β : Type} (fuel : Nat) (g0 g1 g2 g3 g4 g5 g6 g7 : GV) (kn : List GV → Option β) (kx : Nat → List GV → Option β) : Option β :=
 bif decide (g0.asInt < (↑g5.asList.length : Int)) then
 bif inRange g0.asInt g5.asList.length then
 bif decide ((cellG true (nth (GV.list 0 g5.asZ g5.asList g5.asSp).all g0.asInt.toNat) 0).asInt > g7.asInt) then kx 0 [GV.bool false]
 else kn [GV.int (IntKind.i64.wrap (g0.asInt + 1)), g1, g2, g3, g4, GV.list 0 g5.asZ g5.asList g5.asSp, GV.list 0 g6.asZ g6.asList g6.asSp, g7]
 else none
else kx 1 []
def r10tag_e0 (fuel : Nat) : LEnt := ⟨0, r10tag_sh0, r10tag_xs0, fun gs kn kx => r10tag_b0 fuel (nth gs 0) (nth gs 1) (nth gs 2) (nth gs 3) (nth gs 4) (nth gs 5) (nth gs 6) (nth gs 7) kn kx⟩
def r10tag_l0 (fuel : Nat) (gs : List GV) : Option (Nat × List GV) := loopR (r10tag_e0 fuel).step fuel gs
theorem r10tag_t0 {β : Type} (fuel : Nat) (g0 g1 g2 g3 g4 g5 g6 g7 : GV) (kn : List GV → Option β) (kx : Nat → List GV → Option β) : (r10tag_e0 fuel).step [g0, g1, g2, g3, g4, g5, g6, g7] kn kx = r10tag_b0 fuel g0 g1 g2 g3 g4 g5 g6 g7 kn kx := rfl
theorem r10tag_k0 (fuel : Nat) : StepOk r10tag_E r10tag_c (LZ) (r10tag_e0 fuel) :=
  ⟨by kernel_rfl, fun gs kn kx => by kernel_rfl, fun f gs kn kx => by simp only [r10tag_e0, r10tag_b0, bind_cond, Option.bind_assoc, Option.bind_none]⟩
def r10tag_f (fuel : Nat) (a0 : GV) : Option R :=
 bif (cellG true a0 6).asInt == 0 then some [GV.bool true]
else
 bif bif (cellG true a0 6).asInt != 64 then (cellG true a0 6).asInt != 128 else false then some [GV.bool false]
 else
 (r10Spec_s
 [GV.agg
 [cellG true a0 0, cellG true a0 1, cellG true a0 2, cellG true a0 3, GV.list 0 (cellG true a0 4).asZ (cellG true a0 4).asList (cellG true a0 4).asSp,
 GV.list 0 (cellG true a0 5).asZ (cellG true a0 5).asList (cellG true a0 5).asSp, cellG true a0 6],
 cellG true a0 6]).bind
 fun o0 =>
 bif
 bif bif bif !(nth o0 1).asBool then true else (cellG true (nth o0 0) 1).asInt != 5 then true else (cellG true (nth o0 0) 3).asInt != 0 then true
 else (cellG true (nth o0 0) 5).asInt != 8 then
 some [GV.bool false]
 else
 (r10tag_l0 fuel
 [GV.int 0, cellG true a0 0, cellG true a0 1, cellG true a0 2, cellG true a0 3, GV.list 0 (cellG true a0 4).asZ (cellG true a0 4).asList (cellG true a0 4).asSp,
 GV.list 0 (cellG true a0 5).asZ (cellG true a0 5).asList (cellG true a0 5).asSp, cellG true a0 6]).bind
 fun r1 => bif r1.fst.beq 0 then some [nth r1.snd 0] else some [GV.bool true]
theorem r10tag_q (fuel : Nat) (a0 : GV) : gexec r10tag_E (LSc (r10tag_e0 fuel) fuel (LZ)) Tryz.f51.ntmps Tryz.f51.results.toList r10tag_sg r10tag_c [a0] = r10tag_f fuel a0 := by kernel_rfl
theorem r10tag_calls (hS : SpecsOk Tryz.prog tl r10tag_E.sp) (fuel : Nat) : CallsOk Tryz.prog tl 51 r10tag_sg (gexec r10tag_E (LSc (r10tag_e0 fuel) fuel (LZ)) Tryz.f51.ntmps Tryz.f51.results.toList r10tag_sg r10tag_c) :=
  gexec_calls (E := r10tag_E) hP hS Tryz.func51 (by kernel_rfl) (by kernel_rfl) (fun W => LSc_ok hP hS (LZ_ok) (r10tag_k0 fuel) fuel)
theorem r10tag_hS : SpecsOk Tryz.prog tl r10tag_E.sp := (specs_cons specs_nil r10Spec_ok Tryz.call18)
def r10tag_s : List GV → Option R
  | [a0] => bif okI (cellG true a0 4) && goodF (cellG true a0 4).asList then some [.bool (tagB (cellG true a0 4).asList (cellG true a0 6).asInt)] else none
  | _ => none
theorem r10tag_ok : CallsOk Tryz.prog tl 51 r10tag_sg r10tag_s := (r10tag_calls r10tag_hS 17592186044417).of fun gs outs h => by
  rcases gs with _ | ⟨a0, _ | ⟨a1, t⟩⟩ <;> first | (cases h; done) | skip
  obtain ⟨hb, rfl⟩ := guard_inv h
  rw [Bool.and_eq_true] at hb
  obtain ⟨hb, hg⟩ := hb
  have hb' := okI_iff.1 hb
  unfold MX at hb'
  rw [← tag_eq hg, r10tag_q 17592186044417]
  unfold r10tag_f tagR
  have es : r10Spec_s [GV.agg [cellG true a0 0, cellG true a0 1, cellG true a0 2, cellG true a0 3, GV.list 0 (cellG true a0 4).asZ (cellG true a0 4).asList (cellG true a0 4).asSp,
                GV.list 0 (cellG true a0 5).asZ (cellG true a0 5).asList (cellG true a0 5).asSp, cellG true a0 6], cellG true a0 6] = some [specV (cellG true a0 4).asList (cellG true a0 6).asInt, .bool (specF (cellG true a0 4).asList (cellG true a0 6).asInt)] := bT hb _ _
  rw [es]
  generalize hl : (cellG true a0 4).asList = l at hb'
  have key := loop_scan (step := (r10tag_e0 17592186044417).step) (S := fun i => [.int (i : Nat), cellG true a0 0, cellG true a0 1, cellG true a0 2, cellG true a0 3, .list 0 (cellG true a0 4).asZ l (cellG true a0 4).asSp, .list 0 (cellG true a0 5).asZ (cellG true a0 5).asList (cellG true a0 5).asSp, cellG true a0 6]) (n := l.length)
    (stop := fun i => ltI (cellG true a0 6).asInt (numG l i)) (out := fun _ => (0, [.bool false])) (e := (1, []))
    (fun i hi _ kn kx => by
      rw [r10tag_t0]
      unfold r10tag_b0
      simp only [ltD, gtD]
      have hn : nth (GV.list 0 (cellG true a0 4).asZ l (cellG true a0 4).asSp).all i = nth l i := nth_append_left hi
      simp only [asInt_int, asList_list, asZ_list, asSp_list, Int.toNat_natCast, hn]
      rw [ltT (by omega), inRange_nat hi, add1 (by omega)]
      rfl)
    (fun _ kn kx => by
      rw [r10tag_t0]
      unfold r10tag_b0
      simp only [ltD, gtD]
      simp only [asInt_int, asList_list]
      rw [ltF (by omega)]
      rfl) (N := 17592186044417) (by omega)
  have key2 : r10tag_l0 17592186044417 [GV.int 0, cellG true a0 0, cellG true a0 1, cellG true a0 2, cellG true a0 3, .list 0 (cellG true a0 4).asZ l (cellG true a0 4).asSp, .list 0 (cellG true a0 5).asZ (cellG true a0 5).asList (cellG true a0 5).asSp, cellG true a0 6] = some (bif anyN (fun i => ltI (cellG true a0 6).asInt (numG l i)) l.length then (0, [.bool false]) else (1, [])) := key
  rw [key2]
  generalize (cellG true a0 6).asInt = mac
  simp only [Option.bind_some, nth_zero, nth_succ, asBool_bool]
  have e64 : (mac != 64) = !(mac == 64) := rfl
  have e128 : (mac != 128) = !(mac == 128) := rfl
  have e5 : ((cellG true (specV l mac) 1).asInt != 5) = !((cellG true (specV l mac) 1).asInt == 5) := rfl
  have e0 : ((cellG true (specV l mac) 3).asInt != 0) = !((cellG true (specV l mac) 3).asInt == 0) := rfl
  have e8 : ((cellG true (specV l mac) 5).asInt != 8) = !((cellG true (specV l mac) 5).asInt == 8) := rfl
  rw [e64, e128, e5, e0, e8]
  cases mac == 0 <;> cases mac == 64 <;> cases mac == 128 <;> cases specF l mac <;> cases (cellG true (specV l mac) 1).asInt == 5 <;> cases (cellG true (specV l mac) 3).asInt == 0 <;> cases (cellG true (specV l mac) 5).asInt == 8 <;> cases anyN (fun i => ltI mac (numG l i)) l.length <;> rfl

end Go.Proofs.YtgneobkmmmpbiaaGreatDoor

/- r10Right -/
namespace Go.Proofs.YtgneobkmmmpbiaaGreatDoor
open Go Go.Proofs Go.Eng Go.RowKit
set_option linter.unusedVariables false
set_option linter.unusedSimpArgs false

/-! r10Right. -/
def r10Right_sg : FSig := FSig.mk [25] [(28, []), (3, [])] false
noncomputable def r10Right_c : Code := Tryz.f13.body.getD .skip
def r10Right_E : Env := ⟨tl, [(46, r10name_sg, r10name_s), (47, r10in_sg, r10in_s), (48, r10Number_sg, r10Number_s), (49, r10spec_sg, r10spec_s), (50, r10rule_sg, r10rule_s), (51, r10tag_sg, r10tag_s)], dirsOf [], dirsOf [(0, [Dir.only [1], Dir.sort [1], Dir.keep [1, 7]]), (1, [Dir.only [1], Dir.sort [1], Dir.keep [1, 10]])], dirsOf [(0, [Dir.only [1], Dir.sort [1], Dir.keep [1, 2, 3]]), (1, [Dir.only [1], Dir.sort [1], Dir.keep [1, 2, 3]])], killOf [], joinsOf tl []⟩
def r10Right_sh1 : Shp := Shp.mk 140 [(1, ASh.one (SSh.ptr 1 [(0, 0)])), (10, ASh.one (SSh.s (CK.int IntKind.i64)))] [(1, RSh.rowA 2 25 [0, 0, 0, 0, 1, 1, 0])]
def r10Right_xs1 : Outs := [(Ex.ret, Shp.mk 140 [(1, ASh.one (SSh.ptr 1 [(0, 0)])), (2, ASh.one (SSh.s (CK.int IntKind.i64))), (3, ASh.one (SSh.s (CK.int IntKind.i64)))]
 [(1, RSh.rowA 2 25 [0, 0, 0, 0, 1, 1, 0])]),
 (Ex.exit 2, Shp.mk 140 [(1, ASh.one (SSh.ptr 1 [(0, 0)])), (2, ASh.one SSh.dead), (3, ASh.one SSh.dead)] [(1, RSh.rowA 2 25 [0, 0, 0, 0, 1, 1, 0])])]
def r10Right_b1 {β : Type} (fuel : Nat) (g0 g1 g2 g3 g4 g5 g6 g7 : GV) (kn : List GV → Option β) (kx : Nat → List GV → Option β) : Option β :=
 bif decide (g0.asInt < (↑g6.asList.length : Int)) then
 bif inRange g0.asInt g6.asList.length then
 (r10rule_s
 [GV.agg [g1, g2, g3, g4, GV.list 0 g5.asZ g5.asList g5.asSp, GV.list 0 g6.asZ g6.asList g6.asSp, g7], nth (GV.list 0 g6.asZ g6.asList g6.asSp).all g0.asInt.toNat]).bind
 fun o2 =>
 bif inRange g0.asInt g6.asList.length || !(!!(nth o2 0).asBool && decide (g0.asInt > 0)) then
 bif inRange (IntKind.i64.wrap (g0.asInt - 1)) g6.asList.length || !(!!(nth o2 0).asBool && decide (g0.asInt > 0)) then
 bif
 bif !(nth o2 0).asBool then true
 else
 bif decide (g0.asInt > 0) then
 Op.bytesLess (cellG true (nth (GV.list 0 g6.asZ g6.asList g6.asSp).all g0.asInt.toNat) 0).asStr.toList
 (cellG true (nth (GV.list 0 g6.asZ g6.asList g6.asSp).all (IntKind.i64.wrap (g0.asInt - 1)).toNat) 0).asStr.toList ||
 strEq (cellG true (nth (GV.list 0 g6.asZ g6.asList g6.asSp).all g0.asInt.toNat) 0).asStr
 (cellG true (nth (GV.list 0 g6.asZ g6.asList g6.asSp).all (IntKind.i64.wrap (g0.asInt - 1)).toNat) 0).asStr
 else false then
 kx 0 [GV.int 105, g0, g1, g2, g3, g4, GV.list 0 g5.asZ g5.asList g5.asSp, GV.list 0 g6.asZ g6.asList g6.asSp, g7]
 else kn [GV.int (IntKind.i64.wrap (g0.asInt + 1)), g1, g2, g3, g4, GV.list 0 g5.asZ g5.asList g5.asSp, GV.list 0 g6.asZ g6.asList g6.asSp, g7]
 else none
 else none
 else none
else kx 1 [g1, g2, g3, g4, GV.list 0 g5.asZ g5.asList g5.asSp, GV.list 0 g6.asZ g6.asList g6.asSp, g7]
def r10Right_e1 (fuel : Nat) : LEnt := ⟨1, r10Right_sh1, r10Right_xs1, fun gs kn kx => r10Right_b1 fuel (nth gs 0) (nth gs 1) (nth gs 2) (nth gs 3) (nth gs 4) (nth gs 5) (nth gs 6) (nth gs 7) kn kx⟩
def r10Right_l1 (fuel : Nat) (gs : List GV) : Option (Nat × List GV) := loopR (r10Right_e1 fuel).step fuel gs
theorem r10Right_t1 {β : Type} (fuel : Nat) (g0 g1 g2 g3 g4 g5 g6 g7 : GV) (kn : List GV → Option β) (kx : Nat → List GV → Option β) : (r10Right_e1 fuel).step [g0, g1, g2, g3, g4, g5, g6, g7] kn kx = r10Right_b1 fuel g0 g1 g2 g3 g4 g5 g6 g7 kn kx := rfl
theorem r10Right_k1 (fuel : Nat) : StepOk r10Right_E r10Right_c (LZ) (r10Right_e1 fuel) :=
  ⟨by kernel_rfl, fun gs kn kx => by kernel_rfl, fun f gs kn kx => by simp only [r10Right_e1, r10Right_b1, bind_cond, Option.bind_assoc, Option.bind_none]⟩
def r10Right_sh0 : Shp := Shp.mk 140 [(1, ASh.one (SSh.ptr 1 [(0, 0)])), (7, ASh.one (SSh.s (CK.int IntKind.i64)))] [(1, RSh.rowA 2 25 [0, 0, 0, 0, 1, 1, 0])]
def r10Right_xs0 : Outs := [(Ex.ret, Shp.mk 140 [(1, ASh.one (SSh.ptr 1 [(0, 0)])), (2, ASh.one (SSh.s (CK.int IntKind.i64))), (3, ASh.one (SSh.s (CK.int IntKind.i64)))]
 [(1, RSh.rowA 2 25 [0, 0, 0, 0, 1, 1, 0])]),
 (Ex.exit 0, Shp.mk 140 [(1, ASh.one (SSh.ptr 1 [(0, 0)])), (2, ASh.one SSh.dead), (3, ASh.one SSh.dead)] [(1, RSh.rowA 2 25 [0, 0, 0, 0, 1, 1, 0])])]
def r10Right_b0 {β : Type} (fuel : Nat) (g0 g1 g2 g3 g4 g5 g6 g7 : GV) (kn : List GV → Option β) (kx : Nat → List GV → Option β) : Option β :=
 bif decide (g0.asInt < (↑g5.asList.length : Int)) then
 bif inRange g0.asInt g5.asList.length then
 bif inRange g0.asInt g5.asList.length || !(!!fieldB (cellG true (nth (GV.list 0 g5.asZ g5.asList g5.asSp).all g0.asInt.toNat) 0).asInt && decide (g0.asInt > 0)) then
 bif
 inRange (IntKind.i64.wrap (g0.asInt - 1)) g5.asList.length ||
 !(!!fieldB (cellG true (nth (GV.list 0 g5.asZ g5.asList g5.asSp).all g0.asInt.toNat) 0).asInt && decide (g0.asInt > 0)) then
 bif
 bif !fieldB (cellG true (nth (GV.list 0 g5.asZ g5.asList g5.asSp).all g0.asInt.toNat) 0).asInt then true
 else
 bif decide (g0.asInt > 0) then
 decide
 ((cellG true (nth (GV.list 0 g5.asZ g5.asList g5.asSp).all g0.asInt.toNat) 0).asInt ≤
 (cellG true (nth (GV.list 0 g5.asZ g5.asList g5.asSp).all (IntKind.i64.wrap (g0.asInt - 1)).toNat) 0).asInt)
 else false then
 kx 0 [GV.int 102, g0, g1, g2, g3, g4, GV.list 0 g5.asZ g5.asList g5.asSp, GV.list 0 g6.asZ g6.asList g6.asSp, g7]
 else
 bif inRange g0.asInt g5.asList.length then
 bif specE (nth (GV.list 0 g5.asZ g5.asList g5.asSp).all g0.asInt.toNat) != 0 then
 kx 0
 [GV.int (specE (nth (GV.list 0 g5.asZ g5.asList g5.asSp).all g0.asInt.toNat)), g0, g1, g2, g3, g4, GV.list 0 g5.asZ g5.asList g5.asSp,
 GV.list 0 g6.asZ g6.asList g6.asSp, g7]
 else kn [GV.int (IntKind.i64.wrap (g0.asInt + 1)), g1, g2, g3, g4, GV.list 0 g5.asZ g5.asList g5.asSp, GV.list 0 g6.asZ g6.asList g6.asSp, g7]
 else none
 else none
 else none
 else none
else kx 1 [g1, g2, g3, g4, GV.list 0 g5.asZ g5.asList g5.asSp, GV.list 0 g6.asZ g6.asList g6.asSp, g7]
def r10Right_e0 (fuel : Nat) : LEnt := ⟨0, r10Right_sh0, r10Right_xs0, fun gs kn kx => r10Right_b0 fuel (nth gs 0) (nth gs 1) (nth gs 2) (nth gs 3) (nth gs 4) (nth gs 5) (nth gs 6) (nth gs 7) kn kx⟩
def r10Right_l0 (fuel : Nat) (gs : List GV) : Option (Nat × List GV) := loopR (r10Right_e0 fuel).step fuel gs
theorem r10Right_t0 {β : Type} (fuel : Nat) (g0 g1 g2 g3 g4 g5 g6 g7 : GV) (kn : List GV → Option β) (kx : Nat → List GV → Option β) : (r10Right_e0 fuel).step [g0, g1, g2, g3, g4, g5, g6, g7] kn kx = r10Right_b0 fuel g0 g1 g2 g3 g4 g5 g6 g7 kn kx := rfl
theorem r10Right_k0 (fuel : Nat) : StepOk r10Right_E r10Right_c (LSc (r10Right_e1 fuel) fuel (LZ)) (r10Right_e0 fuel) :=
  ⟨by kernel_rfl, fun gs kn kx => by kernel_rfl, fun f gs kn kx => by simp only [r10Right_e0, r10Right_b0, bind_cond, Option.bind_assoc, Option.bind_none]⟩
def r10Right_f (fuel : Nat) (a0 : GV) : Option R :=
 (r10name_s [cellG true a0 0]).bind fun o0 =>
 bif !(nth o0 0).asBool then some [GV.int 100, GV.int 0]
 else
 bif
 bif
 bif bif decide ((cellG true a0 1).asInt < 0) then true else decide ((cellG true a0 1).asInt > 1) then true
 else !hasB [GV.int 1, GV.int 2, GV.int 4] (cellG true a0 2).asInt then
 true
 else !hasB [GV.int 5, GV.int 1, GV.int 4] (cellG true a0 3).asInt then
 some [GV.int 101, GV.int 0]
 else
 bif bif decide ((↑(cellG true a0 4).asList.length : Int) > 126) then true else decide ((↑(cellG true a0 5).asList.length : Int) > 64) then some [GV.int 93, GV.int 0]
 else
 (r10Right_l0 fuel
 [GV.int 0, cellG true a0 0, cellG true a0 1, cellG true a0 2, cellG true a0 3, GV.list 0 (cellG true a0 4).asZ (cellG true a0 4).asList (cellG true a0 4).asSp,
 GV.list 0 (cellG true a0 5).asZ (cellG true a0 5).asList (cellG true a0 5).asSp, cellG true a0 6]).bind
 fun r1 =>
 bif r1.fst.beq 0 then some [nth r1.snd 0, nth r1.snd 1]
 else
 (r10Right_l1 fuel
 [GV.int 0, nth r1.snd 0, nth r1.snd 1, nth r1.snd 2, nth r1.snd 3, GV.list 0 (nth r1.snd 4).asZ (nth r1.snd 4).asList (nth r1.snd 4).asSp,
 GV.list 0 (nth r1.snd 5).asZ (nth r1.snd 5).asList (nth r1.snd 5).asSp, nth r1.snd 6]).bind
 fun r3 =>
 bif r3.fst.beq 0 then some [nth r3.snd 0, nth r3.snd 1]
 else
 (r10tag_s
 [GV.agg
 [nth r3.snd 0, nth r3.snd 1, nth r3.snd 2, nth r3.snd 3, GV.list 0 (nth r3.snd 4).asZ (nth r3.snd 4).asList (nth r3.snd 4).asSp,
 GV.list 0 (nth r3.snd 5).asZ (nth r3.snd 5).asList (nth r3.snd 5).asSp, nth r3.snd 6]]).bind
 fun o4 => bif !(nth o4 0).asBool then some [GV.int 106, GV.int 0] else some [GV.int 0, GV.int 0]
theorem r10Right_q (fuel : Nat) (a0 : GV) : gexec r10Right_E (LSc (r10Right_e0 fuel) fuel (LSc (r10Right_e1 fuel) fuel (LZ))) Tryz.f13.ntmps Tryz.f13.results.toList r10Right_sg r10Right_c [a0] = r10Right_f fuel a0 := by kernel_rfl
theorem r10Right_calls (hS : SpecsOk Tryz.prog tl r10Right_E.sp) (fuel : Nat) : CallsOk Tryz.prog tl 13 r10Right_sg (gexec r10Right_E (LSc (r10Right_e0 fuel) fuel (LSc (r10Right_e1 fuel) fuel (LZ))) Tryz.f13.ntmps Tryz.f13.results.toList r10Right_sg r10Right_c) :=
  gexec_calls (E := r10Right_E) hP hS Tryz.func13 (by kernel_rfl) (by kernel_rfl) (fun W => LSc_ok hP hS (LSc_ok hP hS (LZ_ok) (r10Right_k1 fuel) fuel) (r10Right_k0 fuel) fuel)
theorem r10Right_hS : SpecsOk Tryz.prog tl r10Right_E.sp := (specs_cons (specs_cons (specs_cons (specs_cons (specs_cons (specs_cons specs_nil r10tag_ok Tryz.call51) r10rule_ok Tryz.call50) r10spec_ok Tryz.call49) r10Number_ok Tryz.call48) r10in_ok Tryz.call47) r10name_ok Tryz.call46)
def r10Right_s : List GV → Option R := rightZ
section
variable {c1 c2 c3 c4 c7 : GV} {z5 z6 : Bool} {s5 s6 fl rl : List GV}
theorem r10Right_run0 (hf : fl.length ≤ 126) {N : Nat} (hN : fl.length < N) :
    r10Right_l0 N [.int 0, c1, c2, c3, c4, .list 0 z5 fl s5, .list 0 z6 rl s6, c7] =
      some (bif anyN (fldW fl) fl.length then (0, [.int (errF fl (firstN (fldW fl) fl.length)), .int (firstN (fldW fl) fl.length : Nat), c1, c2, c3, c4, .list 0 z5 fl s5, .list 0 z6 rl s6, c7]) else (1, [c1, c2, c3, c4, .list 0 z5 fl s5, .list 0 z6 rl s6, c7])) := by
  have := loop_scan (step := (r10Right_e0 N).step) (S := fun i => [.int (i : Nat), c1, c2, c3, c4, .list 0 z5 fl s5, .list 0 z6 rl s6, c7]) (n := fl.length)
    (stop := fldW fl) (out := fun i => (0, [.int (errF fl i), .int (i : Nat), c1, c2, c3, c4, .list 0 z5 fl s5, .list 0 z6 rl s6, c7])) (e := (1, [c1, c2, c3, c4, .list 0 z5 fl s5, .list 0 z6 rl s6, c7]))
    (fun i hi _ kn kx => by
      rw [r10Right_t0]
      unfold r10Right_b0
      simp only [ltD, leD, gtD]
      have hn : nth (GV.list 0 z5 fl s5).all i = nth fl i := nth_append_left hi
      simp only [asInt_int, asList_list, asZ_list, asSp_list, Int.toNat_natCast, hn]
      rw [ltT (by omega), inRange_nat hi, add1 (by omega)]
      simp only [cond_true, Bool.true_or]
      unfold fldW errF
      cases i with
      | zero =>
        rw [show ltI 0 ((0 : Nat) : Int) = false from rfl]
        show (bif _ || !(!!fieldB (numG fl 0) && false) then bif (bif !fieldB (numG fl 0) then true else false) then _ else _ else none) = _
        cases fieldB (numG fl 0) <;> cases specE (nth fl 0) != 0 <;> simp
      | succ i =>
        rw [sub1 (by omega) (by omega), Int.toNat_natCast, inRange_nat (by omega), ltT (show (0 : Int) < ((i + 1 : Nat) : Int) by omega)]
        have hn' : nth (GV.list 0 z5 fl s5).all (i + 1 - 1) = nth fl (i + 1 - 1) := nth_append_left (show i + 1 - 1 < fl.length by omega)
        rw [hn', beq_ff (show ¬ i + 1 = 0 by omega)]
        show (bif true || _ then bif (bif !fieldB (numG fl (i + 1)) then true else bif true then leI (numG fl (i + 1)) (numG fl (i + 1 - 1)) else false) then _ else _ else none) = _
        cases fieldB (numG fl (i + 1)) <;> cases leI (numG fl (i + 1)) (numG fl (i + 1 - 1)) <;> cases specE (nth fl (i + 1)) != 0 <;> rfl)
    (fun _ kn kx => by
      rw [r10Right_t0]
      unfold r10Right_b0
      simp only [ltD, leD, gtD]
      simp only [asInt_int, asList_list]
      rw [ltF (by omega)]
      rfl) hN
  refine (show r10Right_l0 N _ = _ from this).trans ?_
  unfold anyN
  cases decide (firstN (fldW fl) fl.length < fl.length) <;> rfl
theorem r10Right_run1 (hf : fl.length ≤ 126) (hr : rl.length ≤ 64) (hall : rl.all okR = true) {N : Nat} (hN : rl.length < N) :
    r10Right_l1 N [.int 0, c1, c2, c3, c4, .list 0 z5 fl s5, .list 0 z6 rl s6, c7] =
      some (bif decide (wrongN fl c2.asInt rl < rl.length) then (0, [.int 105, .int (wrongN fl c2.asInt rl : Nat), c1, c2, c3, c4, .list 0 z5 fl s5, .list 0 z6 rl s6, c7]) else (1, [c1, c2, c3, c4, .list 0 z5 fl s5, .list 0 z6 rl s6, c7])) := by
  have := loop_scan (step := (r10Right_e1 N).step) (S := fun i => [.int (i : Nat), c1, c2, c3, c4, .list 0 z5 fl s5, .list 0 z6 rl s6, c7]) (n := rl.length)
    (stop := fun i => !ruleB fl c2.asInt (nth rl i) || (!(Nat.beq i 0) && leS (cellG true (nth rl i) 0).asStr (cellG true (nth rl (i - 1)) 0).asStr)) (out := fun i => (0, [.int 105, .int (i : Nat), c1, c2, c3, c4, .list 0 z5 fl s5, .list 0 z6 rl s6, c7])) (e := (1, [c1, c2, c3, c4, .list 0 z5 fl s5, .list 0 z6 rl s6, c7]))
    (fun i hi _ kn kx => by
      rw [r10Right_t1]
      unfold r10Right_b1
      simp only [ltD, gtD]
      have hn : nth (GV.list 0 z6 rl s6).all i = nth rl i := nth_append_left hi
      simp only [asInt_int, asList_list, asZ_list, asSp_list, Int.toNat_natCast, hn]
      rw [ltT (by omega), inRange_nat hi, add1 (by omega)]
      have hokr : okR (nth rl i) = true := List.all_eq_true.1 hall _ (nth_mem hi)
      have e : r10rule_s [GV.agg [c1, c2, c3, c4, .list 0 z5 fl s5, .list 0 z6 rl s6, c7], nth rl i] = some [.bool (ruleB fl c2.asInt (nth rl i))] := by
        refine (bT ?_ _ _).trans rfl
        show (okI (.list 0 z5 fl s5) && okR (nth rl i)) = true
        rw [hokr, (okI_iff (g := .list 0 z5 fl s5)).2 (by unfold MX; simp only [asList_list]; omega)]; rfl
      rw [e]
      simp only [cond_true, Bool.true_or, Option.bind_some, nth_zero, asBool_bool]
      cases i with
      | zero =>
        rw [show ltI 0 ((0 : Nat) : Int) = false from rfl]
        cases ruleB fl c2.asInt (nth rl 0) <;> simp
      | succ i =>
        rw [sub1 (by omega) (by omega), Int.toNat_natCast, inRange_nat (by omega), ltT (show (0 : Int) < ((i + 1 : Nat) : Int) by omega)]
        have hn' : nth (GV.list 0 z6 rl s6).all (i + 1 - 1) = nth rl (i + 1 - 1) := nth_append_left (show i + 1 - 1 < rl.length by omega)
        rw [hn', beq_ff (show ¬ i + 1 = 0 by omega)]
        have hle : (Op.bytesLess (cellG true (nth rl (i + 1)) 0).asStr.toList (cellG true (nth rl (i + 1 - 1)) 0).asStr.toList || strEq (cellG true (nth rl (i + 1)) 0).asStr (cellG true (nth rl (i + 1 - 1)) 0).asStr) = leS (cellG true (nth rl (i + 1)) 0).asStr (cellG true (nth rl (i + 1 - 1)) 0).asStr := rfl
        rw [hle]
        cases ruleB fl c2.asInt (nth rl (i + 1)) <;> cases leS (cellG true (nth rl (i + 1)) 0).asStr (cellG true (nth rl (i + 1 - 1)) 0).asStr <;> rfl)
    (fun _ kn kx => by
      rw [r10Right_t1]
      unfold r10Right_b1
      simp only [ltD, gtD]
      simp only [asInt_int, asList_list]
      rw [ltF (by omega)]
      rfl) hN
  exact this
end
theorem r10Right_ok : CallsOk Tryz.prog tl 13 r10Right_sg r10Right_s := (r10Right_calls r10Right_hS 200).of fun gs outs h => by
  rcases gs with _ | ⟨a0, _ | ⟨a1, t⟩⟩ <;> first | (cases h; done) | skip
  obtain ⟨hb, rfl⟩ := guard_inv h
  unfold okD at hb
  simp only [Bool.and_eq_true] at hb
  obtain ⟨hs, h4, h5, hall⟩ := hb
  rw [r10Right_q 200]
  unfold r10Right_f rightL
  have en : r10name_s [cellG true a0 0] = some [.bool (nameB (cellG true a0 0).asStr)] := bT hs _ _
  rw [en]
  simp only [Option.bind_some, nth_zero, asBool_bool]
  cases nameB (cellG true a0 0).asStr with
  | false => rfl
  | true =>
    simp only [Bool.not_true, cond_false, ltD, gtD]
    have hv : (bif bif bif ltI (cellG true a0 1).asInt 0 then true else ltI 1 (cellG true a0 1).asInt then true else !hasB [GV.int 1, GV.int 2, GV.int 4] (cellG true a0 2).asInt then true else !hasB [GV.int 5, GV.int 1, GV.int 4] (cellG true a0 3).asInt) = !verB (cellG true a0 1).asInt (cellG true a0 2).asInt (cellG true a0 3).asInt := by
      unfold verB
      generalize (cellG true a0 1).asInt = v
      have : ((v == 0) || (v == 1)) = !(ltI v 0 || ltI 1 v) := by
        rw [Bool.eq_iff_iff]
        simp only [Bool.or_eq_true, Bool.not_eq_true', Bool.or_eq_false_iff, beq_iff_eq]
        constructor
        · rintro (h | h)
          · exact ⟨ltF (by omega), ltF (by omega)⟩
          · exact ⟨ltF (by omega), ltF (by omega)⟩
        · rintro ⟨h1, h2⟩
          have h1 : ¬ v < 0 := fun h => by rw [ltT h] at h1; cases h1
          have h2 : ¬ 1 < v := fun h => by rw [ltT h] at h2; cases h2
          omega
      rw [this]
      cases ltI v 0 <;> cases ltI 1 v <;> cases hasB [GV.int 1, GV.int 2, GV.int 4] (cellG true a0 2).asInt <;> cases hasB [GV.int 5, GV.int 1, GV.int 4] (cellG true a0 3).asInt <;> rfl
    rw [hv]
    cases verB (cellG true a0 1).asInt (cellG true a0 2).asInt (cellG true a0 3).asInt with
    | false => rfl
    | true =>
      simp only [Bool.not_true, cond_false]
      unfold rightT
      simp only [bif_or']
      by_cases hm : (cellG true a0 4).asList.length ≤ 126 ∧ (cellG true a0 5).asList.length ≤ 64
      · rw [ltF (by omega), ltF (by omega), r10Right_run0 hm.1 (by omega)]
        cases hbad : anyN (fldW (cellG true a0 4).asList) (cellG true a0 4).asList.length with
        | true => rfl
        | false =>
          simp only [Bool.or_self, cond_false, Option.bind_some, nth_zero, nth_succ, asList_list, asZ_list, asSp_list]
          refine (bF rfl _ _).trans ?_
          have hgood : goodF (cellG true a0 4).asList = true := by unfold goodF; rw [hbad]; rfl
          rw [r10Right_run1 hm.1 hm.2 hall (by omega)]
          cases decide (wrongN (cellG true a0 4).asList (cellG true a0 1).asInt (cellG true a0 5).asList < (cellG true a0 5).asList.length) with
          | true => rfl
          | false =>
            simp only [cond_false, Option.bind_some, nth_zero, nth_succ, asList_list, asZ_list, asSp_list]
            refine (bF rfl _ _).trans ?_
            have e2 : r10tag_s [GV.agg [cellG true a0 0, cellG true a0 1, cellG true a0 2, cellG true a0 3, GV.list 0 (cellG true a0 4).asZ (cellG true a0 4).asList (cellG true a0 4).asSp,
                            GV.list 0 (cellG true a0 5).asZ (cellG true a0 5).asList (cellG true a0 5).asSp, cellG true a0 6]] = some [.bool (tagB (cellG true a0 4).asList (cellG true a0 6).asInt)] := by
              refine (bT ?_ _ _).trans rfl
              show (okI (cellG true a0 4) && goodF (cellG true a0 4).asList) = true
              rw [h4, hgood]; rfl
            rw [e2]
            cases tagB (cellG true a0 4).asList (cellG true a0 6).asInt <;> rfl
      · have : (ltI 126 ((cellG true a0 4).asList.length : Nat) || ltI 64 ((cellG true a0 5).asList.length : Nat)) = true := by
          rw [Bool.or_eq_true, ltI_iff, ltI_iff]; omega
        rw [this]; rfl

end Go.Proofs.YtgneobkmmmpbiaaGreatDoor

/- pick -/
namespace Go.Proofs.YtgneobkmmmpbiaaGreatDoor
open Go Go.Proofs Go.Eng Go.RowKit
set_option linter.unusedVariables false
set_option linter.unusedSimpArgs false

/-! pick. -/
def pick_sg : FSig := FSig.mk [3, 3] [(3, [])] false
noncomputable def pick_c : Code := Tryz.f16.body.getD .skip
def pick_E : Env := ⟨tl, [], dirsOf [], dirsOf [], dirsOf [], killOf [], joinsOf tl []⟩
def pick_f (fuel : Nat) (a0 a1 : GV) : Option R :=
 bif decide (a0.asInt < 0) then bif !a1.asInt == 0 then some [GV.int ((IntKind.i64.wrap (0 - IntKind.i64.wrap (a0.asInt + 1))).tmod a1.asInt)] else none
else bif !a1.asInt == 0 then some [GV.int (a0.asInt.tmod a1.asInt)] else none
theorem pick_q (fuel : Nat) (a0 a1 : GV) : gexec pick_E (LZ) Tryz.f16.ntmps Tryz.f16.results.toList pick_sg pick_c [a0, a1] = pick_f fuel a0 a1 := by kernel_rfl
theorem pick_calls (hS : SpecsOk Tryz.prog tl pick_E.sp) (fuel : Nat) : CallsOk Tryz.prog tl 16 pick_sg (gexec pick_E (LZ) Tryz.f16.ntmps Tryz.f16.results.toList pick_sg pick_c) :=
  gexec_calls (E := pick_E) hP hS Tryz.func16 (by kernel_rfl) (by kernel_rfl) (fun W => LZ_ok)
theorem pick_hS : SpecsOk Tryz.prog tl pick_E.sp := specs_nil
def pickZ (x n : Int) : Int := (bif decide (x < 0) then IntKind.i64.wrap (0 - IntKind.i64.wrap (x + 1)) else x).tmod n
def pick_s : List GV → Option R
  | [a0, a1] => bif !(a1.asInt == 0) then some [.int (pickZ a0.asInt a1.asInt)] else none
  | _ => none
theorem pick_ok : CallsOk Tryz.prog tl 16 pick_sg pick_s := (pick_calls specs_nil 0).of fun gs outs h => by
  rcases gs with _ | ⟨a0, _ | ⟨a1, _ | ⟨a2, t⟩⟩⟩ <;> first | (cases h; done) | skip
  rw [pick_q 0, ← h]
  simp only [pick_f, pick_s, pickZ]
  cases decide (a0.asInt < 0) <;> rfl

end Go.Proofs.YtgneobkmmmpbiaaGreatDoor
