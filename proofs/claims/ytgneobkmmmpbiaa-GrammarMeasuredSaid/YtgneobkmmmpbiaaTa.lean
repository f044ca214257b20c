/- The table of the types, with its facts. -/
import Derived.Test.YtgneobkmmmpbiaaProg
import Derived.Test.YtgneobkmmmpbiaaEc
import Derived.WalkKit
namespace Go.Proofs.Ytgneobkmmmpbiaa
open Go Go.Proofs Go.Eng
def tl : TL := [
  (2, ⟨[.int .i64], false, 8, .int .i64⟩),
  (3, ⟨[.int .i64], false, 8, .int .i64⟩),
  (4, ⟨[.bool], false, 1, .bool⟩),
  (5, ⟨[.int .u8], false, 1, .int .u8⟩),
  (6, ⟨[.int .u8], false, 1, .int .u8⟩),
  (9, ⟨[.str], false, 16, .str⟩),
  (20, ⟨[.iface], false, 16, .iface⟩),
  (21, ⟨[.int .i32], false, 4, .int .i32⟩),
  (49, ⟨[.int .i64, .int .i64, .int .i64, .int .i64, .int .i64], true, 40, .struct [(0, 3), (1, 3), (2, 3), (3, 3), (4, 3)]⟩),
  (22, ⟨[.slice 49], false, 24, .slice 49⟩),
  (33, ⟨[.int .i64, .int .i64, .int .i64, .int .i64, .int .i64, .int .i64], true, 48, .struct [(0, 3), (1, 3), (2, 3), (3, 3), (4, 3), (5, 3)]⟩),
  (23, ⟨[.slice 33], false, 24, .slice 33⟩),
  (28, ⟨[.slice 3], false, 24, .slice 3⟩),
  (30, ⟨[.str, .slice 3, .slice 3], true, 64, .struct [(0, 9), (1, 28), (2, 28)]⟩),
  (24, ⟨[.slice 30], false, 24, .slice 30⟩),
  (26, ⟨[.str, .int .i64, .int .i64, .int .i64, .slice 33, .slice 30, .int .i64], true, 96, .struct [(0, 9), (1, 3), (2, 3), (3, 3), (4, 23), (5, 24), (6, 3)]⟩),
  (35, ⟨[.int .i64], false, 8, .int .i64⟩),
  (38, ⟨[.int .u64], false, 8, .int .u64⟩),
  (40, ⟨[.int .u64, .int .u64], true, 16, .struct [(0, 38), (1, 38)]⟩),
  (51, ⟨[.slice 9], false, 24, .slice 9⟩),
  (55, ⟨[.slice 5], false, 24, .slice 5⟩),
  (56, ⟨[.int .u64], false, 8, .int .u64⟩),
  (71, ⟨repK 8 [.int .u8], true, 8, .array 8 5⟩),
  (74, ⟨repK 95 [.int .u8], true, 95, .array 95 5⟩),
  (77, ⟨[.slice 28], false, 24, .slice 28⟩)]
theorem tf2 : FactT Try.prog tl 2 := factInt (k := .i64) (by' := 8) (by kernel_rfl) Try.type2 rfl rfl rfl rfl
theorem tf3 : FactT Try.prog tl 3 := factInt (k := .i64) (by' := 8) (by kernel_rfl) Try.type3 rfl rfl rfl rfl
theorem tf4 : FactT Try.prog tl 4 := factBool (by' := 1) (by kernel_rfl) Try.type4 rfl rfl rfl rfl
theorem tf5 : FactT Try.prog tl 5 := factInt (k := .u8) (by' := 1) (by kernel_rfl) Try.type5 rfl rfl rfl rfl
theorem tf6 : FactT Try.prog tl 6 := factInt (k := .u8) (by' := 1) (by kernel_rfl) Try.type6 rfl rfl rfl rfl
theorem tf9 : FactT Try.prog tl 9 := factStr (by' := 16) (by kernel_rfl) Try.type9 rfl rfl rfl rfl
theorem tf20 : FactT Try.prog tl 20 := factIface (by' := 16) (by kernel_rfl) Try.type20 rfl rfl rfl rfl
theorem tf21 : FactT Try.prog tl 21 := factInt (k := .i32) (by' := 4) (by kernel_rfl) Try.type21 rfl rfl rfl rfl
theorem tf49 : FactT Try.prog tl 49 := factStruct (by' := 40) (cells := [.int .i64, .int .i64, .int .i64, .int .i64, .int .i64]) (fs := [(0, 3), (1, 3), (2, 3), (3, 3), (4, 3)]) (by kernel_rfl) Try.type49 rfl rfl (fun _ => rfl) rfl (by kernel_rfl)
theorem tf22 : FactT Try.prog tl 22 := factSlice (by' := 24) (el := 49) (by kernel_rfl) Try.type22 rfl rfl rfl rfl rfl
theorem tf33 : FactT Try.prog tl 33 := factStruct (by' := 48) (cells := [.int .i64, .int .i64, .int .i64, .int .i64, .int .i64, .int .i64]) (fs := [(0, 3), (1, 3), (2, 3), (3, 3), (4, 3), (5, 3)]) (by kernel_rfl) Try.type33 rfl rfl (fun _ => rfl) rfl (by kernel_rfl)
theorem tf23 : FactT Try.prog tl 23 := factSlice (by' := 24) (el := 33) (by kernel_rfl) Try.type23 rfl rfl rfl rfl rfl
theorem tf28 : FactT Try.prog tl 28 := factSlice (by' := 24) (el := 3) (by kernel_rfl) Try.type28 rfl rfl rfl rfl rfl
theorem tf30 : FactT Try.prog tl 30 := factStruct (by' := 64) (cells := [.str, .slice 3, .slice 3]) (fs := [(0, 9), (1, 28), (2, 28)]) (by kernel_rfl) Try.type30 rfl rfl (fun _ => rfl) rfl (by kernel_rfl)
theorem tf24 : FactT Try.prog tl 24 := factSlice (by' := 24) (el := 30) (by kernel_rfl) Try.type24 rfl rfl rfl rfl rfl
theorem tf26 : FactT Try.prog tl 26 := factStruct (by' := 96) (cells := [.str, .int .i64, .int .i64, .int .i64, .slice 33, .slice 30, .int .i64]) (fs := [(0, 9), (1, 3), (2, 3), (3, 3), (4, 23), (5, 24), (6, 3)]) (by kernel_rfl) Try.type26 rfl rfl (fun _ => rfl) rfl (by kernel_rfl)
theorem tf35 : FactT Try.prog tl 35 := factInt (k := .i64) (by' := 8) (by kernel_rfl) Try.type35 rfl rfl rfl rfl
theorem tf38 : FactT Try.prog tl 38 := factInt (k := .u64) (by' := 8) (by kernel_rfl) Try.type38 rfl rfl rfl rfl
theorem tf40 : FactT Try.prog tl 40 := factStruct (by' := 16) (cells := [.int .u64, .int .u64]) (fs := [(0, 38), (1, 38)]) (by kernel_rfl) Try.type40 rfl rfl (fun _ => rfl) rfl (by kernel_rfl)
theorem tf51 : FactT Try.prog tl 51 := factSlice (by' := 24) (el := 9) (by kernel_rfl) Try.type51 rfl rfl rfl rfl rfl
theorem tf55 : FactT Try.prog tl 55 := factSlice (by' := 24) (el := 5) (by kernel_rfl) Try.type55 rfl rfl rfl rfl rfl
theorem tf56 : FactT Try.prog tl 56 := factInt (k := .u64) (by' := 8) (by kernel_rfl) Try.type56 rfl rfl rfl rfl
theorem tf71 : FactT Try.prog tl 71 := factArray (by' := 8) (ks := [.int .u8]) (n := 8) (el := 5) (by kernel_rfl) Try.type71 rfl rfl (fun _ => rfl) rfl rfl rfl
theorem tf74 : FactT Try.prog tl 74 := factArray (by' := 95) (ks := [.int .u8]) (n := 95) (el := 5) (by kernel_rfl) Try.type74 rfl rfl (fun _ => rfl) rfl rfl rfl
theorem tf77 : FactT Try.prog tl 77 := factSlice (by' := 24) (el := 28) (by kernel_rfl) Try.type77 rfl rfl rfl rfl rfl
theorem hP : Facts Try.prog tl := by
  refine Facts.ofL (fun x hx => ?_) (by kernel_rfl) (by kernel_rfl)
  simp only [tl, List.mem_cons, List.not_mem_nil, or_false] at hx
  rcases hx with rfl | rfl | rfl | rfl | rfl | rfl | rfl | rfl | rfl | rfl | rfl | rfl | rfl | rfl | rfl | rfl | rfl | rfl | rfl | rfl | rfl | rfl | rfl | rfl | rfl
  · exact tf2
  · exact tf3
  · exact tf4
  · exact tf5
  · exact tf6
  · exact tf9
  · exact tf20
  · exact tf21
  · exact tf49
  · exact tf22
  · exact tf33
  · exact tf23
  · exact tf28
  · exact tf30
  · exact tf24
  · exact tf26
  · exact tf35
  · exact tf38
  · exact tf40
  · exact tf51
  · exact tf55
  · exact tf56
  · exact tf71
  · exact tf74
  · exact tf77
end Go.Proofs.Ytgneobkmmmpbiaa
