/- Which fields there are: as a map, and as bytes. -/
import Derived.Test.YtgneobkmmmpbiaaFf
namespace Go.Proofs.Ytgneobkmmmpbiaa
open Go Go.Proofs Go.Eng
set_option linter.unusedVariables false
set_option linter.unusedSimpArgs false

theorem bitI_or {x y : Nat} (hx : x < 2 ^ 64) (hy : y < 2 ^ 64) : bitI .or IntKind.u64 (x : Int) (y : Int) = ((x ||| y : Nat) : Int) := by
  unfold bitI
  have e1 : BitVec.ofInt IntKind.u64.bits (x : Int) = BitVec.ofNat 64 x := by show BitVec.ofInt 64 (x : Int) = _; rw [BitVec.ofInt_natCast]
  have e2 : BitVec.ofInt IntKind.u64.bits (y : Int) = BitVec.ofNat 64 y := by show BitVec.ofInt 64 (y : Int) = _; rw [BitVec.ofInt_natCast]
  simp only [e1, e2]
  have h := Nat.or_lt_two_pow hx hy
  have e3 : (BitVec.ofNat 64 x ||| BitVec.ofNat 64 y).toNat = x ||| y := by rw [BitVec.toNat_or, BitVec.toNat_ofNat, BitVec.toNat_ofNat, Nat.mod_eq_of_lt hx, Nat.mod_eq_of_lt hy]
  show IntKind.u64.wrap (((BitVec.ofNat 64 x ||| BitVec.ofNat 64 y).toNat : Nat) : Int) = _
  rw [e3, wu64 (by omega) (by omega)]
theorem bitI_and {x y : Nat} (hx : x < 2 ^ 64) (hy : y < 2 ^ 64) : bitI .and IntKind.u64 (x : Int) (y : Int) = ((x &&& y : Nat) : Int) := by
  unfold bitI
  have e1 : BitVec.ofInt IntKind.u64.bits (x : Int) = BitVec.ofNat 64 x := by show BitVec.ofInt 64 (x : Int) = _; rw [BitVec.ofInt_natCast]
  have e2 : BitVec.ofInt IntKind.u64.bits (y : Int) = BitVec.ofNat 64 y := by show BitVec.ofInt 64 (y : Int) = _; rw [BitVec.ofInt_natCast]
  simp only [e1, e2]
  have h : x &&& y ≤ x := Nat.and_le_left
  have e3 : (BitVec.ofNat 64 x &&& BitVec.ofNat 64 y).toNat = x &&& y := by rw [BitVec.toNat_and, BitVec.toNat_ofNat, BitVec.toNat_ofNat, Nat.mod_eq_of_lt hx, Nat.mod_eq_of_lt hy]
  show IntKind.u64.wrap (((BitVec.ofNat 64 x &&& BitVec.ofNat 64 y).toNat : Nat) : Int) = _
  rw [e3, wu64 (by omega) (by omega)]

/-- The bit of a number, in the half where it stands. -/
def bitA (n : Nat) : Nat := if n ≤ 64 then 2 ^ (64 - n) else 0
def bitB' (n : Nat) : Nat := if n ≤ 64 then 0 else 2 ^ (128 - n)
theorem fieldB_iff {n : Int} : fieldB n = true ↔ 2 ≤ n ∧ n ≤ 128 ∧ n ≠ 65 := by
  unfold fieldB
  simp only [Bool.and_eq_true, decide_eq_true_eq, bne_iff_ne, ge_iff_le]
  exact ⟨fun h => ⟨h.1.1, h.1.2, h.2⟩, fun h => ⟨⟨h.1, h.2.1⟩, h.2.2⟩⟩
theorem shl_one {k : Nat} (h : k ≤ 62) : shlI IntKind.u64 1 (k : Int) = ((2 ^ k : Nat) : Int) := by
  unfold shlI
  have e : min (k : Int).toNat IntKind.u64.bits = k := by show min (k : Int).toNat 64 = k; omega
  rw [e, Int.one_mul]
  have e2 : ((2 : Int) ^ k) = ((2 ^ k : Nat) : Int) := by push_cast; rfl
  have : (2 : Nat) ^ k ≤ 2 ^ 62 := Nat.pow_le_pow_right (by omega) h
  rw [e2]
  revert this
  generalize (2 : Nat) ^ k = m
  intro this
  exact wu64 (by omega) (by omega)
theorem one_of {n : Int} (h : fieldB n = true) : oneOk n = true ∧ oneA n = (bitA n.toNat : Int) ∧ oneB n = (bitB' n.toNat : Int) := by
  obtain ⟨h1, h2, h3⟩ := fieldB_iff.1 h
  unfold oneOk oneA oneB bitA bitB'
  by_cases h4 : n ≤ 64
  · have h5 : n.toNat ≤ 64 := by omega
    rw [dT h4, if_pos h5, if_pos h5]
    have e : IntKind.i64.wrap (64 - n) = ((64 - n.toNat : Nat) : Int) := by rw [w64 (by omega) (by omega)]; omega
    simp only [cond_true, e]
    refine ⟨?_, shl_one (by omega), rfl⟩
    rw [dF (by omega)]; rfl
  · have h5 : ¬ n.toNat ≤ 64 := by omega
    rw [dF h4, if_neg h5, if_neg h5]
    have e : IntKind.i64.wrap (128 - n) = ((128 - n.toNat : Nat) : Int) := by rw [w64 (by omega) (by omega)]; omega
    simp only [cond_false, e]
    refine ⟨?_, rfl, shl_one (by omega)⟩
    rw [dF (by omega)]; rfl
theorem bitA_lt {n : Nat} (h : 2 ≤ n) : bitA n < 2 ^ 63 := by
  unfold bitA
  split
  · have : (2 : Nat) ^ (64 - n) ≤ 2 ^ 62 := Nat.pow_le_pow_right (by omega) (by omega)
    omega
  · omega
theorem bitB_lt {n : Nat} (h : n ≤ 128) (h5 : n ≠ 65) : bitB' n < 2 ^ 63 := by
  unfold bitB'
  split
  · omega
  · have : (2 : Nat) ^ (128 - n) ≤ 2 ^ 62 := Nat.pow_le_pow_right (by omega) (by omega)
    omega

/-! mapOf. -/
def mapOf_sg : FSig := FSig.mk [28] [(40, []), (35, [])] false
noncomputable def mapOf_c : Code := Try.f9.body.getD .skip
def mapOf_E : Env := ⟨tl, [(19, field_sg, field_s), (20, one_sg, one_s)], dirsOf [], dirsOf [(0, [Dir.only [2, 4], Dir.sort [2, 4], Dir.keep [2, 4, 8, 9, 10]])], dirsOf [(0, [Dir.only [2, 4], Dir.sort [2, 4], Dir.keep [2, 3, 4]])], joinsOf tl []⟩
def mapOf_sh0 : Shp := Shp.mk 33
  [(2, ASh.one (SSh.ptr 2 [(0, 0)])), (4, ASh.one (SSh.ptr 4 [(0, 0)])), (8, ASh.one (SSh.s (CK.slice 3))), (9, ASh.one (SSh.s (CK.int IntKind.i64))),
    (10, ASh.one (SSh.s (CK.int IntKind.i64)))]
  [(2, RSh.rowA 2 40 [0, 0]), (4, RSh.rowA 2 40 [0, 0])]
def mapOf_xs0 : Outs := [(Ex.ret, Shp.mk 33 [(2, ASh.one (SSh.ptr 2 [(0, 0)])), (3, ASh.one (SSh.s (CK.int IntKind.i64))), (4, ASh.one (SSh.ptr 4 [(0, 0)]))]
  [(2, RSh.rowA 2 40 [0, 0]), (4, RSh.rowA 2 40 [0, 0])]),
  (Ex.exit 0, Shp.mk 33 [(2, ASh.one (SSh.ptr 2 [(0, 0)])), (3, ASh.one SSh.dead), (4, ASh.one (SSh.ptr 4 [(0, 0)]))] [(2, RSh.rowA 2 40 [0, 0]), (4, RSh.rowA 2 40 [0, 0])])]
def mapOf_b0 {β : Type} (fuel : Nat) (g0 g1 g2 g3 g4 g5 g6 : GV) (kn : List GV → Option β) (kx : Nat → List GV → Option β) : Option β :=
  bif decide (g2.asInt < g1.asInt) then
  bif inRange g2.asInt g0.asList.length then
    bif !fieldB (nth g0.all g2.asInt.toNat).asInt then kx 0 [GV.int 1, GV.int 0, GV.int 0, g5, g6]
    else
      (one_s [nth g0.all g2.asInt.toNat]).bind fun o0 =>
        kn
          [g0, g1, GV.int (IntKind.i64.wrap (g2.asInt + 1)), g3, g4, GV.int (bitI Go.BinOp.or IntKind.u64 g5.asInt (cellG true (nth o0 0) 0).asInt),
            GV.int (bitI Go.BinOp.or IntKind.u64 g6.asInt (cellG true (nth o0 0) 1).asInt)]
  else none
else kx 1 [g3, g4, g5, g6]
def mapOf_e0 (fuel : Nat) : LEnt := ⟨0, mapOf_sh0, mapOf_xs0, fun gs kn kx => mapOf_b0 fuel (nth gs 0) (nth gs 1) (nth gs 2) (nth gs 3) (nth gs 4) (nth gs 5) (nth gs 6) kn kx⟩
def mapOf_l0 (fuel : Nat) (gs : List GV) : Option (Nat × List GV) := loopR (mapOf_e0 fuel).step fuel gs
theorem mapOf_t0 {β : Type} (fuel : Nat) (g0 g1 g2 g3 g4 g5 g6 : GV) (kn : List GV → Option β) (kx : Nat → List GV → Option β) : (mapOf_e0 fuel).step [g0, g1, g2, g3, g4, g5, g6] kn kx = mapOf_b0 fuel g0 g1 g2 g3 g4 g5 g6 kn kx := rfl
theorem mapOf_k0 (fuel : Nat) : StepOk mapOf_E mapOf_c (LZ) (mapOf_e0 fuel) :=
  ⟨by kernel_rfl, fun gs kn kx => by kernel_rfl, fun f gs kn kx => by simp only [mapOf_e0, mapOf_b0, bind_cond, Option.bind_assoc, Option.bind_none]⟩
def mapOf_f (fuel : Nat) (a0 : GV) : Option R :=
  (mapOf_l0 fuel [a0, GV.int (↑a0.asList.length : Int), GV.int 0, GV.int 0, GV.int 0, GV.int 0, GV.int 0]).bind fun r1 =>
  bif r1.fst.beq 0 then some [GV.agg [nth r1.snd 1, nth r1.snd 2], nth r1.snd 0] else some [GV.agg [nth r1.snd 2, nth r1.snd 3], GV.int 0]
theorem mapOf_q (fuel : Nat) (a0 : GV) : gexec mapOf_E (LSc (mapOf_e0 fuel) fuel (LZ)) Try.f9.ntmps Try.f9.results.toList mapOf_sg mapOf_c [a0] = mapOf_f fuel a0 := by kernel_rfl
theorem mapOf_calls (hS : SpecsOk Try.prog tl mapOf_E.sp) (fuel : Nat) : CallsOk Try.prog tl 9 mapOf_sg (gexec mapOf_E (LSc (mapOf_e0 fuel) fuel (LZ)) Try.f9.ntmps Try.f9.results.toList mapOf_sg mapOf_c) :=
  gexec_calls (E := mapOf_E) hP hS Try.func9 (by kernel_rfl) (by kernel_rfl) (fun W => LSc_ok hP hS (LZ_ok) (mapOf_k0 fuel) fuel)
def mapA (l : List GV) : Nat := l.foldl (fun x g => x ||| bitA g.asInt.toNat) 0
def mapB (l : List GV) : Nat := l.foldl (fun x g => x ||| bitB' g.asInt.toNat) 0
def fieldsB (l : List GV) : Bool := l.all fun g => fieldB g.asInt
def mapOf_s : List GV → Option R
  | [a0] => bif Nat.ble a0.asList.length 1000000000 && fieldsB a0.asList then some [.agg [.int (mapA a0.asList : Nat), .int (mapB a0.asList : Nat)], .int 0] else none
  | _ => none
theorem map_lt (l : List GV) (h : fieldsB l = true) : mapA l < 2 ^ 63 ∧ mapB l < 2 ^ 63 := by
  have key : ∀ (l : List GV) (x y : Nat), fieldsB l = true → x < 2 ^ 63 → y < 2 ^ 63 → l.foldl (fun x g => x ||| bitA g.asInt.toNat) x < 2 ^ 63 ∧ l.foldl (fun x g => x ||| bitB' g.asInt.toNat) y < 2 ^ 63 := by
    intro l
    induction l with
    | nil => intro x y _ hx hy; exact ⟨hx, hy⟩
    | cons g l ih =>
      intro x y hf hx hy
      simp only [fieldsB, List.all_cons, Bool.and_eq_true] at hf
      obtain ⟨h1, h2, h3⟩ := fieldB_iff.1 hf.1
      exact ih _ _ hf.2 (Nat.or_lt_two_pow hx (bitA_lt (by omega))) (Nat.or_lt_two_pow hy (bitB_lt (by omega) (by omega)))
  exact key l 0 0 h (by omega) (by omega)
theorem fieldsB_take {l : List GV} (h : fieldsB l = true) (i : Nat) : fieldsB (l.take i) = true := by
  unfold fieldsB at *
  rw [List.all_eq_true] at *
  exact fun x hx => h x (List.mem_of_mem_take hx)
theorem take_snoc {l : List GV} {i : Nat} (h : i < l.length) : l.take (i + 1) = l.take i ++ [nth l i] := by
  rw [List.take_add_one]
  congr 1
  unfold nth
  simp [List.getD_eq_getElem?_getD, List.getElem?_eq_getElem h]
theorem mapOf_ok : CallsOk Try.prog tl 9 mapOf_sg mapOf_s := (mapOf_calls (specs_cons (specs_cons specs_nil one_ok Try.call20) field_ok Try.call19) 1000000001).of fun gs outs h => by
  rcases gs with _ | ⟨a0, _ | ⟨a1, t⟩⟩ <;> first | (cases h; done) | skip
  rw [mapOf_q 1000000001]
  simp only [mapOf_s] at h
  cases hb : Nat.ble a0.asList.length 1000000000 && fieldsB a0.asList with
  | false => rw [hb] at h; cases h
  | true =>
    rw [hb] at h
    rw [← h]
    simp only [Bool.and_eq_true] at hb
    have hs := Nat.le_of_ble_eq_true hb.1
    have hf := hb.2
    have key := loop_done (step := (mapOf_e0 1000000001).step) (S := fun i => [a0, .int (a0.asList.length : Nat), .int (i : Nat), .int 0, .int 0, .int (mapA (a0.asList.take i) : Nat), .int (mapB (a0.asList.take i) : Nat)]) (n := a0.asList.length) (q := 1)
      (zs := [.int 0, .int 0, .int (mapA a0.asList : Nat), .int (mapB a0.asList : Nat)]) (fun i hi kn kx => by
        rw [mapOf_t0]
        unfold mapOf_b0
        refine (cT (show ((i : Nat) : Int) < ((a0.asList.length : Nat) : Int) by omega) _ _).trans ?_
        refine (bT (inRange_nat hi) _ _).trans ?_
        have hn : nth a0.all i = nth a0.asList i := nth_all hi
        have e3 : fieldB (nth a0.asList i).asInt = true := List.all_eq_true.1 hf _ (nth_mem hi)
        obtain ⟨o1, o2, o3⟩ := one_of e3
        simp only [asInt_int, Int.toNat_natCast, hn, e3, Bool.not_true, cond_false]
        have hone : one_s [nth a0.asList i] = some [.agg [.int (bitA (nth a0.asList i).asInt.toNat : Nat), .int (bitB' (nth a0.asList i).asInt.toNat : Nat)]] := by
          simp only [one_s, o1, o2, o3, cond_true]
        rw [hone]
        simp only [Option.bind_some, nth_zero, cellG_agg, nth_succ, asInt_int]
        obtain ⟨l1, l2⟩ := map_lt _ (fieldsB_take hf i)
        obtain ⟨f1, f2, f3⟩ := fieldB_iff.1 e3
        have b1 := bitA_lt (n := (nth a0.asList i).asInt.toNat) (by omega)
        have b2 := bitB_lt (n := (nth a0.asList i).asInt.toNat) (by omega) (by omega)
        rw [bitI_or (by omega) (by omega), bitI_or (by omega) (by omega), w64 (by omega) (by omega), take_snoc hi]
        simp only [mapA, mapB, List.foldl_append, List.foldl_cons, List.foldl_nil]
        rfl) (fun kn kx => by
        rw [mapOf_t0]
        unfold mapOf_b0
        refine (cF (show ¬ ((a0.asList.length : Nat) : Int) < ((a0.asList.length : Nat) : Int) by omega) _ _).trans ?_
        rw [List.take_length]) (N := 1000000001) (by omega)
    unfold mapOf_f mapOf_l0
    have e0 : ([a0, .int (a0.asList.length : Nat), .int 0, .int 0, .int 0, .int 0, .int 0] : List GV) = [a0, .int (a0.asList.length : Nat), .int ((0 : Nat) : Int), .int 0, .int 0, .int (mapA (a0.asList.take 0) : Nat), .int (mapB (a0.asList.take 0) : Nat)] := rfl
    rw [e0, key]
    rfl

/-! written. -/
def written_sg : FSig := FSig.mk [3, 38] [(9, [])] false
noncomputable def written_c : Code := Try.f23.body.getD .skip
def written_E : Env := ⟨tl, [(30, sign_sg, sign_s)], dirsOf [], dirsOf [(0, [Dir.only [5], Dir.sort [5], Dir.keep [0, 1, 5, 10]]), (1, [Dir.own 7 5 1007, Dir.only [1007], Dir.sort [1007], Dir.keep [0, 7, 26, 27]])], dirsOf [(0, [Dir.only [5], Dir.sort [5], Dir.keep [0, 5]]), (1, [Dir.own 7 5 1007, Dir.only [1007], Dir.sort [1007], Dir.keep [7]])], joinsOf tl []⟩
def written_sh1 : Shp := Shp.mk 44
  [(0, ASh.one (SSh.s (CK.int IntKind.i64))), (7, ASh.one (SSh.ref 5 1007)),
    (26,
      ASh.agg
        [SSh.s (CK.int IntKind.u8), SSh.s (CK.int IntKind.u8), SSh.s (CK.int IntKind.u8), SSh.s (CK.int IntKind.u8), SSh.s (CK.int IntKind.u8),
          SSh.s (CK.int IntKind.u8), SSh.s (CK.int IntKind.u8), SSh.s (CK.int IntKind.u8)]),
    (27, ASh.one (SSh.s (CK.int IntKind.i64)))]
  [(1007, RSh.val 3 5)]
def written_xs1 : Outs := [(Ex.exit 2, Shp.mk 44 [(7, ASh.one (SSh.ref 5 1007))] [(1007, RSh.val 3 5)])]
def written_b1 {β : Type} (fuel : Nat) (g0 g1 g2 g3 g4 g5 g6 g7 g8 g9 g10 : GV) (kn : List GV → Option β) (kx : Nat → List GV → Option β) : Option β :=
  bif decide (g9.asInt < 8) then
  bif inRange g9.asInt 8 then
    bif lim tl 5 g10.asList.length 2 then
      kn
        [g0, g1, g2, g3, g4, g5, g6, g7, g8, GV.int (IntKind.i64.wrap (g9.asInt + 1)),
          GV.list 2 (g10.asZ && true)
            (g10.asList ++
              [GV.int (signZ g0.asInt (shrI IntKind.u8 (nth [g1, g2, g3, g4, g5, g6, g7, g8] g9.asInt.toNat).asInt 4)),
                GV.int (signZ g0.asInt (bitI Go.BinOp.and IntKind.u8 (nth [g1, g2, g3, g4, g5, g6, g7, g8] g9.asInt.toNat).asInt 15))])
            []]
    else none
  else none
else kx 0 [GV.list 2 g10.asZ g10.asList []]
def written_e1 (fuel : Nat) : LEnt := ⟨1, written_sh1, written_xs1, fun gs kn kx => written_b1 fuel (nth gs 0) (nth gs 1) (nth gs 2) (nth gs 3) (nth gs 4) (nth gs 5) (nth gs 6) (nth gs 7) (nth gs 8) (nth gs 9) (nth gs 10) kn kx⟩
def written_l1 (fuel : Nat) (gs : List GV) : Option (Nat × List GV) := loopR (written_e1 fuel).step fuel gs
theorem written_t1 {β : Type} (fuel : Nat) (g0 g1 g2 g3 g4 g5 g6 g7 g8 g9 g10 : GV) (kn : List GV → Option β) (kx : Nat → List GV → Option β) : (written_e1 fuel).step [g0, g1, g2, g3, g4, g5, g6, g7, g8, g9, g10] kn kx = written_b1 fuel g0 g1 g2 g3 g4 g5 g6 g7 g8 g9 g10 kn kx := rfl
theorem written_k1 (fuel : Nat) : StepOk written_E written_c (LZ) (written_e1 fuel) :=
  ⟨by kernel_rfl, fun gs kn kx => by kernel_rfl, fun f gs kn kx => by simp only [written_e1, written_b1, bind_cond, Option.bind_assoc, Option.bind_none]⟩
def written_sh0 : Shp := Shp.mk 44
  [(0, ASh.one (SSh.s (CK.int IntKind.i64))), (1, ASh.one (SSh.s (CK.int IntKind.u64))), (5, ASh.one (SSh.ptr 5 [(0, 0)])),
    (10, ASh.one (SSh.s (CK.int IntKind.i64)))]
  [(5, RSh.row1 2 71)]
def written_xs0 : Outs := [(Ex.exit 0, Shp.mk 44 [(0, ASh.one (SSh.s (CK.int IntKind.i64))), (5, ASh.one (SSh.ptr 5 [(0, 0)]))] [(5, RSh.row1 2 71)])]
def written_b0 {β : Type} (fuel : Nat) (g0 g1 g2 g3 : GV) (kn : List GV → Option β) (kx : Nat → List GV → Option β) : Option β :=
  bif decide (g2.asInt < 8) then
  bif !decide (IntKind.i64.wrap (56 - IntKind.i64.wrap (8 * g2.asInt)) < 0) then
    bif inRange g2.asInt 8 && true then
      bif (0 + g2.asInt.toNat * 1 + 1).ble 8 && true then
        kn
          [g0, g1, GV.int (IntKind.i64.wrap (g2.asInt + 1)),
            GV.agg (padSet g3.asAgg (0 + g2.asInt.toNat * 1) (GV.int (IntKind.u8.wrap (shrI IntKind.u64 g1.asInt (IntKind.i64.wrap (56 - IntKind.i64.wrap (8 * g2.asInt)))))))]
      else none
    else none
  else none
else kx 0 [g0, g3]
def written_e0 (fuel : Nat) : LEnt := ⟨0, written_sh0, written_xs0, fun gs kn kx => written_b0 fuel (nth gs 0) (nth gs 1) (nth gs 2) (nth gs 3) kn kx⟩
def written_l0 (fuel : Nat) (gs : List GV) : Option (Nat × List GV) := loopR (written_e0 fuel).step fuel gs
theorem written_t0 {β : Type} (fuel : Nat) (g0 g1 g2 g3 : GV) (kn : List GV → Option β) (kx : Nat → List GV → Option β) : (written_e0 fuel).step [g0, g1, g2, g3] kn kx = written_b0 fuel g0 g1 g2 g3 kn kx := rfl
theorem written_k0 (fuel : Nat) : StepOk written_E written_c (LSc (written_e1 fuel) fuel (LZ)) (written_e0 fuel) :=
  ⟨by kernel_rfl, fun gs kn kx => by kernel_rfl, fun f gs kn kx => by simp only [written_e0, written_b0, bind_cond, Option.bind_assoc, Option.bind_none]⟩
def written_f (fuel : Nat) (a0 a1 : GV) : Option R :=
  (written_l0 fuel [a0, a1, GV.int 0, GV.agg [GV.int 0, GV.int 0, GV.int 0, GV.int 0, GV.int 0, GV.int 0, GV.int 0, GV.int 0]]).bind fun r0 =>
  bif (nth r0.snd 0).asInt == 1 then
    some
      [GV.str
          (bytesStr
            [cellG true (nth r0.snd 1) 0, cellG true (nth r0.snd 1) 1, cellG true (nth r0.snd 1) 2, cellG true (nth r0.snd 1) 3, cellG true (nth r0.snd 1) 4,
              cellG true (nth r0.snd 1) 5, cellG true (nth r0.snd 1) 6, cellG true (nth r0.snd 1) 7])]
  else
    (written_l1 fuel
          [nth r0.snd 0, cellG true (nth r0.snd 1) 0, cellG true (nth r0.snd 1) 1, cellG true (nth r0.snd 1) 2, cellG true (nth r0.snd 1) 3,
            cellG true (nth r0.snd 1) 4, cellG true (nth r0.snd 1) 5, cellG true (nth r0.snd 1) 6, cellG true (nth r0.snd 1) 7, GV.int 0, GV.list 2 true [] []]).bind
      fun r1 => bif (nth r1.snd 0).asList.length.ble 140737488351232 then some [GV.str (bytesStr (nth r1.snd 0).asList)] else none
theorem written_q (fuel : Nat) (a0 a1 : GV) : gexec written_E (LSc (written_e0 fuel) fuel (LSc (written_e1 fuel) fuel (LZ))) Try.f23.ntmps Try.f23.results.toList written_sg written_c [a0, a1] = written_f fuel a0 a1 := by kernel_rfl
theorem written_calls (hS : SpecsOk Try.prog tl written_E.sp) (fuel : Nat) : CallsOk Try.prog tl 23 written_sg (gexec written_E (LSc (written_e0 fuel) fuel (LSc (written_e1 fuel) fuel (LZ))) Try.f23.ntmps Try.f23.results.toList written_sg written_c) :=
  gexec_calls (E := written_E) hP hS Try.func23 (by kernel_rfl) (by kernel_rfl) (fun W => LSc_ok hP hS (LSc_ok hP hS (LZ_ok) (written_k1 fuel) fuel) (written_k0 fuel) fuel)
def cellsW (x : Int) : List GV := [.int (IntKind.u8.wrap (shrI IntKind.u64 x 56)), .int (IntKind.u8.wrap (shrI IntKind.u64 x 48)), .int (IntKind.u8.wrap (shrI IntKind.u64 x 40)), .int (IntKind.u8.wrap (shrI IntKind.u64 x 32)),
  .int (IntKind.u8.wrap (shrI IntKind.u64 x 24)), .int (IntKind.u8.wrap (shrI IntKind.u64 x 16)), .int (IntKind.u8.wrap (shrI IntKind.u64 x 8)), .int (IntKind.u8.wrap (shrI IntKind.u64 x 0))]
def signL (f : Int) (l : List GV) : List GV := l.flatMap fun g => [.int (signZ f (shrI IntKind.u8 g.asInt 4)), .int (signZ f (bitI .and IntKind.u8 g.asInt 15))]
def writtenL (f x : Int) : List GV := bif f == 1 then cellsW x else signL f (cellsW x)
def written_s : List GV → Option R
  | [a0, a1] => some [.str (bytesStr (writtenL a0.asInt a1.asInt))]
  | _ => none
theorem written_run0 (a0 a1 : GV) (N : Nat) : written_l0 (N + 9) [a0, a1, .int 0, .agg [.int 0, .int 0, .int 0, .int 0, .int 0, .int 0, .int 0, .int 0]] = some (0, [a0, .agg (cellsW a1.asInt)]) := by
  rfl
theorem written_run1 (a0 : GV) (b0 b1 b2 b3 b4 b5 b6 b7 : GV) (N : Nat) : written_l1 (N + 9) [a0, b0, b1, b2, b3, b4, b5, b6, b7, .int 0, .list 2 true [] []] = some (0, [.list 2 true (signL a0.asInt [b0, b1, b2, b3, b4, b5, b6, b7]) []]) := by
  rfl
theorem written_ok : CallsOk Try.prog tl 23 written_sg written_s := (written_calls (specs_cons specs_nil sign_ok Try.call30) 9).of fun gs outs h => by
  rcases gs with _ | ⟨a0, _ | ⟨a1, _ | ⟨a2, t⟩⟩⟩ <;> first | (cases h; done) | skip
  rw [written_q 9, ← h]
  unfold written_f written_s writtenL
  rw [written_run0 a0 a1 0]
  simp only [Option.bind_some, nth_zero, nth_succ]
  cases a0.asInt == 1 with
  | true => rfl
  | false =>
    simp only [cond_false, cellG_agg, cellsW, nth_zero, nth_succ]
    rw [written_run1 a0 _ _ _ _ _ _ _ _ 0]
    rfl

end Go.Proofs.Ytgneobkmmmpbiaa
