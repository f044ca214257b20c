/- Which fields there are, as bytes; how a field stands; a list of its own. -/
import Derived.Test.YtgneobkmmmpbiaaFg
namespace Go.Proofs.Ytgneobkmmmpbiaa
open Go Go.Proofs Go.Eng
set_option linter.unusedVariables false
set_option linter.unusedSimpArgs false

/-! encode. -/
def encode_sg : FSig := FSig.mk [3, 40] [(9, []), (35, [])] false
noncomputable def encode_c : Code := Try.f10.body.getD .skip
def encode_E : Env := ⟨tl, [(21, form_sg, form_s), (22, right_sg, right_s), (23, written_sg, written_s)], dirsOf [], dirsOf [], dirsOf [], joinsOf tl []⟩
def encode_f (fuel : Nat) (a0 a1 : GV) : Option R :=
  (condO (!formZ a0.asInt == 0) (right_s [GV.agg [cellG true a1 0, cellG true a1 1]])).bind fun o0 =>
  bif bif formZ a0.asInt == 0 then true else !(nth o0 0).asBool then some [GV.str (ByteArray.mk #[]), GV.int 1]
  else
    bif (cellG true a1 1).asInt == 0 then some [GV.str (bytesStr (writtenL (formZ a0.asInt) (cellG true a1 0).asInt)), GV.int 0]
    else
      bif
          ((bytesStr (writtenL (formZ a0.asInt) (bitI Go.BinOp.or IntKind.u64 (cellG true a1 0).asInt 9223372036854775808))).size +
                (bytesStr (writtenL (formZ a0.asInt) (cellG true a1 1).asInt)).size).ble
            140737488351232 then
        some
          [GV.str
              (bytesStr (writtenL (formZ a0.asInt) (bitI Go.BinOp.or IntKind.u64 (cellG true a1 0).asInt 9223372036854775808)) ++
                bytesStr (writtenL (formZ a0.asInt) (cellG true a1 1).asInt)),
            GV.int 0]
      else none
theorem encode_q (fuel : Nat) (a0 a1 : GV) : gexec encode_E (LZ) Try.f10.ntmps Try.f10.results.toList encode_sg encode_c [a0, a1] = encode_f fuel a0 a1 := by kernel_rfl
theorem encode_calls (hS : SpecsOk Try.prog tl encode_E.sp) (fuel : Nat) : CallsOk Try.prog tl 10 encode_sg (gexec encode_E (LZ) Try.f10.ntmps Try.f10.results.toList encode_sg encode_c) :=
  gexec_calls (E := encode_E) hP hS Try.func10 (by kernel_rfl) (by kernel_rfl) (fun W => LZ_ok)
def encodeS (e a b : Int) : ByteArray := bif b == 0 then bytesStr (writtenL (formZ e) a) else bytesStr (writtenL (formZ e) (bitI .or IntKind.u64 a 9223372036854775808)) ++ bytesStr (writtenL (formZ e) b)
def encode_s : List GV → Option R
  | [a0, a1] => bif !(formZ a0.asInt == 0) && rightB (cellG true a1 0).asInt (cellG true a1 1).asInt then some [.str (encodeS a0.asInt (cellG true a1 0).asInt (cellG true a1 1).asInt), .int 0] else none
  | _ => none
theorem writtenL_len (f x : Int) : (writtenL f x).length = bif f == 1 then 8 else 16 := by
  unfold writtenL
  cases f == 1 <;> rfl
theorem encode_ok : CallsOk Try.prog tl 10 encode_sg encode_s := (encode_calls (specs_cons (specs_cons (specs_cons specs_nil written_ok Try.call23) right_ok Try.call22) form_ok Try.call21) 0).of fun gs outs h => by
  rcases gs with _ | ⟨a0, _ | ⟨a1, _ | ⟨a2, t⟩⟩⟩ <;> first | (cases h; done) | skip
  rw [encode_q 0]
  simp only [encode_s] at h
  cases hb : !(formZ a0.asInt == 0) && rightB (cellG true a1 0).asInt (cellG true a1 1).asInt with
  | false => rw [hb] at h; cases h
  | true =>
    rw [hb] at h
    rw [← h]
    simp only [Bool.and_eq_true, Bool.not_eq_true'] at hb
    unfold encode_f encodeS
    rw [hb.1]
    have hr : right_s [GV.agg [cellG true a1 0, cellG true a1 1]] = some [.bool true] := by
      show some [GV.bool (rightB (cellG true a1 0).asInt (cellG true a1 1).asInt)] = _
      rw [hb.2]
    show ((right_s [GV.agg [cellG true a1 0, cellG true a1 1]]).bind _) = _
    rw [hr]
    simp only [Option.bind_some, nth_zero, asBool_bool, cond_false, Bool.not_true]
    cases (cellG true a1 1).asInt == 0 with
    | true => rfl
    | false =>
      have e1 : ∀ x y : Int, Nat.ble ((bytesStr (writtenL (formZ a0.asInt) x)).size + (bytesStr (writtenL (formZ a0.asInt) y)).size) 140737488351232 = true := by
        intro x y
        rw [bytesStr_size, bytesStr_size, writtenL_len, writtenL_len]
        cases formZ a0.asInt == 1 <;> rfl
      rw [e1]
      rfl

/-! specG. -/
def specG_sg : FSig := FSig.mk [26, 3] [(33, []), (4, [])] false
noncomputable def specG_c : Code := Try.f28.body.getD .skip
def specG_E : Env := ⟨tl, [], dirsOf [], dirsOf [(0, [Dir.only [4], Dir.sort [4], Dir.keep [1, 4, 9, 10, 11]])], dirsOf [(0, [Dir.only [4], Dir.sort [4], Dir.keep [4, 5]])], joinsOf tl []⟩
def specG_sh0 : Shp := Shp.mk 22
  [(1, ASh.one (SSh.s (CK.int IntKind.i64))), (4, ASh.one (SSh.ptr 4 [(0, 0)])), (9, ASh.one (SSh.s (CK.slice 33))),
    (10, ASh.one (SSh.s (CK.int IntKind.i64))), (11, ASh.one (SSh.s (CK.int IntKind.i64)))]
  [(4, RSh.rowA 2 33 [0, 0, 0, 0, 0, 0])]
def specG_xs0 : Outs := [(Ex.ret, Shp.mk 22 [(4, ASh.one (SSh.ptr 4 [(0, 0)])), (5, ASh.one (SSh.s CK.bool))] [(4, RSh.rowA 2 33 [0, 0, 0, 0, 0, 0])]),
  (Ex.exit 0, Shp.mk 22 [(4, ASh.one (SSh.ptr 4 [(0, 0)])), (5, ASh.one SSh.dead)] [(4, RSh.rowA 2 33 [0, 0, 0, 0, 0, 0])])]
def specG_b0 {β : Type} (fuel : Nat) (g0 g1 g2 g3 g4 g5 g6 g7 g8 g9 : GV) (kn : List GV → Option β) (kx : Nat → List GV → Option β) : Option β :=
  bif decide (g3.asInt < g2.asInt) then
  bif inRange g3.asInt g1.asList.length then
    bif (cellG true (nth g1.all g3.asInt.toNat) 0).asInt == g0.asInt then
      kx 0
        [GV.bool true, cellG true (nth g1.all g3.asInt.toNat) 0, cellG true (nth g1.all g3.asInt.toNat) 1, cellG true (nth g1.all g3.asInt.toNat) 2,
          cellG true (nth g1.all g3.asInt.toNat) 3, cellG true (nth g1.all g3.asInt.toNat) 4, cellG true (nth g1.all g3.asInt.toNat) 5]
    else kn [g0, g1, g2, GV.int (IntKind.i64.wrap (g3.asInt + 1)), g4, g5, g6, g7, g8, g9]
  else none
else kx 1 [g4, g5, g6, g7, g8, g9]
def specG_e0 (fuel : Nat) : LEnt := ⟨0, specG_sh0, specG_xs0, fun gs kn kx => specG_b0 fuel (nth gs 0) (nth gs 1) (nth gs 2) (nth gs 3) (nth gs 4) (nth gs 5) (nth gs 6) (nth gs 7) (nth gs 8) (nth gs 9) kn kx⟩
def specG_l0 (fuel : Nat) (gs : List GV) : Option (Nat × List GV) := loopR (specG_e0 fuel).step fuel gs
theorem specG_t0 {β : Type} (fuel : Nat) (g0 g1 g2 g3 g4 g5 g6 g7 g8 g9 : GV) (kn : List GV → Option β) (kx : Nat → List GV → Option β) : (specG_e0 fuel).step [g0, g1, g2, g3, g4, g5, g6, g7, g8, g9] kn kx = specG_b0 fuel g0 g1 g2 g3 g4 g5 g6 g7 g8 g9 kn kx := rfl
theorem specG_k0 (fuel : Nat) : StepOk specG_E specG_c (LZ) (specG_e0 fuel) :=
  ⟨by kernel_rfl, fun gs kn kx => by kernel_rfl, fun f gs kn kx => by simp only [specG_e0, specG_b0, bind_cond, Option.bind_assoc, Option.bind_none]⟩
def specG_f (fuel : Nat) (a0 a1 : GV) : Option R :=
  (specG_l0 fuel
      [a1, GV.list 0 (cellG true a0 4).asZ (cellG true a0 4).asList (cellG true a0 4).asSp, GV.int (↑(cellG true a0 4).asList.length : Int), GV.int 0, GV.int 0, GV.int 0,
        GV.int 0, GV.int 0, GV.int 0, GV.int 0]).bind
  fun r0 =>
  bif r0.fst.beq 0 then some [GV.agg [nth r0.snd 1, nth r0.snd 2, nth r0.snd 3, nth r0.snd 4, nth r0.snd 5, nth r0.snd 6], nth r0.snd 0]
  else some [GV.agg [GV.int 0, GV.int 0, GV.int 0, GV.int 0, GV.int 0, GV.int 0], GV.bool false]
theorem specG_q (fuel : Nat) (a0 a1 : GV) : gexec specG_E (LSc (specG_e0 fuel) fuel (LZ)) Try.f28.ntmps Try.f28.results.toList specG_sg specG_c [a0, a1] = specG_f fuel a0 a1 := by kernel_rfl
theorem specG_calls (hS : SpecsOk Try.prog tl specG_E.sp) (fuel : Nat) : CallsOk Try.prog tl 28 specG_sg (gexec specG_E (LSc (specG_e0 fuel) fuel (LZ)) Try.f28.ntmps Try.f28.results.toList specG_sg specG_c) :=
  gexec_calls (E := specG_E) hP hS Try.func28 (by kernel_rfl) (by kernel_rfl) (fun W => LSc_ok hP hS (LZ_ok) (specG_k0 fuel) fuel)
def specI (l : List GV) (n : Int) : Nat := l.findIdx fun g => (cellG true g 0).asInt == n
def specF (l : List GV) (n : Int) : Bool := decide (specI l n < l.length)
def specV (l : List GV) (n : Int) : GV := bif specF l n then nth l (specI l n) else .agg [.int 0, .int 0, .int 0, .int 0, .int 0, .int 0]
def specG_s : List GV → Option R
  | [a0, a1] => bif Nat.ble (cellG true a0 4).asList.length 1000000000 then some [specV (cellG true a0 4).asList a1.asInt, .bool (specF (cellG true a0 4).asList a1.asInt)] else none
  | _ => none
theorem specG_run {l : List GV} (hl : l.length ≤ 1000000000) (a1 g1 : GV) (h1 : g1.asList = l) {N : Nat} (hN : l.length < N) :
    specG_l0 N [a1, g1, .int (l.length : Nat), .int 0, .int 0, .int 0, .int 0, .int 0, .int 0, .int 0] =
      some (bif specF l a1.asInt then (0, [.bool true, cellG true (nth l (specI l a1.asInt)) 0, cellG true (nth l (specI l a1.asInt)) 1, cellG true (nth l (specI l a1.asInt)) 2, cellG true (nth l (specI l a1.asInt)) 3, cellG true (nth l (specI l a1.asInt)) 4, cellG true (nth l (specI l a1.asInt)) 5])
        else (1, [.int 0, .int 0, .int 0, .int 0, .int 0, .int 0])) := by
  have key : ∀ m i, i + m = l.length → (∀ j, j < i → ((cellG true (nth l j) 0).asInt == a1.asInt) = false) → ∀ M, m < M → loopR (specG_e0 N).step M [a1, g1, .int (l.length : Nat), .int (i : Nat), .int 0, .int 0, .int 0, .int 0, .int 0, .int 0] =
      some (bif specF l a1.asInt then (0, [.bool true, cellG true (nth l (specI l a1.asInt)) 0, cellG true (nth l (specI l a1.asInt)) 1, cellG true (nth l (specI l a1.asInt)) 2, cellG true (nth l (specI l a1.asInt)) 3, cellG true (nth l (specI l a1.asInt)) 4, cellG true (nth l (specI l a1.asInt)) 5])
        else (1, [.int 0, .int 0, .int 0, .int 0, .int 0, .int 0])) := by
    intro m
    induction m with
    | zero =>
      intro i hi hno M hM
      obtain ⟨M, rfl⟩ : ∃ M', M = M' + 1 := ⟨M - 1, by omega⟩
      have : i = l.length := by omega
      subst this
      simp only [loopR]
      rw [specG_t0]
      unfold specG_b0
      refine (cF (show ¬ ((l.length : Nat) : Int) < ((l.length : Nat) : Int) by omega) _ _).trans ?_
      have hx : specI l a1.asInt = l.length := by
        unfold specI
        rw [List.findIdx_eq_length]
        intro x hx
        obtain ⟨j, hj, rfl⟩ := List.mem_iff_getElem.1 hx
        have := hno j hj
        unfold nth at this
        simpa [List.getD_eq_getElem?_getD, List.getElem?_eq_getElem hj] using this
      have : specF l a1.asInt = false := by unfold specF; rw [hx]; simp
      rw [this]; rfl
    | succ m ih =>
      intro i hi hno M hM
      obtain ⟨M, rfl⟩ : ∃ M', M = M' + 1 := ⟨M - 1, by omega⟩
      have hlt : i < l.length := by omega
      simp only [loopR]
      rw [specG_t0]
      unfold specG_b0
      refine (cT (show ((i : Nat) : Int) < ((l.length : Nat) : Int) by omega) _ _).trans ?_
      refine (bT (by rw [h1]; exact inRange_nat hlt) _ _).trans ?_
      have hn : nth g1.all (GV.int (i : Int)).asInt.toNat = nth l i := by
        rw [← h1]; simp only [asInt_int, Int.toNat_natCast]; exact nth_all (by rw [h1]; exact hlt)
      rw [hn]
      cases hc : (cellG true (nth l i) 0).asInt == a1.asInt with
      | true =>
        have hx : specI l a1.asInt = i := by
          unfold specI
          rw [List.findIdx_eq hlt]
          constructor
          · unfold nth at hc
            simpa [List.getD_eq_getElem?_getD, List.getElem?_eq_getElem hlt] using hc
          · intro j hj
            have := hno j hj
            unfold nth at this
            simpa [List.getD_eq_getElem?_getD, List.getElem?_eq_getElem (show j < l.length by omega)] using this
        have : specF l a1.asInt = true := by unfold specF; rw [hx]; simpa using hlt
        rw [this, hx]; rfl
      | false =>
        simp only [cond_false, asInt_int]
        rw [w64 (by omega) (by omega)]
        exact ih (i + 1) (by omega) (fun j hj => by
          by_cases h : j = i
          · rw [h]; exact hc
          · exact hno j (by omega)) M (by omega)
  exact key l.length 0 (by omega) (fun j hj => by omega) N hN
theorem specG_ok : CallsOk Try.prog tl 28 specG_sg specG_s := (specG_calls specs_nil 1000000001).ofE fun gs outs h => by
  rcases gs with _ | ⟨a0, _ | ⟨a1, _ | ⟨a2, t⟩⟩⟩ <;> first | (cases h; done) | skip
  rw [specG_q 1000000001]
  simp only [specG_s] at h
  cases hb : Nat.ble (cellG true a0 4).asList.length 1000000000 with
  | false => rw [hb] at h; cases h
  | true =>
    rw [hb] at h
    have hs := Nat.le_of_ble_eq_true hb
    simp only [cond_true, Option.some.injEq] at h
    subst h
    unfold specG_f
    rw [specG_run hs a1 (.list 0 (cellG true a0 4).asZ (cellG true a0 4).asList (cellG true a0 4).asSp) rfl (by omega)]
    unfold specV
    cases hf : specF (cellG true a0 4).asList a1.asInt with
    | true =>
      refine ⟨_, rfl, ?_⟩
      intro q t ms hq j hj
      match q with
      | 0 =>
        simp only [specG_sg, List.getElem?_cons_zero, Option.some.injEq, Prod.mk.injEq] at hq
        obtain ⟨rfl, rfl⟩ := hq
        have hk : ttOf tl 33 = ⟨[.int .i64, .int .i64, .int .i64, .int .i64, .int .i64, .int .i64], true, 48, .struct [(0, 3), (1, 3), (2, 3), (3, 3), (4, 3), (5, 3)]⟩ := by kernel_rfl
        rw [hk] at hj ⊢
        match j, hj with
        | 0, _ => rfl
        | 1, _ => rfl
        | 2, _ => rfl
        | 3, _ => rfl
        | 4, _ => rfl
        | 5, _ => rfl
      | 1 =>
        simp only [specG_sg, List.getElem?_cons_succ, List.getElem?_cons_zero, Option.some.injEq, Prod.mk.injEq] at hq
        obtain ⟨rfl, rfl⟩ := hq
        unfold eqK; split <;> rfl
      | q + 2 => simp [specG_sg] at hq
    | false => exact ⟨_, rfl, EqR.refl⟩

/-! clone. -/
def clone_sg : FSig := FSig.mk [28] [(28, [2])] false
noncomputable def clone_c : Code := Try.f33.body.getD .skip
def clone_E : Env := ⟨tl, [], dirsOf [], dirsOf [], dirsOf [], joinsOf tl []⟩
def clone_f (fuel : Nat) (a0 : GV) : Option R :=
  bif a0.asZ then bif a0.all.isEmpty then some [GV.list 2 true [] []] else bif lim tl 3 0 a0.asList.length then some [GV.list 2 false ([] ++ a0.asList) []] else none else none
theorem clone_q (fuel : Nat) (a0 : GV) : gexec clone_E (LZ) Try.f33.ntmps Try.f33.results.toList clone_sg clone_c [a0] = clone_f fuel a0 := by kernel_rfl
theorem clone_calls (hS : SpecsOk Try.prog tl clone_E.sp) (fuel : Nat) : CallsOk Try.prog tl 33 clone_sg (gexec clone_E (LZ) Try.f33.ntmps Try.f33.results.toList clone_sg clone_c) :=
  gexec_calls (E := clone_E) hP hS Try.func33 (by kernel_rfl) (by kernel_rfl) (fun W => LZ_ok)
def clone_s : List GV → Option R
  | [a0] => bif a0.asZ && Nat.ble a0.asList.length 1000000000 then some [.list 2 a0.all.isEmpty a0.asList []] else none
  | _ => none
theorem lim3 {n m : Nat} (h : n + m ≤ LIM) : lim tl 3 n m = true := lim_ok (x := ⟨[.int .i64], false, 8, .int .i64⟩) (by kernel_rfl) (by decide) h
theorem clone_ok : CallsOk Try.prog tl 33 clone_sg clone_s := (clone_calls specs_nil 0).of fun gs outs h => by
  rcases gs with _ | ⟨a0, _ | ⟨a1, t⟩⟩ <;> first | (cases h; done) | skip
  rw [clone_q 0]
  simp only [clone_s] at h
  cases hb : a0.asZ && Nat.ble a0.asList.length 1000000000 with
  | false => rw [hb] at h; cases h
  | true =>
    rw [hb] at h
    rw [← h]
    simp only [Bool.and_eq_true] at hb
    have hs := Nat.le_of_ble_eq_true hb.2
    unfold clone_f
    rw [hb.1]
    cases he : a0.all.isEmpty with
    | true =>
      have : a0.asList = [] := by
        have := List.isEmpty_iff.1 he
        unfold GV.all at this
        exact (List.append_eq_nil_iff.1 this).1
      rw [this]; rfl
    | false =>
      rw [lim3 (by unfold LIM; omega)]
      rfl

end Go.Proofs.Ytgneobkmmmpbiaa
