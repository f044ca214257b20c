/- How long a message can be. -/
import Derived.Test.YtgneobkmmmpbiaaFj
namespace Go.Proofs.Ytgneobkmmmpbiaa
open Go Go.Proofs Go.Eng
set_option linter.unusedVariables false
set_option linter.unusedSimpArgs false

/-! most. -/
def most_sg : FSig := FSig.mk [26, 9] [(3, []), (35, [])] false
noncomputable def most_c : Code := Try.f12.body.getD .skip
def most_E : Env := ⟨tl, [(26, ruleG_sg, ruleG_s), (8, width_sg, width_s), (27, concat_sg, concat_s), (28, specG_sg, specG_s), (7, prefix_sg, prefix_s)], dirsOf [(1, [.freeze 6])], dirsOf [(0, [Dir.only [2, 38], Dir.sort [2, 38], Dir.keep [2, 8, 9, 10, 38, 39, 40]])], dirsOf [(0, [Dir.only [], Dir.sort [], Dir.keep [8, 9, 10]])], joinsOf tl []⟩
def most_sh0 : Shp := Shp.mk 81
  [(2, ASh.one (SSh.ptr 2 [(0, 0)])), (8, ASh.one (SSh.s (CK.int IntKind.i64))), (9, ASh.one (SSh.s (CK.int IntKind.i64))), (10, ASh.one (SSh.s CK.bool)),
    (38, ASh.one (SSh.ref 3 38)), (39, ASh.one (SSh.s (CK.int IntKind.i64))), (40, ASh.one (SSh.s (CK.int IntKind.i64)))]
  [(2, RSh.rowA 2 26 [0, 0, 0, 0, 1, 1, 0]), (38, RSh.val 2 3)]
def most_xs0 : Outs := [(Ex.exit 0, Shp.mk 81 [(8, ASh.one (SSh.s (CK.int IntKind.i64))), (9, ASh.one (SSh.s (CK.int IntKind.i64))), (10, ASh.one (SSh.s CK.bool))] [])]
def most_b0 {β : Type} (fuel : Nat) (g0 g1 g2 g3 g4 g5 g6 g7 g8 g9 g10 g11 g12 : GV) (kn : List GV → Option β) (kx : Nat → List GV → Option β) : Option β :=
  bif decide (g4.asInt < g3.asInt) then
  bif inRange g4.asInt g12.asList.length && true && true && true then
    (specG_s
          [GV.agg [g5, g6, g7, g8, GV.list 0 g9.asZ g9.asList g9.asSp, GV.list 0 g10.asZ g10.asList g10.asSp, g11], nth (GV.list 2 g12.asZ g12.asList g12.asSp).all g4.asInt.toNat]).bind
      fun o2 =>
      bif !(nth o2 1).asBool then
        kn [g0, g1, g2, g3, GV.int (IntKind.i64.wrap (g4.asInt + 1)), g5, g6, g7, g8, GV.list 0 g9.asZ g9.asList g9.asSp, GV.list 0 g10.asZ g10.asList g10.asSp, g11, GV.list 2 g12.asZ g12.asList g12.asSp]
      else
        (prefix_s [cellG true (nth o2 0) 4, cellG true (nth o2 0) 3, GV.int 0]).bind fun o3 =>
          kn
            [g0,
              GV.int
                (IntKind.i64.wrap (g1.asInt + IntKind.i64.wrap ((↑(nth o3 0).asStr.size : Int) + widthZ (cellG true (nth o2 0) 2).asInt (cellG true (nth o2 0) 5).asInt))),
              GV.bool (bif g2.asBool then true else decide ((nth (GV.list 2 g12.asZ g12.asList g12.asSp).all g4.asInt.toNat).asInt > 64)), g3, GV.int (IntKind.i64.wrap (g4.asInt + 1)), g5, g6, g7, g8,
              GV.list 0 g9.asZ g9.asList g9.asSp, GV.list 0 g10.asZ g10.asList g10.asSp, g11, GV.list 2 g12.asZ g12.asList g12.asSp]
  else none
else kx 0 [g0, g1, g2]
def most_e0 (fuel : Nat) : LEnt := ⟨0, most_sh0, most_xs0, fun gs kn kx => most_b0 fuel (nth gs 0) (nth gs 1) (nth gs 2) (nth gs 3) (nth gs 4) (nth gs 5) (nth gs 6) (nth gs 7) (nth gs 8) (nth gs 9) (nth gs 10) (nth gs 11) (nth gs 12) kn kx⟩
def most_l0 (fuel : Nat) (gs : List GV) : Option (Nat × List GV) := loopR (most_e0 fuel).step fuel gs
theorem most_t0 {β : Type} (fuel : Nat) (g0 g1 g2 g3 g4 g5 g6 g7 g8 g9 g10 g11 g12 : GV) (kn : List GV → Option β) (kx : Nat → List GV → Option β) : (most_e0 fuel).step [g0, g1, g2, g3, g4, g5, g6, g7, g8, g9, g10, g11, g12] kn kx = most_b0 fuel g0 g1 g2 g3 g4 g5 g6 g7 g8 g9 g10 g11 g12 kn kx := rfl
theorem most_k0 (fuel : Nat) : StepOk most_E most_c (LZ) (most_e0 fuel) :=
  ⟨by kernel_rfl, fun gs kn kx => by kernel_rfl, fun f gs kn kx => by simp only [most_e0, most_b0, bind_cond, Option.bind_assoc, Option.bind_none]⟩
def most_f (fuel : Nat) (a0 a1 : GV) : Option R :=
  (ruleG_s
      [GV.agg
          [cellG true a0 0, cellG true a0 1, cellG true a0 2, cellG true a0 3, GV.list 0 (cellG true a0 4).asZ (cellG true a0 4).asList (cellG true a0 4).asSp,
            GV.list 0 (cellG true a0 5).asZ (cellG true a0 5).asList (cellG true a0 5).asSp, cellG true a0 6],
        a1]).bind
  fun o0 =>
  bif !(nth o0 1).asBool then some [GV.int 0, GV.int 110]
  else
    bif (cellG true a0 3).asInt == 5 then
      (concat_s
            [GV.list 2 true
                [GV.list 0 (cellG true (nth o0 0) 1).asZ (cellG true (nth o0 0) 1).asList (cellG true (nth o0 0) 1).asSp,
                  GV.list 0 (cellG true (nth o0 0) 2).asZ (cellG true (nth o0 0) 2).asList (cellG true (nth o0 0) 2).asSp]
                []]).bind
        fun o1 =>
        (most_l0 fuel
              [GV.int 8, GV.int (IntKind.i64.wrap (widthZ (cellG true a0 2).asInt 4 + 8)), GV.bool false, GV.int (↑(nth o1 0).asList.length : Int), GV.int 0,
                cellG true a0 0, cellG true a0 1, cellG true a0 2, cellG true a0 3, GV.list 0 (cellG true a0 4).asZ (cellG true a0 4).asList (cellG true a0 4).asSp,
                GV.list 0 (cellG true a0 5).asZ (cellG true a0 5).asList (cellG true a0 5).asSp, cellG true a0 6,
                GV.list 2 (nth o1 0).asZ (nth o1 0).asList (nth o1 0).asSp]).bind
          fun r4 => bif (nth r4.snd 2).asBool then some [GV.int (IntKind.i64.wrap ((nth r4.snd 1).asInt + (nth r4.snd 0).asInt)), GV.int 0] else some [nth r4.snd 1, GV.int 0]
    else
      (concat_s
            [GV.list 2 true
                [GV.list 0 (cellG true (nth o0 0) 1).asZ (cellG true (nth o0 0) 1).asList (cellG true (nth o0 0) 1).asSp,
                  GV.list 0 (cellG true (nth o0 0) 2).asZ (cellG true (nth o0 0) 2).asList (cellG true (nth o0 0) 2).asSp]
                []]).bind
        fun o5 =>
        (most_l0 fuel
              [GV.int 16, GV.int (IntKind.i64.wrap (widthZ (cellG true a0 2).asInt 4 + 16)), GV.bool false, GV.int (↑(nth o5 0).asList.length : Int), GV.int 0,
                cellG true a0 0, cellG true a0 1, cellG true a0 2, cellG true a0 3, GV.list 0 (cellG true a0 4).asZ (cellG true a0 4).asList (cellG true a0 4).asSp,
                GV.list 0 (cellG true a0 5).asZ (cellG true a0 5).asList (cellG true a0 5).asSp, cellG true a0 6,
                GV.list 2 (nth o5 0).asZ (nth o5 0).asList (nth o5 0).asSp]).bind
          fun r6 => bif (nth r6.snd 2).asBool then some [GV.int (IntKind.i64.wrap ((nth r6.snd 1).asInt + (nth r6.snd 0).asInt)), GV.int 0] else some [nth r6.snd 1, GV.int 0]
theorem most_q (fuel : Nat) (a0 a1 : GV) : gexec most_E (LSc (most_e0 fuel) fuel (LZ)) Try.f12.ntmps Try.f12.results.toList most_sg most_c [a0, a1] = most_f fuel a0 a1 := by kernel_rfl
theorem most_calls (hS : SpecsOk Try.prog tl most_E.sp) (fuel : Nat) : CallsOk Try.prog tl 12 most_sg (gexec most_E (LSc (most_e0 fuel) fuel (LZ)) Try.f12.ntmps Try.f12.results.toList most_sg most_c) :=
  gexec_calls (E := most_E) hP hS Try.func12 (by kernel_rfl) (by kernel_rfl) (fun W => LSc_ok hP hS (LZ_ok) (most_k0 fuel) fuel)
/-- The bytes of a field's length. -/
def preSize (s : GV) : Int := ((bif wideZ (cellG true s 4).asInt (cellG true s 3).asInt == 0 then 0 else (prefixL (cellG true s 4).asInt (cellG true s 3).asInt 0).length : Nat) : Int)
def preOk (s : GV) : Bool := wideZ (cellG true s 4).asInt (cellG true s 3).asInt == 0 || prefixOk (cellG true s 4).asInt (cellG true s 3).asInt 0
/-- The bytes of a field at most. -/
def fieldSize (s : GV) : Int := IntKind.i64.wrap (preSize s + widthZ (cellG true s 2).asInt (cellG true s 5).asInt)
def mostStep (fl : List GV) (x : Int × Bool) (k : GV) : Int × Bool := bif specF fl k.asInt then (IntKind.i64.wrap (x.1 + fieldSize (specV fl k.asInt)), bif x.2 then true else decide (k.asInt > 64)) else x
def mostOk (fl ks : List GV) : Bool := ks.all fun k => !specF fl k.asInt || preOk (specV fl k.asInt)
def halfZ2 (e : Int) : Int := bif e == 5 then 8 else 16
def ruleKs (g : GV) : List GV := (cellG true g 1).asList ++ (cellG true g 2).asList
def mostR (mtiEnc mapEnc : Int) (fl ks : List GV) : Int × Bool := ks.foldl (mostStep fl) (IntKind.i64.wrap (widthZ mtiEnc 4 + halfZ2 mapEnc), false)
def mostZ (mtiEnc mapEnc : Int) (fl ks : List GV) : Int := bif (mostR mtiEnc mapEnc fl ks).2 then IntKind.i64.wrap ((mostR mtiEnc mapEnc fl ks).1 + halfZ2 mapEnc) else (mostR mtiEnc mapEnc fl ks).1
def most_s : List GV → Option R
  | [a0, a1] => bif Nat.ble (cellG true a0 4).asList.length 1000000000 && Nat.ble (cellG true a0 5).asList.length 1000000000 then
      bif ruleF (cellG true a0 5).asList a1.asStr then
        bif ruleOk (nth (cellG true a0 5).asList (ruleI (cellG true a0 5).asList a1.asStr)) &&
            (Nat.ble (ruleKs (nth (cellG true a0 5).asList (ruleI (cellG true a0 5).asList a1.asStr))).length 1000000000 && mostOk (cellG true a0 4).asList (ruleKs (nth (cellG true a0 5).asList (ruleI (cellG true a0 5).asList a1.asStr)))) then
          some [.int (mostZ (cellG true a0 2).asInt (cellG true a0 3).asInt (cellG true a0 4).asList (ruleKs (nth (cellG true a0 5).asList (ruleI (cellG true a0 5).asList a1.asStr)))), .int 0] else none
      else some [.int 0, .int 110]
    else none
  | _ => none
theorem prefix_size {e d : GV} (h : (wideZ e.asInt d.asInt == 0 || prefixOk e.asInt d.asInt 0) = true) : ∃ s : ByteArray, ∃ x, prefix_s [e, d, .int 0] = some [.str s, x] ∧ s.size = (bif wideZ e.asInt d.asInt == 0 then 0 else (prefixL e.asInt d.asInt 0).length) := by
  simp only [prefix_s, asInt_int]
  cases hw : wideZ e.asInt d.asInt == 0 with
  | true => exact ⟨⟨#[]⟩, .int 1, rfl, rfl⟩
  | false =>
    rw [hw, Bool.false_or] at h
    rw [h]
    exact ⟨_, _, rfl, by rw [bytesStr_size]; rfl⟩
theorem most_run {g0 g5 g6 g7 g8 g9 g10 g11 : GV} {fl ks : List GV} {z : Bool} (h9 : g9.asList = fl) (hfl : fl.length ≤ 1000000000) (hks : ks.length ≤ 1000000000) (hok : mostOk fl ks = true) (n0 : Int) {N : Nat} (hN : ks.length < N) :
    most_l0 N [g0, .int n0, .bool false, .int (ks.length : Nat), .int 0, g5, g6, g7, g8, .list 0 g9.asZ g9.asList g9.asSp, .list 0 g10.asZ g10.asList g10.asSp, g11, .list 2 z ks []] =
      some (0, [g0, .int (ks.foldl (mostStep fl) (n0, false)).1, .bool (ks.foldl (mostStep fl) (n0, false)).2]) := by
  let X : Nat → Int × Bool := fun i => (ks.take i).foldl (mostStep fl) (n0, false)
  have key := loop_done (step := (most_e0 N).step) (S := fun i => [g0, .int (X i).1, .bool (X i).2, .int (ks.length : Nat), .int (i : Nat), g5, g6, g7, g8, .list 0 g9.asZ g9.asList g9.asSp, .list 0 g10.asZ g10.asList g10.asSp, g11, .list 2 z ks []]) (n := ks.length) (q := 0) (zs := [g0, .int (X ks.length).1, .bool (X ks.length).2]) (fun i hi kn kx => by
      rw [most_t0]
      unfold most_b0
      refine (cT (show ((i : Nat) : Int) < ((ks.length : Nat) : Int) by omega) _ _).trans ?_
      refine (bT (by simp only [asInt_int, asList_list, Bool.and_true]; exact inRange_nat hi) _ _).trans ?_
      have hn : nth (GV.list 2 (GV.list 2 z ks []).asZ (GV.list 2 z ks []).asList (GV.list 2 z ks []).asSp).all (GV.int (i : Int)).asInt.toNat = nth ks i := by
        simp only [asInt_int, Int.toNat_natCast, all_list, asList_list]; exact nth_append_left hi
      rw [hn]
      have hsp : specG_s [GV.agg [g5, g6, g7, g8, GV.list 0 (GV.list 0 g9.asZ g9.asList g9.asSp).asZ (GV.list 0 g9.asZ g9.asList g9.asSp).asList (GV.list 0 g9.asZ g9.asList g9.asSp).asSp, GV.list 0 (GV.list 0 g10.asZ g10.asList g10.asSp).asZ (GV.list 0 g10.asZ g10.asList g10.asSp).asList (GV.list 0 g10.asZ g10.asList g10.asSp).asSp, g11], nth ks i] =
          some [specV fl (nth ks i).asInt, .bool (specF fl (nth ks i).asInt)] := by
        simp only [specG_s, cellG_agg, nth_succ, nth_zero, asList_list, h9]
        exact bT (Nat.ble_eq_true_of_le hfl) _ _
      rw [hsp]
      simp only [Option.bind_some, nth_zero, nth_succ, asBool_bool, asInt_int]
      have hX : X (i + 1) = mostStep fl (X i) (nth ks i) := by
        show (ks.take (i + 1)).foldl (mostStep fl) (n0, false) = _
        rw [take_snoc hi, List.foldl_append]; rfl
      have hm : specF fl (nth ks i).asInt = true → preOk (specV fl (nth ks i).asInt) = true := by
        intro hf
        have := List.all_eq_true.1 hok _ (nth_mem hi)
        rw [hf] at this; simpa using this
      rw [w64 (n := (i : Int) + 1) (by omega) (by omega)]
      unfold mostStep at hX
      cases hf : specF fl (nth ks i).asInt with
      | false =>
        rw [hf] at hX
        simp only [cond_false] at hX
        rw [hX]
        rfl
      | true =>
        rw [hf] at hX
        simp only [cond_true] at hX
        obtain ⟨s, x, hp, hsz⟩ := prefix_size (hm hf)
        rw [hp, hX]
        simp only [Option.bind_some, nth_zero, asStr_str, hsz, Bool.not_true, cond_false]
        rfl) (fun kn kx => by
      rw [most_t0]
      unfold most_b0
      exact (cF (show ¬ ((ks.length : Nat) : Int) < ((ks.length : Nat) : Int) by omega) _ _)) hN
  have hX : X ks.length = ks.foldl (mostStep fl) (n0, false) := by show (ks.take ks.length).foldl _ _ = _; rw [List.take_length]
  rw [hX] at key
  exact key
theorem most_ok : CallsOk Try.prog tl 12 most_sg most_s := (most_calls (specs_cons (specs_cons (specs_cons (specs_cons (specs_cons specs_nil prefix_ok Try.call7) specG_ok Try.call28) concat_ok Try.call27) width_ok Try.call8) ruleG_ok Try.call26) 1000000001).of fun gs outs h => by
  rcases gs with _ | ⟨a0, _ | ⟨a1, _ | ⟨a2, t⟩⟩⟩ <;> first | (cases h; done) | skip
  rw [most_q 1000000001]
  simp only [most_s] at h
  generalize hfl : (cellG true a0 4).asList = fl at h
  generalize hrl : (cellG true a0 5).asList = rl at h
  cases hb : Nat.ble fl.length 1000000000 && Nat.ble rl.length 1000000000 with
  | false => rw [hb] at h; cases h
  | true =>
    rw [hb] at h
    simp only [Bool.and_eq_true, cond_true] at hb h
    have h1 := Nat.le_of_ble_eq_true hb.1
    unfold most_f
    have hr : ruleG_s [GV.agg [cellG true a0 0, cellG true a0 1, cellG true a0 2, cellG true a0 3, GV.list 0 (cellG true a0 4).asZ (cellG true a0 4).asList (cellG true a0 4).asSp,
            GV.list 0 (cellG true a0 5).asZ (cellG true a0 5).asList (cellG true a0 5).asSp, cellG true a0 6], a1] =
        bif ruleF rl a1.asStr then bif ruleOk (nth rl (ruleI rl a1.asStr)) then some [ruleV (nth rl (ruleI rl a1.asStr)), .bool true] else none else some [noRule, .bool false] := by
      simp only [ruleG_s, cellG_agg, nth_succ, nth_zero, asList_list, hrl]
      exact bT hb.2 _ _
    rw [hr]
    cases hf : ruleF rl a1.asStr with
    | false =>
      rw [hf] at h
      rw [← h]
      rfl
    | true =>
      rw [hf] at h
      simp only [cond_true] at h ⊢
      generalize nth rl (ruleI rl a1.asStr) = g at h ⊢
      cases hok : ruleOk g && (Nat.ble (ruleKs g).length 1000000000 && mostOk fl (ruleKs g)) with
      | false => rw [hok] at h; cases h
      | true =>
        rw [hok] at h
        simp only [Bool.and_eq_true] at hok
        obtain ⟨k1, k2, k3⟩ := hok
        have k2 := Nat.le_of_ble_eq_true k2
        rw [← h, k1]
        have hc : concat_s [GV.list 2 true [GV.list 0 (cellG true (ruleV g) 1).asZ (cellG true (ruleV g) 1).asList (cellG true (ruleV g) 1).asSp, GV.list 0 (cellG true (ruleV g) 2).asZ (cellG true (ruleV g) 2).asList (cellG true (ruleV g) 2).asSp] []] =
            some [.list 2 (decide (((ruleKs g).length : Int) ≤ 0)) (ruleKs g) []] := by
          have e : flatL [GV.list 0 (cellG true (ruleV g) 1).asZ (cellG true (ruleV g) 1).asList (cellG true (ruleV g) 1).asSp, GV.list 0 (cellG true (ruleV g) 2).asZ (cellG true (ruleV g) 2).asList (cellG true (ruleV g) 2).asSp] = ruleKs g := by
            simp [flatL, ruleV, ruleKs, cloneG]
          simp only [concat_s, asList_list, concatOk, e]
          exact bT (by rw [Nat.ble_eq_true_of_le k2]; rfl) _ _
        have run := fun (g0 : GV) (n0 : Int) => most_run (g0 := g0) (g5 := cellG true a0 0) (g6 := cellG true a0 1) (g7 := cellG true a0 2) (g8 := cellG true a0 3) (g9 := cellG true a0 4) (g10 := cellG true a0 5) (g11 := cellG true a0 6) (z := decide (((ruleKs g).length : Int) ≤ 0)) hfl h1 k2 k3 n0 (N := 1000000001) (by omega)
        simp only [cond_true, Option.bind_some, nth_succ, nth_zero, asBool_bool, Bool.not_true, cond_false]
        rw [hc]
        simp only [Option.bind_some, nth_zero, asList_list, asZ_list, asSp_list]
        unfold mostZ mostR halfZ2
        cases (cellG true a0 3).asInt == 5 with
        | true =>
          simp only [cond_true]
          rw [run]
          simp only [Option.bind_some, nth_zero, nth_succ, asBool_bool, asInt_int]
          cases (List.foldl (mostStep fl) (IntKind.i64.wrap (widthZ (cellG true a0 2).asInt 4 + 8), false) (ruleKs g)).2 <;> rfl
        | false =>
          simp only [cond_false]
          rw [run]
          simp only [Option.bind_some, nth_zero, nth_succ, asBool_bool, asInt_int]
          cases (List.foldl (mostStep fl) (IntKind.i64.wrap (widthZ (cellG true a0 2).asInt 4 + 16), false) (ruleKs g)).2 <;> rfl

end Go.Proofs.Ytgneobkmmmpbiaa
