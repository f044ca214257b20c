/- Lists put together; what a type must and may have. -/
import Derived.Test.YtgneobkmmmpbiaaFi
namespace Go.Proofs.Ytgneobkmmmpbiaa
open Go Go.Proofs Go.Eng
set_option linter.unusedVariables false
set_option linter.unusedSimpArgs false

theorem find_before {l : List GV} {p : GV → Bool} {j : Nat} (h : j < l.findIdx p) : p (nth l j) = false := by
  have hlt : j < l.length := Nat.lt_of_lt_of_le h List.findIdx_le_length
  have := List.not_of_lt_findIdx h
  unfold nth
  simpa [List.getD_eq_getElem?_getD, List.getElem?_eq_getElem hlt] using this
theorem find_at {l : List GV} {p : GV → Bool} (h : l.findIdx p < l.length) : p (nth l (l.findIdx p)) = true := by
  have := List.findIdx_getElem (w := h)
  unfold nth
  simpa [List.getD_eq_getElem?_getD, List.getElem?_eq_getElem h] using this

/-! ruleG. -/
def ruleG_sg : FSig := FSig.mk [26, 9] [(30, [0, 2, 2]), (4, [])] false
noncomputable def ruleG_c : Code := Try.f26.body.getD .skip
def ruleG_E : Env := ⟨tl, [(33, clone_sg, clone_s)], dirsOf [], dirsOf [(0, [Dir.only [4], Dir.sort [4], Dir.keep [1, 4, 9, 10, 11]])], dirsOf [(0, [Dir.only [4], Dir.sort [4], Dir.keep [4, 5]])], joinsOf tl []⟩
def ruleG_sh0 : Shp := Shp.mk 30
  [(1, ASh.one (SSh.s CK.str)), (4, ASh.one (SSh.ptr 4 [(0, 0)])), (9, ASh.one (SSh.s (CK.slice 30))), (10, ASh.one (SSh.s (CK.int IntKind.i64))),
    (11, ASh.one (SSh.s (CK.int IntKind.i64)))]
  [(4, RSh.rowA 2 30 [0, 3, 3])]
def ruleG_xs0 : Outs := [(Ex.ret, Shp.mk 30 [(4, ASh.one (SSh.ptr 4 [(0, 0)])), (5, ASh.one (SSh.s CK.bool))] [(4, RSh.rowA 2 30 [0, 2, 2])]),
  (Ex.exit 0, Shp.mk 30 [(4, ASh.one (SSh.ptr 4 [(0, 0)])), (5, ASh.one SSh.dead)] [(4, RSh.rowA 2 30 [0, 3, 3])])]
def ruleG_b0 {β : Type} (fuel : Nat) (g0 g1 g2 g3 g4 g5 g6 : GV) (kn : List GV → Option β) (kx : Nat → List GV → Option β) : Option β :=
  bif decide (g3.asInt < g2.asInt) then
  bif inRange g3.asInt g1.asList.length then
    bif strEq (cellG true (nth g1.all g3.asInt.toNat) 0).asStr g0.asStr then
      (clone_s
            [GV.list 0 (cellG true (nth g1.all g3.asInt.toNat) 1).asZ (cellG true (nth g1.all g3.asInt.toNat) 1).asList (cellG true (nth g1.all g3.asInt.toNat) 1).asSp]).bind
        fun o0 =>
        (clone_s
              [GV.list 0 (cellG true (nth g1.all g3.asInt.toNat) 2).asZ (cellG true (nth g1.all g3.asInt.toNat) 2).asList (cellG true (nth g1.all g3.asInt.toNat) 2).asSp]).bind
          fun o1 =>
          kx 0
            [GV.bool true, cellG true (nth g1.all g3.asInt.toNat) 0, GV.list 2 (nth o0 0).asZ (nth o0 0).asList (nth o0 0).asSp,
              GV.list 2 (nth o1 0).asZ (nth o1 0).asList (nth o1 0).asSp]
    else kn [g0, g1, g2, GV.int (IntKind.i64.wrap (g3.asInt + 1)), g4, GV.list 2 g5.asZ g5.asList [], GV.list 2 g6.asZ g6.asList []]
  else none
else kx 1 [g4, GV.list 2 g5.asZ g5.asList [], GV.list 2 g6.asZ g6.asList []]
def ruleG_e0 (fuel : Nat) : LEnt := ⟨0, ruleG_sh0, ruleG_xs0, fun gs kn kx => ruleG_b0 fuel (nth gs 0) (nth gs 1) (nth gs 2) (nth gs 3) (nth gs 4) (nth gs 5) (nth gs 6) kn kx⟩
def ruleG_l0 (fuel : Nat) (gs : List GV) : Option (Nat × List GV) := loopR (ruleG_e0 fuel).step fuel gs
theorem ruleG_t0 {β : Type} (fuel : Nat) (g0 g1 g2 g3 g4 g5 g6 : GV) (kn : List GV → Option β) (kx : Nat → List GV → Option β) : (ruleG_e0 fuel).step [g0, g1, g2, g3, g4, g5, g6] kn kx = ruleG_b0 fuel g0 g1 g2 g3 g4 g5 g6 kn kx := rfl
theorem ruleG_k0 (fuel : Nat) : StepOk ruleG_E ruleG_c (LZ) (ruleG_e0 fuel) :=
  ⟨by kernel_rfl, fun gs kn kx => by kernel_rfl, fun f gs kn kx => by simp only [ruleG_e0, ruleG_b0, bind_cond, Option.bind_assoc, Option.bind_none]⟩
def ruleG_f (fuel : Nat) (a0 a1 : GV) : Option R :=
  (ruleG_l0 fuel
      [a1, GV.list 0 (cellG true a0 5).asZ (cellG true a0 5).asList (cellG true a0 5).asSp, GV.int (↑(cellG true a0 5).asList.length : Int), GV.int 0, GV.str (ByteArray.mk #[]),
        GV.list 2 true [] [], GV.list 2 true [] []]).bind
  fun r2 =>
  bif r2.fst.beq 0 then
    some
      [GV.agg
          [nth r2.snd 1, GV.list 2 (nth r2.snd 2).asZ (nth r2.snd 2).asList (nth r2.snd 2).asSp, GV.list 2 (nth r2.snd 3).asZ (nth r2.snd 3).asList (nth r2.snd 3).asSp],
        nth r2.snd 0]
  else some [GV.agg [GV.str (ByteArray.mk #[]), GV.list 2 true [] [], GV.list 2 true [] []], GV.bool false]
theorem ruleG_q (fuel : Nat) (a0 a1 : GV) : gexec ruleG_E (LSc (ruleG_e0 fuel) fuel (LZ)) Try.f26.ntmps Try.f26.results.toList ruleG_sg ruleG_c [a0, a1] = ruleG_f fuel a0 a1 := by kernel_rfl
theorem ruleG_calls (hS : SpecsOk Try.prog tl ruleG_E.sp) (fuel : Nat) : CallsOk Try.prog tl 26 ruleG_sg (gexec ruleG_E (LSc (ruleG_e0 fuel) fuel (LZ)) Try.f26.ntmps Try.f26.results.toList ruleG_sg ruleG_c) :=
  gexec_calls (E := ruleG_E) hP hS Try.func26 (by kernel_rfl) (by kernel_rfl) (fun W => LSc_ok hP hS (LZ_ok) (ruleG_k0 fuel) fuel)
def ruleI (l : List GV) (s : ByteArray) : Nat := l.findIdx fun g => strEq (cellG true g 0).asStr s
def ruleF (l : List GV) (s : ByteArray) : Bool := decide (ruleI l s < l.length)
def plain (g : GV) : Bool := g.asZ && Nat.ble g.asList.length 1000000000
def ruleOk (g : GV) : Bool := plain (cellG true g 1) && plain (cellG true g 2)
def cloneG (g : GV) : GV := .list 2 g.all.isEmpty g.asList []
def ruleV (g : GV) : GV := .agg [cellG true g 0, cloneG (cellG true g 1), cloneG (cellG true g 2)]
def noRule : GV := .agg [.str ⟨#[]⟩, .list 2 true [] [], .list 2 true [] []]
def ruleG_s : List GV → Option R
  | [a0, a1] => bif Nat.ble (cellG true a0 5).asList.length 1000000000 then
      bif ruleF (cellG true a0 5).asList a1.asStr then
        bif ruleOk (nth (cellG true a0 5).asList (ruleI (cellG true a0 5).asList a1.asStr)) then some [ruleV (nth (cellG true a0 5).asList (ruleI (cellG true a0 5).asList a1.asStr)), .bool true] else none
      else some [noRule, .bool false]
    else none
  | _ => none
theorem clone_frozen {g : GV} (h : plain g = true) : clone_s [.list 0 g.asZ g.asList g.asSp] = some [cloneG g] := by
  unfold plain at h
  simp only [clone_s, asZ_list, asList_list, h, cond_true]
  rfl
theorem ruleG_ok : CallsOk Try.prog tl 26 ruleG_sg ruleG_s := (ruleG_calls (specs_cons specs_nil clone_ok Try.call33) 1000000001).of fun gs outs h => by
  rcases gs with _ | ⟨a0, _ | ⟨a1, _ | ⟨a2, t⟩⟩⟩ <;> first | (cases h; done) | skip
  rw [ruleG_q 1000000001]
  simp only [ruleG_s] at h
  generalize hl : (cellG true a0 5).asList = l at h
  cases hb : Nat.ble l.length 1000000000 with
  | false => rw [hb] at h; cases h
  | true =>
    rw [hb] at h
    have hs := Nat.le_of_ble_eq_true hb
    simp only [cond_true] at h
    unfold ruleG_f ruleG_l0
    let S : Nat → List GV := fun i => [a1, .list 0 (cellG true a0 5).asZ (cellG true a0 5).asList (cellG true a0 5).asSp, .int (l.length : Nat), .int (i : Nat), .str ⟨#[]⟩, .list 2 true [] [], .list 2 true [] []]
    have step : ∀ i, i < l.length → ∀ (kn : List GV → Option (Nat × List GV)) kx, (ruleG_e0 1000000001).step (S i) kn kx = bif strEq (cellG true (nth l i) 0).asStr a1.asStr then
        ((clone_s [.list 0 (cellG true (nth l i) 1).asZ (cellG true (nth l i) 1).asList (cellG true (nth l i) 1).asSp]).bind fun o0 => (clone_s [.list 0 (cellG true (nth l i) 2).asZ (cellG true (nth l i) 2).asList (cellG true (nth l i) 2).asSp]).bind fun o1 =>
          kx 0 [.bool true, cellG true (nth l i) 0, .list 2 (nth o0 0).asZ (nth o0 0).asList (nth o0 0).asSp, .list 2 (nth o1 0).asZ (nth o1 0).asList (nth o1 0).asSp]) else kn (S (i + 1)) := by
      intro i hi kn kx
      show (ruleG_e0 1000000001).step [a1, .list 0 (cellG true a0 5).asZ (cellG true a0 5).asList (cellG true a0 5).asSp, .int (l.length : Nat), .int (i : Nat), .str ⟨#[]⟩, .list 2 true [] [], .list 2 true [] []] kn kx = _
      rw [ruleG_t0]
      unfold ruleG_b0
      refine (cT (show ((i : Nat) : Int) < ((l.length : Nat) : Int) by omega) _ _).trans ?_
      refine (bT (by rw [asList_list, hl]; exact inRange_nat hi) _ _).trans ?_
      have hn : nth (GV.list 0 (cellG true a0 5).asZ (cellG true a0 5).asList (cellG true a0 5).asSp).all (GV.int (i : Int)).asInt.toNat = nth l i := by
        simp only [asInt_int, Int.toNat_natCast, all_list, hl]; exact nth_append_left hi
      rw [hn]
      cases strEq (cellG true (nth l i) 0).asStr a1.asStr with
      | true => rfl
      | false =>
        simp only [cond_false, asInt_int]
        rw [w64 (by omega) (by omega)]
        rfl
    have e0 : ([a1, GV.list 0 (cellG true a0 5).asZ (cellG true a0 5).asList (cellG true a0 5).asSp, GV.int (((cellG true a0 5).asList.length : Nat) : Int), GV.int 0, GV.str (ByteArray.mk #[]), GV.list 2 true [] [], GV.list 2 true [] []] : List GV) = S 0 := by
      show _ = [a1, _, _, _, _, _, _]
      rw [hl]; rfl
    rw [e0]
    cases hf : ruleF l a1.asStr with
    | true =>
      rw [hf] at h
      simp only [cond_true] at h
      have hlt : ruleI l a1.asStr < l.length := of_decide_eq_true hf
      cases hok : ruleOk (nth l (ruleI l a1.asStr)) with
      | false => rw [hok] at h; cases h
      | true =>
        rw [hok] at h
        rw [← h]
        unfold ruleOk at hok
        simp only [Bool.and_eq_true] at hok
        have key := loop_done (step := (ruleG_e0 1000000001).step) (S := S) (n := ruleI l a1.asStr) (q := 0) (zs := [.bool true, cellG true (nth l (ruleI l a1.asStr)) 0, cloneG (cellG true (nth l (ruleI l a1.asStr)) 1), cloneG (cellG true (nth l (ruleI l a1.asStr)) 2)]) (fun i hi kn kx => by
          rw [step i (by omega)]
          have := find_before (l := l) (p := fun g => strEq (cellG true g 0).asStr a1.asStr) hi
          simp only [this, cond_false]) (fun kn kx => by
          rw [step _ hlt]
          have := find_at (l := l) (p := fun g => strEq (cellG true g 0).asStr a1.asStr) hlt
          have this : strEq (cellG true (nth l (ruleI l a1.asStr)) 0).asStr a1.asStr = true := this
          rw [this, clone_frozen hok.1, clone_frozen hok.2]
          rfl) (N := 1000000001) (by omega)
        rw [key]
        rfl
    | false =>
      rw [hf] at h
      rw [← h]
      have hge : ¬ ruleI l a1.asStr < l.length := of_decide_eq_false hf
      have heq : ruleI l a1.asStr = l.length := Nat.le_antisymm List.findIdx_le_length (by omega)
      have key := loop_done (step := (ruleG_e0 1000000001).step) (S := S) (n := l.length) (q := 1) (zs := [.str ⟨#[]⟩, .list 2 true [] [], .list 2 true [] []]) (fun i hi kn kx => by
        rw [step i hi]
        have := find_before (l := l) (p := fun g => strEq (cellG true g 0).asStr a1.asStr) (j := i) (by
          show i < ruleI l a1.asStr
          rw [heq]; exact hi)
        simp only [this, cond_false]) (fun kn kx => by
        show (ruleG_e0 1000000001).step [a1, .list 0 (cellG true a0 5).asZ (cellG true a0 5).asList (cellG true a0 5).asSp, .int (l.length : Nat), .int (l.length : Nat), .str ⟨#[]⟩, .list 2 true [] [], .list 2 true [] []] kn kx = _
        rw [ruleG_t0]
        unfold ruleG_b0
        exact (cF (show ¬ ((l.length : Nat) : Int) < ((l.length : Nat) : Int) by omega) _ _)) (N := 1000000001) (by omega)
      rw [key]
      rfl

/-! concat. -/
def concat_sg : FSig := FSig.mk [77] [(28, [2])] false
noncomputable def concat_c : Code := Try.f27.body.getD .skip
def concat_E : Env := ⟨tl, [(34, grow_sg, grow_s)], dirsOf [], dirsOf [(0, [Dir.only [], Dir.sort [], Dir.keep [0, 3, 9, 10, 11]]), (1, [Dir.own 6 3 1006, Dir.only [1006], Dir.sort [1006], Dir.keep [6, 25, 26, 27]])], dirsOf [(0, [Dir.only [], Dir.sort [], Dir.keep [0, 3]]), (1, [Dir.own 6 3 1006, Dir.only [1006], Dir.sort [1006], Dir.keep [6]])], joinsOf tl []⟩
def concat_sh1 : Shp := Shp.mk 36
  [(6, ASh.one (SSh.ref 3 1006)), (25, ASh.one (SSh.s (CK.slice 28))), (26, ASh.one (SSh.s (CK.int IntKind.i64))),
    (27, ASh.one (SSh.s (CK.int IntKind.i64)))]
  [(1006, RSh.val 3 3)]
def concat_xs1 : Outs := [(Ex.exit 2, Shp.mk 36 [(6, ASh.one (SSh.ref 3 1006))] [(1006, RSh.val 3 3)])]
def concat_b1 {β : Type} (fuel : Nat) (g0 g1 g2 g3 : GV) (kn : List GV → Option β) (kx : Nat → List GV → Option β) : Option β :=
  bif decide (g2.asInt < g1.asInt) then
  bif inRange g2.asInt g0.asList.length then
    bif lim tl 3 g3.asList.length (nth g0.all g2.asInt.toNat).asList.length then
      kn [g0, g1, GV.int (IntKind.i64.wrap (g2.asInt + 1)), GV.list 2 (g3.asZ && true) (g3.asList ++ (nth g0.all g2.asInt.toNat).asList) []]
    else none
  else none
else kx 0 [GV.list 2 g3.asZ g3.asList []]
def concat_e1 (fuel : Nat) : LEnt := ⟨1, concat_sh1, concat_xs1, fun gs kn kx => concat_b1 fuel (nth gs 0) (nth gs 1) (nth gs 2) (nth gs 3) kn kx⟩
def concat_l1 (fuel : Nat) (gs : List GV) : Option (Nat × List GV) := loopR (concat_e1 fuel).step fuel gs
theorem concat_t1 {β : Type} (fuel : Nat) (g0 g1 g2 g3 : GV) (kn : List GV → Option β) (kx : Nat → List GV → Option β) : (concat_e1 fuel).step [g0, g1, g2, g3] kn kx = concat_b1 fuel g0 g1 g2 g3 kn kx := rfl
theorem concat_k1 (fuel : Nat) : StepOk concat_E concat_c (LZ) (concat_e1 fuel) :=
  ⟨by kernel_rfl, fun gs kn kx => by kernel_rfl, fun f gs kn kx => by simp only [concat_e1, concat_b1, bind_cond, Option.bind_assoc, Option.bind_none]⟩
def concat_sh0 : Shp := Shp.mk 36
  [(0, ASh.one (SSh.s (CK.slice 28))), (3, ASh.one (SSh.s (CK.int IntKind.i64))), (9, ASh.one (SSh.s (CK.slice 28))),
    (10, ASh.one (SSh.s (CK.int IntKind.i64))), (11, ASh.one (SSh.s (CK.int IntKind.i64)))]
  []
def concat_xs0 : Outs := [(Ex.exit 0, Shp.mk 36 [(0, ASh.one (SSh.s (CK.slice 28))), (3, ASh.one (SSh.s (CK.int IntKind.i64)))] [])]
def concat_b0 {β : Type} (fuel : Nat) (g0 g1 g2 g3 g4 : GV) (kn : List GV → Option β) (kx : Nat → List GV → Option β) : Option β :=
  bif decide (g4.asInt < g3.asInt) then
  bif inRange g4.asInt g2.asList.length then
    bif decide (IntKind.i64.wrap (g1.asInt + (↑(nth g2.all g4.asInt.toNat).asList.length : Int)) < 0) then none
    else kn [g0, GV.int (IntKind.i64.wrap (g1.asInt + (↑(nth g2.all g4.asInt.toNat).asList.length : Int))), g2, g3, GV.int (IntKind.i64.wrap (g4.asInt + 1))]
  else none
else kx 0 [g0, g1]
def concat_e0 (fuel : Nat) : LEnt := ⟨0, concat_sh0, concat_xs0, fun gs kn kx => concat_b0 fuel (nth gs 0) (nth gs 1) (nth gs 2) (nth gs 3) (nth gs 4) kn kx⟩
def concat_l0 (fuel : Nat) (gs : List GV) : Option (Nat × List GV) := loopR (concat_e0 fuel).step fuel gs
theorem concat_t0 {β : Type} (fuel : Nat) (g0 g1 g2 g3 g4 : GV) (kn : List GV → Option β) (kx : Nat → List GV → Option β) : (concat_e0 fuel).step [g0, g1, g2, g3, g4] kn kx = concat_b0 fuel g0 g1 g2 g3 g4 kn kx := rfl
theorem concat_k0 (fuel : Nat) : StepOk concat_E concat_c (LSc (concat_e1 fuel) fuel (LZ)) (concat_e0 fuel) :=
  ⟨by kernel_rfl, fun gs kn kx => by kernel_rfl, fun f gs kn kx => by simp only [concat_e0, concat_b0, bind_cond, Option.bind_assoc, Option.bind_none]⟩
def concat_f (fuel : Nat) (a0 : GV) : Option R :=
  (concat_l0 fuel [a0, GV.int 0, a0, GV.int (↑a0.asList.length : Int), GV.int 0]).bind fun r0 =>
  (grow_s [GV.list 2 true [] [], nth r0.snd 1]).bind fun o1 =>
    (concat_l1 fuel
          [nth r0.snd 0, GV.int (↑(nth r0.snd 0).asList.length : Int), GV.int 0, GV.list 2 (bif (nth o1 0).asSp.isEmpty then (nth o1 0).asZ else false) (nth o1 0).asList []]).bind
      fun r2 => some [GV.list 2 (nth r2.snd 0).asZ (nth r2.snd 0).asList []]
theorem concat_q (fuel : Nat) (a0 : GV) : gexec concat_E (LSc (concat_e0 fuel) fuel (LSc (concat_e1 fuel) fuel (LZ))) Try.f27.ntmps Try.f27.results.toList concat_sg concat_c [a0] = concat_f fuel a0 := by kernel_rfl
theorem concat_calls (hS : SpecsOk Try.prog tl concat_E.sp) (fuel : Nat) : CallsOk Try.prog tl 27 concat_sg (gexec concat_E (LSc (concat_e0 fuel) fuel (LSc (concat_e1 fuel) fuel (LZ))) Try.f27.ntmps Try.f27.results.toList concat_sg concat_c) :=
  gexec_calls (E := concat_E) hP hS Try.func27 (by kernel_rfl) (by kernel_rfl) (fun W => LSc_ok hP hS (LSc_ok hP hS (LZ_ok) (concat_k1 fuel) fuel) (concat_k0 fuel) fuel)
def flatL (l : List GV) : List GV := l.flatMap GV.asList
def concatOk (l : List GV) : Bool := Nat.ble l.length 1000 && Nat.ble (flatL l).length 1000000000
def concat_s : List GV → Option R
  | [a0] => bif concatOk a0.asList then some [.list 2 (decide (((flatL a0.asList).length : Int) ≤ 0)) (flatL a0.asList) []] else none
  | _ => none
theorem flat_snoc {l : List GV} {i : Nat} (h : i < l.length) : flatL (l.take (i + 1)) = flatL (l.take i) ++ (nth l i).asList := by
  rw [take_snoc h]; simp [flatL]
theorem flat_le (l : List GV) (i : Nat) : (flatL (l.take i)).length ≤ (flatL l).length := by
  have : flatL l = flatL (l.take i) ++ flatL (l.drop i) := by
    unfold flatL
    rw [← List.flatMap_append, List.take_append_drop]
  rw [this, List.length_append]; omega
theorem concat_ok : CallsOk Try.prog tl 27 concat_sg concat_s := (concat_calls (specs_cons specs_nil grow_ok Try.call34) 1001).of fun gs outs h => by
  rcases gs with _ | ⟨a0, _ | ⟨a1, t⟩⟩ <;> first | (cases h; done) | skip
  rw [concat_q 1001]
  simp only [concat_s] at h
  cases hb : concatOk a0.asList with
  | false => rw [hb] at h; cases h
  | true =>
    rw [hb] at h
    rw [← h]
    unfold concatOk at hb
    simp only [Bool.and_eq_true] at hb
    have h1 := Nat.le_of_ble_eq_true hb.1
    have h2 := Nat.le_of_ble_eq_true hb.2
    unfold concat_f concat_l0 concat_l1
    have key0 := loop_done (step := (concat_e0 1001).step) (S := fun i => [a0, .int ((flatL (a0.asList.take i)).length : Nat), a0, .int (a0.asList.length : Nat), .int (i : Nat)]) (n := a0.asList.length) (q := 0) (zs := [a0, .int ((flatL a0.asList).length : Nat)]) (fun i hi kn kx => by
        rw [concat_t0]
        unfold concat_b0
        refine (cT (show ((i : Nat) : Int) < ((a0.asList.length : Nat) : Int) by omega) _ _).trans ?_
        refine (bT (inRange_nat hi) _ _).trans ?_
        have hn : nth a0.all (GV.int (i : Int)).asInt.toNat = nth a0.asList i := nth_all hi
        have hle := flat_le a0.asList (i + 1)
        have hw : IntKind.i64.wrap ((GV.int (((flatL (a0.asList.take i)).length : Nat) : Int)).asInt + (((nth a0.all (GV.int (i : Int)).asInt.toNat).asList.length : Nat) : Int)) = ((flatL (a0.asList.take (i + 1))).length : Nat) := by
          rw [hn, flat_snoc hi] at *
          simp only [List.length_append] at hle ⊢
          simp only [asInt_int]
          rw [w64 (by omega) (by omega)]
          omega
        rw [hw]
        refine (cF (by omega) _ _).trans ?_
        simp only [asInt_int]
        rw [w64 (by omega) (by omega)]
        rfl) (fun kn kx => by
        rw [concat_t0]
        unfold concat_b0
        refine (cF (show ¬ ((a0.asList.length : Nat) : Int) < ((a0.asList.length : Nat) : Int) by omega) _ _).trans ?_
        rw [List.take_length]) (N := 1001) (by omega)
    have e0 : ([a0, GV.int 0, a0, GV.int ((a0.asList.length : Nat) : Int), GV.int 0] : List GV) = [a0, .int ((flatL (a0.asList.take 0)).length : Nat), a0, .int (a0.asList.length : Nat), .int ((0 : Nat) : Int)] := rfl
    rw [e0, key0]
    simp only [Option.bind_some, nth_zero, nth_succ]
    have hg : grow_s [GV.list 2 true [] [], .int ((flatL a0.asList).length : Nat)] = some [.list 2 (decide (((flatL a0.asList).length : Int) ≤ 0)) [] []] := by
      have k1 : (0 : Int) ≤ ((flatL a0.asList).length : Nat) := by omega
      have k2 : (((flatL a0.asList).length : Nat) : Int) ≤ 1000000000000 := by omega
      show (bif true && (true && (decide ((0 : Int) ≤ ((flatL a0.asList).length : Nat)) && decide ((((flatL a0.asList).length : Nat) : Int) ≤ 1000000000000))) then _ else _) = _
      rw [dT k1, dT k2]
      rfl
    rw [hg]
    simp only [Option.bind_some, nth_zero, asSp_list, asZ_list, asList_list, List.isEmpty_nil, cond_true]
    generalize decide (((flatL a0.asList).length : Int) ≤ 0) = z
    have key1 := loop_done (step := (concat_e1 1001).step) (S := fun i => [a0, .int (a0.asList.length : Nat), .int (i : Nat), .list 2 z (flatL (a0.asList.take i)) []]) (n := a0.asList.length) (q := 0) (zs := [.list 2 z (flatL a0.asList) []]) (fun i hi kn kx => by
        rw [concat_t1]
        unfold concat_b1
        refine (cT (show ((i : Nat) : Int) < ((a0.asList.length : Nat) : Int) by omega) _ _).trans ?_
        refine (bT (inRange_nat hi) _ _).trans ?_
        have hn : nth a0.all (GV.int (i : Int)).asInt.toNat = nth a0.asList i := nth_all hi
        have hle := flat_le a0.asList (i + 1)
        rw [hn]
        rw [flat_snoc hi, List.length_append] at hle
        refine (bT (lim3 (by simp only [asList_list]; unfold LIM; omega)) _ _).trans ?_
        simp only [asInt_int, asZ_list, asList_list, Bool.and_true]
        rw [w64 (by omega) (by omega), flat_snoc hi]
        rfl) (fun kn kx => by
        rw [concat_t1]
        unfold concat_b1
        refine (cF (show ¬ ((a0.asList.length : Nat) : Int) < ((a0.asList.length : Nat) : Int) by omega) _ _).trans ?_
        rw [List.take_length]
        rfl) (N := 1001) (by omega)
    have e1 : ([a0, GV.int ((a0.asList.length : Nat) : Int), GV.int 0, GV.list 2 z [] []] : List GV) = [a0, .int (a0.asList.length : Nat), .int ((0 : Nat) : Int), .list 2 z (flatL (a0.asList.take 0)) []] := rfl
    rw [e1, key1]
    rfl

end Go.Proofs.Ytgneobkmmmpbiaa
