/- A rule that is made is a good one; the types. -/
import Derived.Test.YtgneobkmmmpbiaaGa
namespace Go.Proofs.Ytgneobkmmmpbiaa
open Go Go.Proofs Go.Eng
set_option linter.unusedVariables false
set_option linter.unusedSimpArgs false

/-- The numbers of the fields that a choice takes. -/
def pickN (F : List GV) (c : Nat → Nat) (n j : Nat) : List GV := ((List.range n).filter fun i => Nat.beq (c i) j).map fun i => cellG true (nth F i) 0
theorem pickN_succ (F : List GV) (c : Nat → Nat) (n j : Nat) : pickN F c (n + 1) j = pickN F c n j ++ bif Nat.beq (c n) j then [cellG true (nth F n) 0] else [] := by
  unfold pickN
  rw [List.range_succ, List.filter_append, List.map_append]
  congr 1
  simp only [List.filter_cons, List.filter_nil]
  cases Nat.beq (c n) j <;> rfl
theorem pickN_le (F : List GV) (c : Nat → Nat) (n j : Nat) : (pickN F c n j).length ≤ n := by
  unfold pickN
  rw [List.length_map]
  have := List.length_filter_le (fun i => Nat.beq (c i) j) (List.range n)
  rw [List.length_range] at this
  exact this
/-- What a rule does with a field. -/
def choice (p : Int) : Nat := bif p == 0 then 1 else bif p == 1 then 1 else bif p == 2 then 2 else 0

theorem rule10_run {a0 a1 a2 : GV} {F : List GV} (hF : (cellG true a0 4).asList = F) (hlen : F.length ≤ 100) : ∃ c : Nat → Nat, (∀ i, c i = 0 ∨ c i = 1 ∨ c i = 2) ∧ rule10_s [a0, a1, a2] = some [.agg [a1, .list 2 true (pickN F c F.length 1) [], .list 2 true (pickN F c F.length 2) []]] := by
  let p : Nat → Int := fun i => pickZ (shrI IntKind.i64 (nth [cellG true a2 1, cellG true a2 2, cellG true a2 3, cellG true a2 4] ((i : Int).tmod 4).toNat).asInt (IntKind.i64.wrap (3 * IntKind.i64.wrap ((i : Int).tdiv 4)))) 4
  let c : Nat → Nat := fun i => choice (p i)
  refine ⟨c, fun i => ?_, ?_⟩
  · show choice (p i) = 0 ∨ choice (p i) = 1 ∨ choice (p i) = 2
    unfold choice
    cases p i == 0 <;> cases p i == 1 <;> cases p i == 2 <;> simp
  have key := loop_done (step := (rule10_e0 1000).step) (S := fun i => [GV.int (i : Nat), cellG true a0 0, cellG true a0 1, cellG true a0 2, cellG true a0 3, GV.list 0 (cellG true a0 4).asZ F (cellG true a0 4).asSp,
        GV.list 0 (cellG true a0 5).asZ (cellG true a0 5).asList (cellG true a0 5).asSp, cellG true a0 6, cellG true a2 0, cellG true a2 1, cellG true a2 2, cellG true a2 3,
        cellG true a2 4, GV.str (ByteArray.mk #[]), GV.list 2 true [] [], GV.list 2 true [] [], a1, GV.list 2 true (pickN F c i 1) [], GV.list 2 true (pickN F c i 2) []]) (n := F.length) (q := 0)
      (zs := [GV.str (ByteArray.mk #[]), GV.list 2 true [] [], GV.list 2 true [] [], a1, GV.list 2 true (pickN F c F.length 1) [], GV.list 2 true (pickN F c F.length 2) []]) (fun i hi kn kx => by
    rw [rule10_t0]
    unfold rule10_b0
    refine (cT (show ((i : Nat) : Int) < ((F.length : Nat) : Int) by omega) _ _).trans ?_
    have m4 : inRange ((i : Int).tmod 4) 4 = true := by
      rw [Int.tmod_eq_emod_of_nonneg (by omega)]
      exact inRange_iff'.2 ⟨by omega, by omega⟩
    refine (bT (by simp only [asInt_int, m4, Bool.and_true]) _ _).trans ?_
    have hnn : ¬ IntKind.i64.wrap (3 * IntKind.i64.wrap ((i : Int).tdiv 4)) < 0 := by
      rw [Int.tdiv_eq_ediv_of_nonneg (by omega), w64 (n := (i : Int) / 4) (by omega) (by omega), w64 (by omega) (by omega)]
      omega
    refine (bT (congrArg not (dF hnn)) _ _).trans ?_
    simp only [asInt_int]
    rw [pickN_succ F c i 1, pickN_succ F c i 2]
    have l1 := pickN_le F c i 1
    have l2 := pickN_le F c i 2
    have hl1 : lim tl 3 (pickN F c i 1).length 1 = true := lim3 (by unfold LIM; omega)
    have hl2 : lim tl 3 (pickN F c i 2).length 1 = true := lim3 (by unfold LIM; omega)
    have hn : nth (F ++ (cellG true a0 4).asSp) i = nth F i := nth_append_left hi
    simp only [asList_list, asZ_list, asSp_list, all_list, Int.toNat_natCast, hn, inRange_nat hi, hl1, hl2, cond_true, Bool.and_true]
    rw [w64 (n := (i : Int) + 1) (by omega) (by omega)]
    have hc : c i = choice (p i) := rfl
    show (bif p i == 0 then bif p i == 0 then _ else bif p i == 2 then _ else _ else bif p i == 1 then _ else bif p i == 2 then _ else _) = _
    rw [hc]
    unfold choice
    cases h0 : p i == 0 <;> cases h1 : p i == 1 <;> cases h2 : p i == 2 <;> simp only [cond_true, cond_false, Nat.beq, List.append_nil] <;> rfl) (fun kn kx => by
    rw [rule10_t0]
    unfold rule10_b0
    exact cF (show ¬ ((F.length : Nat) : Int) < ((F.length : Nat) : Int) by omega) _ _) (N := 1000) (by omega)
  show rule10_f 1000 a0 a1 a2 = _
  unfold rule10_f rule10_l0
  rw [hF]
  refine (congrArg (fun o => Option.bind o _) key).trans ?_
  rfl

/-- The types. -/
def tyL (v : Int) : List GV := (nth ((types_f 1000 (.int v)).getD []) 0).asList
def resp : ByteArray := ByteArray.mk #[48, 52, 48, 48]
def tyOk (l : List GV) : Bool := Nat.beq l.length 21 && ((List.range 21).all fun i => Nat.beq (nth l i).asStr.size 4 && (((List.range 4).all fun j => decide (48 ≤ bt (nth l i).asStr j) && decide (bt (nth l i).asStr j ≤ 57)) &&
  (!strEq (nth l i).asStr resp && (List.range i).all fun j => !strEq (nth l j).asStr (nth l i).asStr)))
theorem types_run (v : Int) (h : v = 0 ∨ v = 1) : types_s [.int v] = some [.list 2 true (tyL v) []] ∧ tyOk (tyL v) = true := by
  rcases h with rfl | rfl
  · exact ⟨by kernel_rfl, by kernel_rfl⟩
  · exact ⟨by kernel_rfl, by kernel_rfl⟩

end Go.Proofs.Ytgneobkmmmpbiaa
