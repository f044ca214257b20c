/- A field that is made is a good one. -/
import Derived.Test.YtgneobkmmmpbiaaFm
namespace Go.Proofs.Ytgneobkmmmpbiaa
open Go Go.Proofs Go.Eng
set_option linter.unusedVariables false
set_option linter.unusedSimpArgs false

/-- A number of 64 bits. -/
def R64 (x : Int) : Prop := -9223372036854775808 ≤ x ∧ x < 9223372036854775808
theorem wrapR (x : Int) : R64 (IntKind.i64.wrap x) := by
  unfold R64 IntKind.wrap
  simp [IntKind.bits, IntKind.signed]
  omega
theorem pickZ_range {x n : Int} (hx : R64 x) (hn : 0 < n) : 0 ≤ pickZ x n ∧ pickZ x n < n := by
  unfold R64 at hx
  have key : ∀ y : Int, 0 ≤ y → 0 ≤ y.tmod n ∧ y.tmod n < n := fun y hy => by
    rw [Int.tmod_eq_emod_of_nonneg hy]
    exact ⟨Int.emod_nonneg _ (by omega), Int.emod_lt_of_pos _ hn⟩
  unfold pickZ
  by_cases h : x < 0
  · rw [dT h]
    simp only [cond_true]
    rw [w64 (n := x + 1) (by omega) (by omega), w64 (by omega) (by omega)]
    exact key _ (by omega)
  · rw [dF h]
    exact key x (by omega)
theorem pick_some {a n : GV} (hn : 0 < n.asInt) : pick_s [a, n] = some [.int (pickZ a.asInt n.asInt)] := by
  have : (n.asInt == 0) = false := by rw [beq_eq_false_iff_ne]; omega
  simp only [pick_s, this]
  rfl

/-- A good field. -/
structure okField (g : GV) : Prop where
  num : fieldB (cellG true g 0).asInt = true
  size : 0 ≤ (cellG true g 5).asInt ∧ (cellG true g 5).asInt ≤ 120
  len : (cellG true g 3).asInt = 0 ∨ prefixOk (cellG true g 4).asInt (cellG true g 3).asInt (cellG true g 5).asInt = true

theorem enc_range (c : Int) : 0 < ((encL c).length : Int) := by
  unfold encL
  cases c == 1 <;> cases c == 6 <;> cases c == 5 <;> cases c == 8 <;> cases c == 9 <;> decide
theorem nth4 (i : Int) (h0 : 0 ≤ i) (h4 : i < 4) : encOk (nth [GV.int 1, GV.int 2, GV.int 4, GV.int 5] i.toNat).asInt = true := by
  have : i.toNat = 0 ∨ i.toNat = 1 ∨ i.toNat = 2 ∨ i.toNat = 3 := by omega
  rcases this with h | h | h | h <;> rw [h] <;> rfl
theorem maxI_of (a b : Int) : maxI a b = if b > a then b else a := rfl
theorem bind_pull {α β : Type} (b : Bool) (x y : α) (f : α → Option β) : ((bif b then some x else some y).bind f) = f (bif b then x else y) := by cases b <;> rfl

theorem size_of {m s : Int} (hm0 : 9 ≤ m) (hm : m ≤ 120) (hs : 0 ≤ s ∧ s < m) : 1 ≤ IntKind.i64.wrap (1 + s) ∧ IntKind.i64.wrap (1 + s) ≤ m := by
  rw [w64 (by omega) (by omega)]; omega
theorem max_of {m s k : Int} (hk : k ≤ m) (hs : 1 ≤ s ∧ s ≤ m) : 1 ≤ maxI s k ∧ maxI s k ≤ m := by
  unfold maxI; split <;> omega

theorem prefixOk_of {e d n : Int} (he : encOk e = true) (h1 : 1 ≤ d) (h4 : d ≤ 4) (h0 : 0 ≤ n) (h : n < tenZ d) : prefixOk e d n = true := by
  unfold prefixOk
  rw [he, dT h1, dT h4, dT h0, dT h]; rfl

theorem spec_good {a0 a1 : GV} (h0 : fieldB a0.asInt = true) (h : ∀ j, j < 5 → R64 (cellG true a1 j).asInt) : ∃ g, spec_s [a0, a1] = some [.agg g] ∧ g.length = 6 ∧ nth g 0 = a0 ∧ okField (.agg g) := by
  show ∃ g, spec_f 1000 a0 a1 = some [.agg g] ∧ _
  unfold spec_f
  have p1 := pickZ_range (h 1 (by omega)) (show (0 : Int) < 9 by omega)
  have hlen := enc_range (IntKind.i64.wrap (1 + pickZ (cellG true a1 1).asInt 9))
  have p2 := pickZ_range (h 2 (by omega)) hlen
  have p3 := pickZ_range (h 3 (by omega)) (show (0 : Int) < 5 by omega)
  have p4 := pickZ_range (wrapR ((cellG true a1 2).asInt.tdiv 8)) (show (0 : Int) < 4 by omega)
  have h4 := h 4 (by omega)
  have h2 := h 2 (by omega)
  have h3 := h 3 (by omega)
  rw [pick_some (by simpa using hlen)]
  generalize IntKind.i64.wrap (1 + pickZ (cellG true a1 1).asInt 9) = ty at hlen p2 ⊢
  simp only [Option.bind_some, nth_zero, asInt_int]
  rw [inRange_iff'.2 p2]
  simp only [Bool.and_true, cond_true]
  generalize pickZ (cellG true a1 3).asInt 5 = d0 at p3 ⊢
  generalize cellG true a1 4 = x4 at *
  generalize cellG true a1 3 = x3 at *
  generalize cellG true a1 2 = x2 at *
  generalize cellG true a1 1 = x1 at *
  generalize cellG true a1 0 = x0 at *
  have hd0 : d0 = 0 ∨ d0 = 1 ∨ d0 = 2 ∨ d0 = 3 ∨ d0 = 4 := by omega
  generalize (bif bif ty == 8 then true else ty == 9 then d0 == 0 else false) = c
  generalize (bif ty == 8 then true else ty == 9) = fixd
  rw [bind_pull]
  have hc : ∃ d : Int, (d = 0 ∨ d = 1 ∨ d = 2 ∨ d = 3 ∨ d = 4) ∧ ∀ X : Int → List GV, (bif c then X 3 else X d0) = X d := by
    cases c
    · exact ⟨d0, hd0, fun X => rfl⟩
    · exact ⟨3, by omega, fun X => rfl⟩
  obtain ⟨d, hd, hX⟩ := hc
  rw [hX fun d => [GV.int 0, GV.bool fixd, x0, x1, x2, x3, x4, GV.int 0, GV.int 0, GV.int 0, GV.int 0, GV.int 0, GV.int 0, a0, GV.int ty, _, GV.int d, GV.int 0, GV.int 0]]
  simp only [Option.bind_some, nth_succ, nth_zero, asInt_int, asBool_bool]
  have e4 := nth4 _ p4.1 p4.2
  rw [inRange_iff'.2 p4]
  generalize nth [GV.int 1, GV.int 2, GV.int 4, GV.int 5] (pickZ (IntKind.i64.wrap (x2.asInt.tdiv 8)) 4).toNat = le at e4 ⊢
  have q := fun (m : Int) (hm : 0 < m) => pickZ_range h4 hm
  have fin : ∀ (m : Int) (l : GV) (X : Int → List GV) , 9 ≤ m → m ≤ 120 → (d = 0 ∨ (1 ≤ d ∧ encOk l.asInt = true ∧ m < tenZ d)) → (∀ s, (X s).length = 6 ∧ nth (X s) 0 = a0 ∧ nth (X s) 3 = .int d ∧ nth (X s) 4 = l ∧ nth (X s) 5 = .int s) →
      ∃ g, some [GV.agg (bif ty == 7 then bif fixd then X (maxI (maxI (IntKind.i64.wrap (1 + pickZ x4.asInt m)) 4) 2) else X (maxI (IntKind.i64.wrap (1 + pickZ x4.asInt m)) 2) else bif fixd then X (maxI (IntKind.i64.wrap (1 + pickZ x4.asInt m)) 4) else X (IntKind.i64.wrap (1 + pickZ x4.asInt m)))] = some [.agg g] ∧ g.length = 6 ∧ nth g 0 = a0 ∧ okField (.agg g) := by
    intro m l X hm0 hm hdl hX
    have s0 := size_of hm0 hm (q m (by omega))
    have key : ∀ s : Int, 1 ≤ s ∧ s ≤ m → (X s).length = 6 ∧ nth (X s) 0 = a0 ∧ okField (.agg (X s)) := by
      intro s hs
      obtain ⟨k1, k2, k3, k4, k5⟩ := hX s
      refine ⟨k1, k2, ⟨?_, ?_, ?_⟩⟩
      · rw [cellG_agg, k2]; exact h0
      · rw [cellG_agg, k5]; simp only [asInt_int]; omega
      · rw [cellG_agg, cellG_agg, cellG_agg, k5, k3, k4]
        rcases hdl with h | ⟨h1, h2, h3⟩
        · left; exact h
        · right; exact prefixOk_of h2 h1 (by simp only [asInt_int]; omega) (by simp only [asInt_int]; omega) (by simp only [asInt_int]; omega)
    cases ty == 7 <;> cases fixd
    · exact ⟨_, rfl, key _ s0⟩
    · exact ⟨_, rfl, key _ (max_of (by omega) s0)⟩
    · exact ⟨_, rfl, key _ (max_of (by omega) s0)⟩
    · exact ⟨_, rfl, key _ (max_of (by omega) (max_of (by omega) s0))⟩
  have pk : ∀ m : Int, 0 < m → pick_s [x4, .int m] = some [.int (pickZ x4.asInt m)] := fun m hm => pick_some (by simpa using hm)
  rcases hd with rfl | rfl | rfl | rfl | rfl
  · refine Exists.imp (fun g hg => ⟨Eq.trans ?_ hg.1, hg.2⟩) (fin 120 (.int 0) (fun s => [a0, .int ty, nth (GV.list 2 true (encL ty) []).all (pickZ x2.asInt ((encL ty).length : Int)).toNat, (.int 0), (.int 0), .int s]) (by omega) (by omega) (Or.inl rfl) (fun s => ⟨rfl, rfl, rfl, rfl, rfl⟩))
    simp only [Int.reduceGT, decide_true, decide_false, cond_true, cond_false, Bool.and_true, Int.reduceBEq, Option.bind_some, nth_succ, nth_zero, asInt_int, asBool_bool, pk 120 (by omega)]
    cases fixd <;> simp only [cond_true, cond_false, Option.bind_some, nth_succ, nth_zero, asInt_int] <;> cases ty == 7 <;> rfl
  · refine Exists.imp (fun g hg => ⟨Eq.trans ?_ hg.1, hg.2⟩) (fin 9 le (fun s => [a0, .int ty, nth (GV.list 2 true (encL ty) []).all (pickZ x2.asInt ((encL ty).length : Int)).toNat, (.int 1), le, .int s]) (by omega) (by omega) (Or.inr ⟨by omega, e4, by decide⟩) (fun s => ⟨rfl, rfl, rfl, rfl, rfl⟩))
    simp only [Int.reduceGT, decide_true, decide_false, cond_true, cond_false, Bool.and_true, Int.reduceBEq, Option.bind_some, nth_succ, nth_zero, asInt_int, asBool_bool, pk 9 (by omega)]
    cases fixd <;> simp only [cond_true, cond_false, Option.bind_some, nth_succ, nth_zero, asInt_int] <;> cases ty == 7 <;> rfl
  · refine Exists.imp (fun g hg => ⟨Eq.trans ?_ hg.1, hg.2⟩) (fin 99 le (fun s => [a0, .int ty, nth (GV.list 2 true (encL ty) []).all (pickZ x2.asInt ((encL ty).length : Int)).toNat, (.int 2), le, .int s]) (by omega) (by omega) (Or.inr ⟨by omega, e4, by decide⟩) (fun s => ⟨rfl, rfl, rfl, rfl, rfl⟩))
    simp only [Int.reduceGT, decide_true, decide_false, cond_true, cond_false, Bool.and_true, Int.reduceBEq, Option.bind_some, nth_succ, nth_zero, asInt_int, asBool_bool, pk 99 (by omega)]
    cases fixd <;> simp only [cond_true, cond_false, Option.bind_some, nth_succ, nth_zero, asInt_int] <;> cases ty == 7 <;> rfl
  · refine Exists.imp (fun g hg => ⟨Eq.trans ?_ hg.1, hg.2⟩) (fin 120 le (fun s => [a0, .int ty, nth (GV.list 2 true (encL ty) []).all (pickZ x2.asInt ((encL ty).length : Int)).toNat, (.int 3), le, .int s]) (by omega) (by omega) (Or.inr ⟨by omega, e4, by decide⟩) (fun s => ⟨rfl, rfl, rfl, rfl, rfl⟩))
    simp only [Int.reduceGT, decide_true, decide_false, cond_true, cond_false, Bool.and_true, Int.reduceBEq, Option.bind_some, nth_succ, nth_zero, asInt_int, asBool_bool, pk 120 (by omega)]
    cases fixd <;> simp only [cond_true, cond_false, Option.bind_some, nth_succ, nth_zero, asInt_int] <;> cases ty == 7 <;> rfl
  · refine Exists.imp (fun g hg => ⟨Eq.trans ?_ hg.1, hg.2⟩) (fin 120 le (fun s => [a0, .int ty, nth (GV.list 2 true (encL ty) []).all (pickZ x2.asInt ((encL ty).length : Int)).toNat, (.int 4), le, .int s]) (by omega) (by omega) (Or.inr ⟨by omega, e4, by decide⟩) (fun s => ⟨rfl, rfl, rfl, rfl, rfl⟩))
    simp only [Int.reduceGT, decide_true, decide_false, cond_true, cond_false, Bool.and_true, Int.reduceBEq, Option.bind_some, nth_succ, nth_zero, asInt_int, asBool_bool, pk 120 (by omega)]
    cases fixd <;> simp only [cond_true, cond_false, Option.bind_some, nth_succ, nth_zero, asInt_int] <;> cases ty == 7 <;> rfl

end Go.Proofs.Ytgneobkmmmpbiaa
