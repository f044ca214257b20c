/- The fields that are made; the rules that are made. -/
import Derived.Test.YtgneobkmmmpbiaaGb
namespace Go.Proofs.Ytgneobkmmmpbiaa
open Go Go.Proofs Go.Eng
set_option linter.unusedVariables false
set_option linter.unusedSimpArgs false

theorem bind_ex {α β : Type} {x : Option α} {f : α → Option β} (P : α → Prop) {Q : β → Prop} (h1 : ∃ o, x = some o ∧ P o) (h2 : ∀ o, P o → ∃ d, f o = some d ∧ Q d) : ∃ d, x.bind f = some d ∧ Q d := by
  obtain ⟨o, rfl, ho⟩ := h1
  exact h2 o ho
def num (g : GV) : Int := (cellG true g 0).asInt
/-- Good fields, in rising order. -/
structure goodF (F : List GV) (last : Int) : Prop where
  ok : ∀ g ∈ F, okField g
  le : ∀ g ∈ F, num g ≤ last
  up : F.Pairwise fun a b => num a < num b
theorem goodF.nil (last : Int) : goodF [] last := ⟨fun g h => (List.not_mem_nil h).elim, fun g h => (List.not_mem_nil h).elim, .nil⟩
theorem goodF.snoc {F : List GV} {last : Int} (h : goodF F last) {g : GV} (hg : okField g) (hn : last < num g) : goodF (F ++ [g]) (num g) := by
  refine ⟨fun x hx => ?_, fun x hx => ?_, ?_⟩
  · rcases List.mem_append.1 hx with h' | h'
    · exact h.ok x h'
    · rw [List.mem_singleton.1 h']; exact hg
  · rcases List.mem_append.1 hx with h' | h'
    · have := h.le x h'; omega
    · rw [List.mem_singleton.1 h']; omega
  · rw [List.pairwise_append]
    refine ⟨h.up, List.pairwise_singleton _ _, fun a ha b hb => ?_⟩
    rw [List.mem_singleton.1 hb]
    have := h.le a ha
    omega
theorem goodF.mono {F : List GV} {l l' : Int} (h : goodF F l) (hl : l ≤ l') : goodF F l' := ⟨h.ok, fun g hg => by have := h.le g hg; omega, h.up⟩
theorem lim33 {n m : Nat} (h : n + m ≤ LIM) : lim tl 33 n m = true := lim_ok (x := ttOf tl 33) (by kernel_rfl) (by decide) h
theorem lim30 {n m : Nat} (h : n + m ≤ LIM) : lim tl 30 n m = true := lim_ok (x := ttOf tl 30) (by kernel_rfl) (by decide) h

theorem andT {p q : Prop} {i : Decidable p} {j : Decidable q} (hp : p) (hq : q) : (bif @decide p i then @decide q j else false) = true := by rw [dT hp, dT hq]; rfl
theorem andF1 {p : Prop} {i : Decidable p} {b : Bool} (hp : ¬ p) : (bif @decide p i then b else false) = false := by rw [dF hp]; rfl
theorem andF2 {q : Prop} {j : Decidable q} {b : Bool} (hq : ¬ q) : (bif b then @decide q j else false) = false := by rw [dF hq]; cases b <;> rfl

theorem made_fields {a0 a1 : GV} (ha : ∀ i, i < a0.asList.length → ∀ j, j < 5 → R64 (cellG true (nth a0.asList i) j).asInt) {lm : Int} (hlm : lm ≤ 128) (c5 c6 c7 c8 c11 c12 c13 c14 c15 c18 : GV) :
    ∀ m i : Nat, i + m = 20 → ∀ (F : List GV) (last : Int), F.length ≤ i → goodF F last → 1 ≤ last → last ≤ 128 → (F = [] ∨ last ≤ lm) → ∀ N, m < N →
      ∃ F' : List GV, loopR (made_e0 1000).step N [a0, a1, .int lm, .int last, .int (i : Nat), c5, c6, c7, c8, .list 2 true [] [], .list 2 true [] [], c11, c12, c13, c14, c15, .list 2 true F [], .list 2 true [] [], c18] =
        some (0, [a1, c5, c6, c7, c8, .list 2 true [] [], .list 2 true [] [], c11, c12, c13, c14, c15, .list 2 true F' [], .list 2 true [] [], c18]) ∧ F'.length ≤ 20 ∧ ∃ last', goodF F' last' ∧ (F' = [] ∨ last' ≤ lm) := by
  intro m
  induction m with
  | zero =>
    intro i hi F last hl hg h1 h2 h3 N hN
    obtain ⟨N, rfl⟩ : ∃ N', N = N' + 1 := ⟨N - 1, by omega⟩
    simp only [loopR]
    rw [made_t0]
    unfold made_b0
    exact ⟨F, bF (andF2 (show ¬ ((i : Nat) : Int) < 20 by omega)) _ _, by omega, last, hg, h3⟩
  | succ m ih =>
    intro i hi F last hl hg h1 h2 h3 N hN
    obtain ⟨N, rfl⟩ : ∃ N', N = N' + 1 := ⟨N - 1, by omega⟩
    simp only [loopR]
    rw [made_t0]
    unfold made_b0
    by_cases hlt : i < a0.asList.length
    case neg => exact ⟨F, bF (andF1 (show ¬ ((i : Nat) : Int) < ((a0.asList.length : Nat) : Int) by omega)) _ _, by omega, last, hg, h3⟩
    case pos =>
    have hn : nth a0.all i = nth a0.asList i := nth_all hlt
    have hr := pickZ_range (ha i hlt 0 (by omega)) (show (0 : Int) < 12 by omega)
    have hw : IntKind.i64.wrap (IntKind.i64.wrap ((GV.int last).asInt + 1) + pickZ (cellG true (nth a0.all (GV.int (i : Int)).asInt.toNat) 0).asInt 12) = last + 1 + pickZ (cellG true (nth a0.asList i) 0).asInt 12 := by
      simp only [asInt_int, Int.toNat_natCast, hn]
      rw [w64 (n := last + 1) (by omega) (by omega), w64 (by omega) (by omega)]
    generalize hx : last + 1 + pickZ (cellG true (nth a0.asList i) 0).asInt 12 = x at hw
    rw [hw]
    -- the number
    obtain ⟨k, hk1, hk2, hkX⟩ : ∃ k : Int, last + 1 ≤ k ∧ k ≠ 65 ∧ ∀ X : Int → List GV, (bif x == 65 then some (X 66) else some (X x)) = some (X k) := by
      by_cases h65 : x = 65
      · exact ⟨66, by omega, by omega, fun X => bT (by rw [h65]; rfl) _ _⟩
      · exact ⟨x, by omega, h65, fun X => bF (beq_eq_false_iff_ne.2 h65) _ _⟩
    simp only [asZ_list, asList_list]
    rw [hkX fun k => [GV.int 0, a0, a1, GV.int lm, GV.int k, GV.int (i : Nat), c5, c6, c7, c8, GV.list 2 true [] [], GV.list 2 true [] [], c11, c12, c13, c14, c15, GV.list 2 true F [], GV.list 2 true [] [], c18]]
    have c1 : (bif decide ((GV.int (i : Int)).asInt < (a0.asList.length : Int)) then decide ((GV.int (i : Int)).asInt < 20) else false) = true := andT (show ((i : Nat) : Int) < ((a0.asList.length : Nat) : Int) by omega) (show ((i : Nat) : Int) < 20 by omega)
    have c2 : inRange (GV.int (i : Int)).asInt a0.asList.length = true := inRange_nat hlt
    rw [c1, c2]
    simp only [Option.bind_some, cond_true, nth_zero, nth_succ, asInt_int, asList_list, asZ_list, Bool.and_true, Int.toNat_natCast, hn]
    by_cases hkl : k > lm
    · exact ⟨F, cT hkl _ _, by omega, last, hg, h3⟩
    · have hfb : fieldB (GV.int k).asInt = true := fieldB_iff.2 ⟨by simp only [asInt_int]; omega, by simp only [asInt_int]; omega, hk2⟩
      obtain ⟨g, g1, g2, g3, g4⟩ := spec_good (a0 := .int k) (a1 := nth a0.asList i) hfb (ha i hlt)
      have hl33 : lim tl 33 F.length 1 = true := lim33 (by unfold LIM; omega)
      have e6 : GV.agg [cellG true (GV.agg g) 0, cellG true (GV.agg g) 1, cellG true (GV.agg g) 2, cellG true (GV.agg g) 3, cellG true (GV.agg g) 4, cellG true (GV.agg g) 5] = .agg g := by
        rcases g with _ | ⟨x0, _ | ⟨x1, _ | ⟨x2, _ | ⟨x3, _ | ⟨x4, _ | ⟨x5, _ | ⟨x6, t⟩⟩⟩⟩⟩⟩⟩ <;> first | rfl | (simp at g2; done) | (simp only [List.length_cons] at g2; omega)
      have hnum : num (.agg g) = k := by unfold num; rw [cellG_agg, g3]; rfl
      obtain ⟨F', q1, q2, q3⟩ := ih (i + 1) (by omega) (F ++ [.agg g]) k (by simp; omega) (by have := hg.snoc g4 (by rw [hnum]; omega); rw [hnum] at this; exact this) (by omega) (by omega) (Or.inr (by omega)) N (by omega)
      refine ⟨F', ?_, q2, q3⟩
      refine (cF hkl _ _).trans ?_
      rw [g1]
      simp only [Option.bind_some, nth_zero, hl33, cond_true]
      rw [e6, w64 (n := (i : Int) + 1) (by omega) (by omega)]
      exact (bT (inRange_nat hlt) _ _).trans q1

/-- A good rule. -/
def mti (r : GV) : ByteArray := (cellG true r 0).asStr
structure okRule (F ty : List GV) (last : Int) (r : GV) : Prop where
  ex : ∃ (c : Nat → Nat) (t : Nat), (t : Int) ≤ last ∧ t < 21 ∧ (∀ i, c i = 0 ∨ c i = 1 ∨ c i = 2) ∧
    r = .agg [nth ty t, .list 0 true (pickN F c F.length 1) [], .list 0 true (pickN F c F.length 2) []]
structure goodR (F ty R : List GV) (last : Int) : Prop where
  ok : ∀ r ∈ R, okRule F ty last r
  up : R.Pairwise fun a b => strEq (mti a) (mti b) = false
theorem ty_apart {ty : List GV} (h : tyOk ty = true) {s t : Nat} (hst : s < t) (ht : t < 21) : strEq (nth ty s).asStr (nth ty t).asStr = false := by
  unfold tyOk at h
  rw [Bool.and_eq_true] at h
  have := List.all_eq_true.1 h.2 t (List.mem_range.2 ht)
  simp only [Bool.and_eq_true, List.all_eq_true, List.mem_range] at this
  have := this.2.2.2 s hst
  simpa using this
theorem ty_len {ty : List GV} (h : tyOk ty = true) : ty.length = 21 := by
  unfold tyOk at h
  rw [Bool.and_eq_true] at h
  exact Nat.eq_of_beq_eq_true h.1
theorem goodR.nil (F ty : List GV) (last : Int) : goodR F ty [] last := ⟨fun g h => (List.not_mem_nil h).elim, .nil⟩
theorem goodR.snoc {F ty R : List GV} {last : Int} (hty : tyOk ty = true) (h : goodR F ty R last) {c : Nat → Nat} {t : Nat} (ht : last < t) (h21 : t < 21) (hc : ∀ i, c i = 0 ∨ c i = 1 ∨ c i = 2) :
    goodR F ty (R ++ [.agg [nth ty t, .list 0 true (pickN F c F.length 1) [], .list 0 true (pickN F c F.length 2) []]]) t := by
  refine ⟨fun r hr => ?_, ?_⟩
  · rcases List.mem_append.1 hr with h' | h'
    · obtain ⟨c', t', k1, k2, k3, k4⟩ := (h.ok r h').ex
      exact ⟨c', t', by omega, k2, k3, k4⟩
    · rw [List.mem_singleton.1 h']
      exact ⟨c, t, by omega, h21, hc, rfl⟩
  · rw [List.pairwise_append]
    refine ⟨h.up, List.pairwise_singleton _ _, fun a ha b hb => ?_⟩
    rw [List.mem_singleton.1 hb]
    obtain ⟨c', t', k1, k2, k3, k4⟩ := (h.ok a ha).ex
    rw [k4]
    exact ty_apart hty (by omega) h21

theorem made_rules {a1 : GV} (ha : ∀ i, i < a1.asList.length → R64 (cellG true (nth a1.asList i) 0).asInt) {F ty : List GV} (hF : F.length ≤ 100) (hty : tyOk ty = true) (c3 c4 c5 c6 c9 c10 c11 c12 c13 c16 : GV) :
    ∀ m i : Nat, i + m = 6 → ∀ (R : List GV) (last : Int), R.length ≤ i → goodR F ty R last → -1 ≤ last → last < 21 → ∀ N, m < N →
      ∃ R' : List GV, loopR (made_e1 1000).step N [a1, .int last, .int (i : Nat), c3, c4, c5, c6, .list 2 true [] [], .list 2 true [] [], c9, c10, c11, c12, c13, .list 2 true F [], .list 2 true R [], c16, .list 2 true ty []] =
        some (0, [c3, c4, c5, c6, .list 2 true [] [], .list 2 true [] [], c9, c10, c11, c12, c13, .list 2 true F [], .list 2 true R' [], c16, .list 2 true ty []]) ∧ R'.length ≤ 6 ∧ ∃ last', goodR F ty R' last' := by
  intro m
  have hl21 := ty_len hty
  induction m with
  | zero =>
    intro i hi R last hl hg h1 h2 N hN
    obtain ⟨N, rfl⟩ : ∃ N', N = N' + 1 := ⟨N - 1, by omega⟩
    simp only [loopR]
    rw [made_t1]
    unfold made_b1
    exact ⟨R, bF (andF2 (show ¬ ((i : Nat) : Int) < 6 by omega)) _ _, by omega, last, hg⟩
  | succ m ih =>
    intro i hi R last hl hg h1 h2 N hN
    obtain ⟨N, rfl⟩ : ∃ N', N = N' + 1 := ⟨N - 1, by omega⟩
    simp only [loopR]
    rw [made_t1]
    unfold made_b1
    by_cases hlt : i < a1.asList.length
    case neg => exact ⟨R, bF (andF1 (show ¬ ((i : Nat) : Int) < ((a1.asList.length : Nat) : Int) by omega)) _ _, by omega, last, hg⟩
    case pos =>
    have hn : nth a1.all i = nth a1.asList i := nth_all hlt
    have hr := pickZ_range (ha i hlt) (show (0 : Int) < 6 by omega)
    have hw : IntKind.i64.wrap (IntKind.i64.wrap ((GV.int last).asInt + 1) + pickZ (cellG true (nth a1.all (GV.int (i : Int)).asInt.toNat) 0).asInt 6) = last + 1 + pickZ (cellG true (nth a1.asList i) 0).asInt 6 := by
      simp only [asInt_int, Int.toNat_natCast, hn]
      rw [w64 (n := last + 1) (by omega) (by omega), w64 (by omega) (by omega)]
    generalize hx : last + 1 + pickZ (cellG true (nth a1.asList i) 0).asInt 6 = x at hw
    rw [hw]
    obtain ⟨t, rfl⟩ : ∃ t : Nat, x = (t : Int) := ⟨x.toNat, by omega⟩
    have c1 : (bif decide ((GV.int (i : Int)).asInt < (a1.asList.length : Int)) then decide ((GV.int (i : Int)).asInt < 6) else false) = true := andT (show ((i : Nat) : Int) < ((a1.asList.length : Nat) : Int) by omega) (show ((i : Nat) : Int) < 6 by omega)
    have c2 : inRange (GV.int (i : Int)).asInt a1.asList.length = true := inRange_nat hlt
    rw [c1, c2]
    simp only [Option.bind_some, cond_true, nth_zero, nth_succ, asInt_int, asList_list, asZ_list, asSp_list, Bool.and_true, Int.toNat_natCast, hn]
    by_cases hkl : t < 21
    case neg => exact ⟨R, cT (by omega) _ _, by omega, last, hg⟩
    case pos =>
      obtain ⟨c, hc, hrun⟩ := rule10_run (a0 := GV.agg [c10, c11, c12, c13, .list 2 true F [], .list 2 true R [], c16]) (a1 := nth ty t) (a2 := nth a1.asList i) (F := F) rfl hF
      have hl30 : lim tl 30 R.length 1 = true := lim30 (by unfold LIM; omega)
      have hnt : nth (GV.list 2 true ty []).all t = nth ty t := nth_all (g := .list 2 true ty []) (by simp only [asList_list]; omega)
      obtain ⟨R', q1, q2, q3⟩ := ih (i + 1) (by omega) _ t (by simp; omega) (hg.snoc hty (by omega) hkl hc) (by omega) (by omega) N (by omega)
      refine ⟨R', ?_, q2, q3⟩
      refine (cF (by omega) _ _).trans ?_
      rw [hnt, hrun, inRange_nat (by omega : t < ty.length)]
      simp only [Option.bind_some, nth_zero, nth_succ, hl30, cond_true, cellG_agg, asZ_list, asList_list, asSp_list]
      rw [w64 (n := (i : Int) + 1) (by omega) (by omega)]
      exact q1

end Go.Proofs.Ytgneobkmmmpbiaa
