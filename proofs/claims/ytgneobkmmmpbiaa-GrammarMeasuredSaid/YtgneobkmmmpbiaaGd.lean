/- What is made is good. -/
import Derived.Test.YtgneobkmmmpbiaaGc
namespace Go.Proofs.Ytgneobkmmmpbiaa
open Go Go.Proofs Go.Eng
set_option linter.unusedVariables false
set_option linter.unusedSimpArgs false

/-- A good grammar. -/
structure goodD (d : GV) : Prop where
  ex : ∃ (nm v me pe mac : GV) (F R ty : List GV) (last last2 : Int), d = .agg [nm, v, me, pe, .list 2 true F [], .list 2 true R [], mac] ∧ (me.asInt = 1 ∨ me.asInt = 2 ∨ me.asInt = 4) ∧ (pe.asInt = 5 ∨ pe.asInt = 1 ∨ pe.asInt = 4) ∧
    goodF F last ∧ F.length ≤ 22 ∧ tyOk ty = true ∧ goodR F ty R last2 ∧ R ≠ [] ∧ R.length ≤ 7
theorem three {X : List GV} {a b c : GV} {i : Int} (h : 0 ≤ i ∧ i < 3) : nth [a, b, c] i.toNat = a ∨ nth [a, b, c] i.toNat = b ∨ nth [a, b, c] i.toNat = c := by
  have : i.toNat = 0 ∨ i.toNat = 1 ∨ i.toNat = 2 := by omega
  rcases this with h | h | h <;> rw [h] <;> simp
theorem len_zero {l : List GV} (h : ((l.length : Int) == 0) = true) : l = [] := by
  have : (l.length : Int) = 0 := by simpa using h
  exact List.length_eq_zero_iff.1 (by omega)

theorem made_good {a0 a1 a2 : GV} (h0 : ∀ i, i < a0.asList.length → ∀ j, j < 5 → R64 (cellG true (nth a0.asList i) j).asInt) (h1 : ∀ i, i < a1.asList.length → R64 (cellG true (nth a1.asList i) 0).asInt) (h2 : R64 a2.asInt) :
    ∃ o, made_s [a0, a1, a2] = some o ∧ ∃ d, o = [d] ∧ goodD d := by
  show ∃ o, made_f 1000 a0 a1 a2 = some o ∧ _
  unfold made_f
  have p10 := pickZ_range h2 (show (0 : Int) < 10 by omega)
  have p2 := pickZ_range (wrapR (a2.asInt.tdiv 10)) (show (0 : Int) < 2 by omega)
  have p20 := pickZ_range (wrapR (a2.asInt.tdiv 20)) (show (0 : Int) < 3 by omega)
  have p60 := pickZ_range (wrapR (a2.asInt.tdiv 60)) (show (0 : Int) < 3 by omega)
  have p180 := pickZ_range (wrapR (a2.asInt.tdiv 180)) (show (0 : Int) < 3 by omega)
  generalize pickZ a2.asInt 10 = n10 at *
  generalize pickZ (IntKind.i64.wrap (a2.asInt.tdiv 10)) 2 = n2 at *
  generalize pickZ (IntKind.i64.wrap (a2.asInt.tdiv 20)) 3 = n20 at *
  generalize pickZ (IntKind.i64.wrap (a2.asInt.tdiv 60)) 3 = n60 at *
  generalize pickZ (IntKind.i64.wrap (a2.asInt.tdiv 180)) 3 = n180 at *
  have c1 : (inRange (IntKind.i64.wrap (n10 + 1)) 11 && inRange n10 ((IntKind.i64.wrap (n10 + 1)).toNat + 1)) = true := by
    rw [w64 (by omega) (by omega), inRange_iff'.2 ⟨by omega, by omega⟩, inRange_iff'.2 ⟨by omega, by omega⟩]; rfl
  generalize (inRange (IntKind.i64.wrap (n10 + 1)) 11 && inRange n10 ((IntKind.i64.wrap (n10 + 1)).toNat + 1)) = b at c1 ⊢
  subst c1
  simp only [cond_true]
  have c2 : Nat.ble (5 + ((ByteArray.mk #[48, 49, 50, 51, 52, 53, 54, 55, 56, 57]).extract n10.toNat (IntKind.i64.wrap (n10 + 1)).toNat).size) 140737488351232 = true := by
    apply Nat.ble_eq_true_of_le
    rw [ByteArray.size_extract]
    have : (ByteArray.mk #[48, 49, 50, 51, 52, 53, 54, 55, 56, 57]).size = 10 := rfl
    omega
  rw [c2, inRange_iff'.2 p20, inRange_iff'.2 p60, inRange_iff'.2 p180]
  simp only [cond_true, Bool.and_true]
  generalize ByteArray.mk #[109, 97, 100, 101, 45] ++ _ = nm
  have t20 := three (X := []) (a := .int 1) (b := .int 2) (c := .int 4) p20
  have t60 := three (X := []) (a := .int 5) (b := .int 1) (c := .int 4) p60
  have t180 := three (X := []) (a := .int 0) (b := .int 64) (c := .int 128) p180
  generalize nth [GV.int 1, GV.int 2, GV.int 4] n20.toNat = me at *
  generalize nth [GV.int 5, GV.int 1, GV.int 4] n60.toNat = pe at *
  generalize nth [GV.int 0, GV.int 64, GV.int 128] n180.toNat = mac at *
  -- the limit
  refine bind_ex (fun o => ∃ lm : Int, o = [.int 0, a0, a1, .int lm, .str (ByteArray.mk #[]), .int 0, .int 0, .int 0, .list 2 true [] [], .list 2 true [] [], .int 0, .str nm, .int n2, me, pe, .list 2 true [] [], .list 2 true [] [], mac] ∧ lm ≤ 128 ∧
      (mac.asInt = 0 ∨ (mac.asInt = 64 ∨ mac.asInt = 128) ∧ 1 ≤ lm ∧ lm < mac.asInt)) ?_ ?_
  · rcases t180 with rfl | rfl | rfl
    · exact ⟨_, rfl, 128, rfl, by omega, Or.inl rfl⟩
    · exact ⟨_, rfl, _, rfl, by decide, Or.inr ⟨Or.inl rfl, by decide, by decide⟩⟩
    · exact ⟨_, rfl, _, rfl, by decide, Or.inr ⟨Or.inr rfl, by decide, by decide⟩⟩
  rintro _ ⟨lm, rfl, hlm, hmac⟩
  simp only [nth_zero, nth_succ, asZ_list, asList_list]
  -- the fields
  obtain ⟨F1, hrun1, hl1, last1, hg1, hlast1⟩ := made_fields (a0 := a0) (a1 := a1) h0 hlm (.str (ByteArray.mk #[])) (.int 0) (.int 0) (.int 0) (.int 0) (.str nm) (.int n2) me pe mac 20 0 (by omega) [] 1 (by simp) (goodF.nil 1) (by omega) (by omega) (Or.inl rfl) 1000 (by omega)
  refine bind_ex (fun r => r = (0, [a1, .str (ByteArray.mk #[]), .int 0, .int 0, .int 0, .list 2 true [] [], .list 2 true [] [], .int 0, .str nm, .int n2, me, pe, .list 2 true F1 [], .list 2 true [] [], mac])) ⟨_, hrun1, rfl⟩ ?_
  rintro _ rfl
  simp only [nth_zero, nth_succ, asZ_list, asList_list]
  -- the last field
  refine bind_ex (fun o => ∃ F2 last2, o = [.int 0, a1, .str (ByteArray.mk #[]), .int 0, .int 0, .int 0, .list 2 true [] [], .list 2 true [] [], .int 0, .str nm, .int n2, me, pe, .list 2 true F2 [], .list 2 true [] [], mac] ∧ goodF F2 last2 ∧ F2.length ≤ 21) ?_ ?_
  · rcases hmac with h | ⟨h, hlm1, hlm2⟩
    · exact ⟨_, cF (by omega) _ _, F1, last1, rfl, hg1, by omega⟩
    · have hok : okField (.agg [mac, .int 5, .int 5, .int 0, .int 0, .int 8]) := by
        refine ⟨?_, ⟨by show (0 : Int) ≤ 8; decide, by show (8 : Int) ≤ 120; decide⟩, Or.inl rfl⟩
        rw [cellG_agg, nth_zero]
        rcases h with h | h <;> rw [h] <;> decide
      refine ⟨_, cT (by omega) _ _ |>.trans (bT (lim33 (by unfold LIM; omega)) _ _), F1 ++ [.agg [mac, .int 5, .int 5, .int 0, .int 0, .int 8]], mac.asInt, rfl, ?_, by simp; omega⟩
      rcases hlast1 with h' | h'
      · subst h'
        exact (goodF.nil 0).snoc hok (by show (0 : Int) < mac.asInt; omega)
      · exact hg1.snoc hok (by show last1 < mac.asInt; omega)
  rintro _ ⟨F2, last2, rfl, hg2, hl2⟩
  simp only [nth_zero, nth_succ, asZ_list, asList_list]
  refine bind_ex (fun o => ∃ F3 last3, o = [.int 0, a1, .str (ByteArray.mk #[]), .int 0, .int 0, .int 0, .list 2 true [] [], .list 2 true [] [], .int 0, .str nm, .int n2, me, pe, .list 2 true F3 [], .list 2 true [] [], mac] ∧ goodF F3 last3 ∧ F3.length ≤ 22) ?_ ?_
  · cases hz : (F2.length : Int) == 0 with
    | false => exact ⟨_, rfl, F2, last2, rfl, hg2, by omega⟩
    | true =>
      have := len_zero hz
      subst this
      have hok : okField (.agg [GV.int 3, GV.int (IntKind.i64.wrap (1 + pickZ 0 9)), GV.int 1, GV.int (pickZ 0 5), GV.int 0, GV.int (IntKind.i64.wrap (1 + pickZ 0 120))]) := ⟨by decide, ⟨by decide, by decide⟩, Or.inl (by decide)⟩
      exact ⟨_, (bT rfl _ _).trans (bT (lim33 (by unfold LIM; exact (by decide : (0 : Nat) + 1 ≤ 1099511627776))) _ _), [] ++ [_], _, rfl, (goodF.nil 0).snoc hok (by decide), by simp⟩
  rintro _ ⟨F, last, rfl, hg, hl⟩
  simp only [nth_zero, nth_succ, asZ_list, asList_list]
  -- the types
  obtain ⟨ht1, ht2⟩ := types_run n2 (by omega)
  refine bind_ex (fun o => o = [.list 2 true (tyL n2) []]) ⟨_, ht1, rfl⟩ ?_
  rintro _ rfl
  simp only [nth_zero, nth_succ, asZ_list, asList_list, asSp_list]
  -- the rules
  obtain ⟨R1, hrun2, hl2, last4, hg4⟩ := made_rules (a1 := a1) h1 (F := F) (ty := tyL n2) (by omega) ht2 (.str (ByteArray.mk #[])) (.int 0) (.int 0) (.int 0) (.int 0) (.str nm) (.int n2) me pe mac 6 0 (by omega) [] (-1) (by simp) (goodR.nil _ _ _) (by omega) (by omega) 1000 (by omega)
  refine bind_ex (fun r => r = (0, [.str (ByteArray.mk #[]), .int 0, .int 0, .int 0, .list 2 true [] [], .list 2 true [] [], .int 0, .str nm, .int n2, me, pe, .list 2 true F [], .list 2 true R1 [], mac, .list 2 true (tyL n2) []])) ⟨_, hrun2, rfl⟩ ?_
  rintro _ rfl
  simp only [nth_zero, nth_succ, asZ_list, asList_list, asSp_list]
  refine bind_ex (fun o => ∃ R last5, o = [.int 0, .str (ByteArray.mk #[]), .int 0, .int 0, .int 0, .list 2 true [] [], .list 2 true [] [], .int 0, .str nm, .int n2, me, pe, .list 2 true F [], .list 2 true R [], mac] ∧ goodR F (tyL n2) R last5 ∧ R ≠ [] ∧ R.length ≤ 7) ?_ ?_
  · cases hz : (R1.length : Int) == 0 with
    | false => exact ⟨_, rfl, R1, last4, rfl, hg4, fun h => (by rw [h] at hz; exact absurd hz (by decide)), by omega⟩
    | true =>
      have := len_zero hz
      subst this
      have hl21 := ty_len ht2
      obtain ⟨c, hc, hrun⟩ := rule10_run (a0 := GV.agg [.str nm, .int n2, me, pe, .list 2 true F [], .list 2 true [] [], mac]) (a1 := nth (tyL n2) 0) (a2 := .agg [.int 0, .int 0, .int 0, .int 0, .int 0]) (F := F) rfl (by omega)
      refine ⟨_, (bT rfl _ _).trans ((bT (inRange_iff'.2 ⟨by omega, by omega⟩) _ _).trans ?_), _, _, rfl, (goodR.nil F (tyL n2) (-1)).snoc (c := c) (t := 0) ht2 (by omega) (by omega) hc, by simp, by simp⟩
      have hnt : nth (GV.list 2 true (tyL n2) []).all 0 = nth (tyL n2) 0 := nth_all (g := .list 2 true (tyL n2) []) (by simp only [asList_list]; omega)
      rw [hnt, hrun]
      simp only [Option.bind_some, nth_zero, nth_succ, cellG_agg, asZ_list, asList_list, asSp_list, Bool.and_true]
      exact bT (lim30 (by unfold LIM; exact (by decide : (0 : Nat) + 1 ≤ 1099511627776))) _ _
  rintro _ ⟨R, last5, rfl, hg5, hR, hl5⟩
  simp only [nth_zero, nth_succ, asZ_list, asList_list, asSp_list]
  refine ⟨_, rfl, _, rfl, ⟨.str nm, .int n2, me, pe, mac, F, R, tyL n2, last, last5, rfl, ?_, ?_, hg, hl, ht2, hg5, hR, hl5⟩⟩
  · rcases t20 with rfl | rfl | rfl <;> simp
  · rcases t60 with rfl | rfl | rfl <;> simp

end Go.Proofs.Ytgneobkmmmpbiaa
