/- Room for more; lists put together. -/
import Derived.Test.YtgneobkmmmpbiaaFh
import Derived.Shelf.Spec.SlicesGrow
namespace Go.Proofs.Ytgneobkmmmpbiaa
open Go Go.Proofs Go.Eng Go.RowKit
set_option linter.unusedVariables false
set_option linter.unusedSimpArgs false

def rho : Go.Shelf.Ren := ⟨fun n => bif Nat.beq n 4 then 34 else n, fun t => bif Nat.beq t 22 then 28 else bif Nat.beq t 25 then 3 else t, fun g => g⟩
theorem lays34 : Lays8.n4 Try.prog rho where
  mixed := by kernel_rfl
  f4 := ⟨ "slices.Grow[[]int,int]", by rfl, by kernel_rfl⟩
  t0 := Try.underlying0
  a0 := Try.isAgg0
  z0 := Try.sizeOf0
  v0 := Try.zeroValue0
  t3 := Try.underlying3
  a3 := Try.isAgg3
  z3 := Try.sizeOf3
  v3 := Try.zeroValue3
  t4 := Try.underlying4
  a4 := Try.isAgg4
  z4 := Try.sizeOf4
  v4 := Try.zeroValue4
  t9 := Try.underlying9
  a9 := Try.isAgg9
  z9 := Try.sizeOf9
  v9 := Try.zeroValue9
  t20 := Try.underlying20
  a20 := Try.isAgg20
  z20 := Try.sizeOf20
  v20 := Try.zeroValue20
  t22 := Try.underlying28
  a22 := Try.isAgg28
  z22 := Try.sizeOf28
  v22 := Try.zeroValue28

def grow_sg : FSig := ⟨[28, 3], [(28, [2])], false⟩
/-- For no list: an empty one, with room. -/
def grow_s : List GV → Option R
  | [a0, a1] => bif a0.asZ && (a0.all.isEmpty && (decide (0 ≤ a1.asInt) && decide (a1.asInt ≤ 1000000000000))) then some [.list 2 (decide (a1.asInt ≤ 0)) [] []] else none
  | _ => none
theorem grow_ok : CallsOk Try.prog tl 34 grow_sg grow_s := by
  intro w F args gs outs hF hsz hgl hargs hrun
  rcases gs with _ | ⟨a0, _ | ⟨a1, _ | ⟨a2, t⟩⟩⟩ <;> first | (cases hrun; done) | skip
  simp only [grow_s] at hrun
  cases hb : a0.asZ && (a0.all.isEmpty && (decide (0 ≤ a1.asInt) && decide (a1.asInt ≤ 1000000000000))) with
  | false => rw [hb] at hrun; cases hrun
  | true =>
    rw [hb] at hrun
    simp only [cond_true, Option.some.injEq] at hrun
    subst hrun
    simp only [Bool.and_eq_true, decide_eq_true_eq] at hb
    obtain ⟨hz, he, h0, h1⟩ := hb
    have he := List.isEmpty_iff.1 he
    obtain ⟨n, hn⟩ : ∃ n : Nat, a1.asInt = (n : Int) := ⟨a1.asInt.toNat, by omega⟩
    rw [hn] at h1 ⊢
    have hs2 : args.size = 2 := hsz
    have t28 : ttOf tl 28 = ⟨[.slice 3], false, 24, .slice 3⟩ := by kernel_rfl
    have t3 : ttOf tl 3 = ⟨[.int .i64], false, 8, .int .i64⟩ := by kernel_rfl
    have g0 : args[0]? = some (.slice none 0 0) := by
      have hv : args[0]? = some args[0] := Array.getElem?_eq_getElem (by omega)
      have := hargs 0 28 a0 args[0] rfl rfl hv
      unfold Eng.seen at this
      rw [t28] at this
      have this : GRel (ttOf tl) w F (.slice 3) a0 args[0] := this
      rw [hv]
      generalize args[0] = v at this
      cases this with
      | nil _ => rfl
      | slice a cap f hz' => exact absurd he (hz' hz)
    have g1 : args[1]? = some (.int .i64 n) := by
      have hv : args[1]? = some args[1] := Array.getElem?_eq_getElem (by omega)
      have := hargs 1 3 a1 args[1] rfl rfl hv
      unfold Eng.seen at this
      rw [t3] at this
      have this : GRel (ttOf tl) w F (.int .i64) a1 args[1] := this
      rw [hv]
      generalize args[1] = v at this
      cases this with
      | int _ => rw [hn]
    have hargs' : args = #[.slice none 0 0, .int .i64 n] := by
      apply Array.ext
      · simp [hs2]
      · intro i hi1 hi2
        have : i < 2 := by simpa using hi2
        match i, this with
        | 0, _ => rw [Array.getElem?_eq_getElem (by omega)] at g0; simpa using g0
        | 1, _ => rw [Array.getElem?_eq_getElem (by omega)] at g1; simpa using g1
    subst hargs'
    by_cases hn0 : n = 0
    · subst hn0
      refine Calls.mono (Any8.slices_Grow_room lays34 none 0 0 0 w (Nat.le_refl _) (by omega) (by omega) (by omega)) ?_
      rintro e w' ⟨rfl, rfl⟩
      refine ⟨Below.refl _ w', ⟨⟨#[.slice none 0 0], F, fun _ _ _ => False, rfl, rfl, fun _ h => h, fun _ h => .inl h, ?_, fun q t ms j b _ _ h => h.elim, fun q t ms j q' t' ms' j' b _ _ _ _ h => h.elim⟩⟩⟩
      intro q t ms u hq hu
      match q with
      | 0 =>
        simp only [grow_sg, List.getElem?_cons_zero, Option.some.injEq, Prod.mk.injEq] at hq
        obtain ⟨rfl, rfl⟩ := hq
        simp only [List.getElem?_toArray, List.getElem?_cons_zero, Option.some.injEq] at hu
        subst hu
        rw [t28]
        refine ⟨rfl, (fun h => by cases h), (fun _ => rfl), fun j x hx => ?_⟩
        have hj : j < 1 := (Array.getElem?_eq_some_iff.1 hx).1
        obtain rfl : j = 0 := by omega
        have hx : x = .slice none 0 0 := by simpa [Value.cells] using hx.symm
        subst hx
        exact ⟨Own.nil rfl, fun _ => rfl⟩
      | q + 1 => simp [grow_sg] at hq
    · have hi0 : Try.prog.info? (rho.t 25) = some Try.t3 := Try.type3
      refine Calls.mono (Any8.slices_Grow_grow lays34 Try.t3 (.int .i64 0) hi0 rfl (by decide) none 0 0 n [] w (Nat.le_refl _) (by omega) (by show (0 + n) * 8 ≤ _; omega) (by omega) rfl (fun _ => rfl) (fun a h => by cases h)) ?_
      rintro e w' ⟨rfl, rfl⟩
      generalize hcur : (([] : List Value).toArray ++ Builtin.zeroCells (Value.int .i64 0).cells (0 + n - 0) ++ Builtin.zeroCells (Value.int .i64 0).cells (grownCap w (0 + n) 0 (rho.t 25) - (0 + n))) = cur
      have hge := grownCap_ge w (0 + n) 0 (rho.t 25)
      have hle := grownCap_le_maxLen w (0 + n) 0 (rho.t 25) (by unfold maxLen; omega)
      generalize grownCap w (0 + n) 0 (rho.t 25) = cap at hge hle hcur
      have hcs : cur.size = cap := by
        rw [← hcur]
        simp only [Array.size_append, size_zeroCells]
        show 0 + (0 + n - 0) * 1 + (cap - (0 + n)) * 1 = cap
        omega
      have hnew : (w.drew.alloc (.cells cur (rho.t 25))).heap[w.heap.size]? = some (.cells cur 3 (0, 0)) := heap_alloc_new w.drew _
      have hsize : (w.drew.alloc (.cells cur (rho.t 25))).heap.size = w.heap.size + 1 := Array.size_push ..
      have hown : Own (ttOf tl) (w.drew.alloc (.cells cur (rho.t 25))) F (.slice 3) (.list 2 (decide ((n : Int) ≤ 0)) [] []) (.slice (some ⟨w.heap.size, 0, none⟩) 0 cap) (fun x => x = w.heap.size ∨ ∃ i j, i < 0 ∧ j < 1 ∧ False) :=
        Own.deep (g := .list 2 (decide ((n : Int) ≤ 0)) [] []) w.heap.size cap cur (fun _ _ => undef) (fun _ _ _ => False) (fun h => by
          have : (n : Int) ≤ 0 := of_decide_eq_true h
          omega) rfl hnew (Nat.zero_le _) hle (by rw [hcs, t3]; exact (Nat.mul_one _).symm) (fun i j hi => absurd hi (Nat.not_lt_zero _)) (fun i j hi => absurd hi (Nat.not_lt_zero _)) (fun i j hi => absurd hi (Nat.not_lt_zero _)) (fun i j i' j' x hi => absurd hi (Nat.not_lt_zero _))
      have hS : ∀ b, (b = w.heap.size ∨ ∃ i j, i < 0 ∧ j < 1 ∧ False) → b = w.heap.size := fun b h => h.elim id (fun ⟨_, _, _, _, h⟩ => h.elim)
      refine ⟨(Below.refl _ w).drew.alloc (Nat.le_refl _) _, ⟨⟨#[.slice (some ⟨w.heap.size, 0, none⟩) 0 cap], F, fun _ _ x => x = w.heap.size ∨ ∃ i j, i < 0 ∧ j < 1 ∧ False, rfl, rfl, fun _ h => h, fun _ h => .inl h, ?_, ?_, ?_⟩⟩⟩
      · intro q t ms u hq hu
        match q with
        | 0 =>
          simp only [grow_sg, List.getElem?_cons_zero, Option.some.injEq, Prod.mk.injEq] at hq
          obtain ⟨rfl, rfl⟩ := hq
          simp only [List.getElem?_toArray, List.getElem?_cons_zero, Option.some.injEq] at hu
          subst hu
          rw [t28]
          refine ⟨rfl, (fun h => by cases h), (fun _ => rfl), fun j x hx => ?_⟩
          have hj : j < 1 := (Array.getElem?_eq_some_iff.1 hx).1
          obtain rfl : j = 0 := by omega
          have hx : x = .slice (some ⟨w.heap.size, 0, none⟩) 0 cap := by simpa [Value.cells] using hx.symm
          subst hx
          exact ⟨hown, fun _ => rfl⟩
        | q + 1 => simp [grow_sg] at hq
      · intro q t ms j b _ _ hb'
        have := hS b hb'
        subst this
        exact ⟨Nat.le_refl _, by rw [hsize]; omega, fun h => by have := hF _ h; omega⟩
      · intro q t ms j q' t' ms' j' b hq hj hq' hj' _ _
        have k1 : ∀ {q : Nat} {t : TypeId} {ms : List Nat} {j : Nat}, grow_sg.rs[q]? = some (t, ms) → j < (ttOf tl t).sz → q = 0 ∧ j = 0 := by
          intro q t ms j hq hj
          match q with
          | 0 =>
            simp only [grow_sg, List.getElem?_cons_zero, Option.some.injEq, Prod.mk.injEq] at hq
            obtain ⟨rfl, rfl⟩ := hq
            rw [t28] at hj
            exact ⟨rfl, by simp [TI.sz] at hj; exact hj⟩
          | q + 1 => simp [grow_sg] at hq
        obtain ⟨a1, a2⟩ := k1 hq hj
        obtain ⟨b1, b2⟩ := k1 hq' hj'
        omega

end Go.Proofs.Ytgneobkmmmpbiaa
