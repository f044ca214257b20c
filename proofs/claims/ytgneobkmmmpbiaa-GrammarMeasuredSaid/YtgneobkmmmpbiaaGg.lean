/- The row of GrammarMeasured. -/
import Derived.Test.YtgneobkmmmpbiaaRows
import Derived.Test.YtgneobkmmmpbiaaGf
import Derived.Test.YtgneobkmmmpbiaaEc
import Derived.WalkKit
import Derived.ProofKit
import Derived.OpenShut
import Derived.ShutString
import Derived.ChangeOld
import Derived.Below
import Derived.SizedLaws
namespace Go.Proofs.Ytgneobkmmmpbiaa.Gm
open Go Go.Proofs Go.Eng
open Go.ChangeShapes Go.WideShapes Go.ChangeAt Go.RowKit
set_option linter.unusedVariables false
set_option linter.unusedSimpArgs false

theorem own : ownKnob Try.prog.godebug = none := by kernel_rfl
theorem laidOut : laidOutB Try.prog = true := by kernel_rfl

theorem r64 {n : Int} (h : inK .i64 n) : R64 n := by
  unfold inK at h
  unfold R64
  simp [Lit.wf, IntKind.min, IntKind.max, IntKind.bits, IntKind.signed] at h
  omega
theorem raw_flat {H : Type} {enc : TypeId × Value → H} {w : World} {sp : Nat → Bool} {held : Bool} {F : Nat → Prop} : FlatAt enc Try.prog tl w 0 sp held F 49 := by
  have hd : (ttOf tl 49).desc = .struct [(0, 3), (1, 3), (2, 3), (3, 3), (4, 3)] := by kernel_rfl
  have hs : (ttOf tl 49).sz = 5 := by kernel_rfl
  have h3 : (ttOf tl 3).desc = .int .i64 := by kernel_rfl
  refine flat_struct hP hd fun j hj => ?_
  rw [hs] at hj
  refine ⟨j, 3, .i64, ?_, h3⟩
  match j, hj with
  | 0, _ => rfl
  | 1, _ => rfl
  | 2, _ => rfl
  | 3, _ => rfl
  | 4, _ => rfl
theorem raw_range {w : World} {F : Nat → Prop} {g : GV} {v : Value} (h : GRel (ttOf tl) w F (.slice 49) g v) : ∀ i, i < g.asList.length → ∀ j, j < 5 → R64 (cellG true (nth g.asList i) j).asInt := by
  intro i hi j hj
  have e49 : ttOf tl 49 = ⟨[.int .i64, .int .i64, .int .i64, .int .i64, .int .i64], true, 40, .struct [(0, 3), (1, 3), (2, 3), (3, 3), (4, 3)]⟩ := by kernel_rfl
  cases h with
  | nil h =>
    have : g.asList = [] := by
      unfold GV.all at h
      exact (List.append_eq_nil_iff.1 h).1
    rw [this] at hi; simp at hi
  | slice a cap f hz hs hF hc hm hw hr =>
    have hlt : i < g.all.length := by unfold GV.all; rw [List.length_append]; omega
    have := hr i j hlt (by rw [e49]; exact hj)
    rw [e49, nth_all hi] at this
    have hck : (TI.ck ⟨[.int .i64, .int .i64, .int .i64, .int .i64, .int .i64], true, 40, .struct [(0, 3), (1, 3), (2, 3), (3, 3), (4, 3)]⟩ j) = .int .i64 := by
      match j, hj with
      | 0, _ => rfl
      | 1, _ => rfl
      | 2, _ => rfl
      | 3, _ => rfl
      | 4, _ => rfl
    rw [hck] at this
    generalize f i j = u at this
    cases this with
    | int h => exact r64 h

set_option maxRecDepth 100000 in
theorem lifted (os : Os) (started : os.Started) (H : Type) (enc : TypeId × Value → H) :
    ReturnsInHanded {} Try.checked os 3 .any (Rows.grammarMeasuredSpec.pre6 enc Try.prog Try.f3 Rows.grammarMeasuredRow.domain false) (Rows.grammarMeasuredSpec.post enc Try.prog Try.f3 false true false false) := by
  refine returnsInHanded_of_change_sized (C := Try.checked) own started (by kernel_rfl) Try.func3
    (ChangeSpec.witness6 (enc := enc) (C := Try.checked) false ⟨#[], #[.slice none 0 0, .slice none 0 0, .int .i64 0, .int .i64 0], []⟩ 8 (by kernel_rfl) (by kernel_rfl) (by kernel_rfl) (by kernel_rfl)) ?_
  intro W base args ds gs before hval0 hW hcnd hsz0 _
  have hval : ∀ (j : Nat) t v, Try.f3.params[j]? = some t → args[j]? = some v → Value.okWide Try.prog W .any base t v := hval0
  have hW' := hW
  obtain ⟨p, q, hA0, hV, rfl, hfz, hnd⟩ := hW
  have hA : DataW.TrodAll enc Try.prog W 0 (fun _ => true) true Try.f3.params.toList args.toList ds p := hA0
  rw [Try.params3] at hA hval
  obtain ⟨v0, vs0, d0, ds0, p0, q0, hargs, rfl, rfl, h0, s0⟩ := trodAll_cons hA
  obtain ⟨v1, vs1, d1, ds1, p1, q1, rfl, rfl, rfl, h1, s1⟩ := trodAll_cons s0
  obtain ⟨v2, vs2, d2, ds2, p2, q2, rfl, rfl, rfl, h2, s2⟩ := trodAll_cons s1
  obtain ⟨v3, vs3, d3, ds3, p3, q3, rfl, rfl, rfl, h3, s3⟩ := trodAll_cons s2
  obtain ⟨rfl, rfl, rfl⟩ := trodAll_nil s3
  obtain rfl : args = #[v0, v1, v2, v3] := by cases args; simp_all
  obtain ⟨rfl, rfl⟩ := trodVars_none hV
  have lt0 : ∀ x ∈ p0, x.block < W.heap.size := by obtain ⟨m, hm⟩ := h0; exact DataW.trod_lt m _ _ _ hm
  have lt1 : ∀ x ∈ p1, x.block < W.heap.size := by obtain ⟨m, hm⟩ := h1; exact DataW.trod_lt m _ _ _ hm
  obtain ⟨g0, k0⟩ := slice_arg hP (t := 22) (e := 49) (by kernel_rfl) raw_flat (hval 0 22 v0 rfl rfl) h0
  obtain ⟨g1, k1⟩ := slice_arg hP (t := 22) (e := 49) (by kernel_rfl) raw_flat (hval 1 22 v1 rfl rfl) h1
  obtain ⟨a2, rfl, rfl, rfl, w2⟩ := open_int Try.underlying3 (hval 2 3 v2 rfl rfl) h2
  obtain ⟨a3, rfl, rfl, rfl, w3⟩ := open_int Try.underlying3 (hval 3 3 v3 rfl rfl) h3
  have k2 : GRel (ttOf tl) W (fun b => b < W.heap.size) (.int .i64) (.int a2) (.int .i64 a2) := GRel.int (g := .int a2) w2
  have k3 : GRel (ttOf tl) W (fun b => b < W.heap.size) (.int .i64) (.int a3) (.int .i64 a3) := GRel.int (g := .int a3) w3
  have t22 : ttOf tl 22 = ⟨[.slice 49], false, 24, .slice 49⟩ := by kernel_rfl
  have t3 : ttOf tl 3 = ⟨[.int .i64], false, 8, .int .i64⟩ := by kernel_rfl
  have t4 : ttOf tl 4 = ⟨[.bool], false, 1, .bool⟩ := by kernel_rfl
  have run := law_ok W (fun b => b < W.heap.size) #[v0, v1, .int .i64 a2, .int .i64 a3] [g0, g1, .int a2, .int a3] [.bool true] (fun b h => h) rfl rfl (fun q t g v hq hg hv => by
      match q with
      | 0 =>
        obtain rfl : 22 = t := by simpa [law_sg] using hq
        obtain rfl : g0 = g := by simpa using hg
        obtain rfl : v0 = v := by simpa using hv
        unfold Eng.seen; rw [t22]; exact k0
      | 1 =>
        obtain rfl : 22 = t := by simpa [law_sg] using hq
        obtain rfl : g1 = g := by simpa using hg
        obtain rfl : v1 = v := by simpa using hv
        unfold Eng.seen; rw [t22]; exact k1
      | 2 =>
        obtain rfl : 3 = t := by simpa [law_sg] using hq
        obtain rfl : GV.int a2 = g := by simpa using hg
        obtain rfl : Value.int .i64 a2 = v := by simpa using hv
        unfold Eng.seen; rw [t3]; exact k2
      | 3 =>
        obtain rfl : 3 = t := by simpa [law_sg] using hq
        obtain rfl : GV.int a3 = g := by simpa using hg
        obtain rfl : Value.int .i64 a3 = v := by simpa using hv
        unfold Eng.seen; rw [t3]; exact k3
      | q + 4 => simp [law_sg] at hq) (law_true (raw_range k0) (fun i hi => raw_range k1 i hi 0 (by omega)) (r64 w2) (r64 w3))
  refine run.mono fun e W' he => ?_
  cases e with
  | returned v =>
    obtain ⟨bel, hres⟩ := he
    obtain ⟨vs, F', S, rfl, hsz, _, _, hall, _, _⟩ := hres.ex
    have hs1 : vs.size = 1 := hsz
    have hv0 : vs[0]? = some vs[0] := Array.getElem?_eq_getElem (by omega)
    obtain ⟨c1, c2, c3, c4⟩ := hall 0 4 [] vs[0] rfl hv0
    rw [t4] at c3 c4
    have c3 := c3 rfl
    have hx : vs[0].cells[0]? = some vs[0] := by rw [c3]; rfl
    have ho := (c4 0 vs[0] hx).1
    have hb : vs[0] = .bool true := by
      generalize vs[0] = u at ho
      have ho : Own (ttOf tl) W' F' .bool (.bool true) u (S 0 0) := ho
      generalize S 0 0 = S0 at ho
      cases ho with
      | plain h _ =>
        cases h with
        | bool => rfl
    have ht : tupled vs = .bool true := by
      unfold tupled
      rw [dif_pos hs1]; exact hb
    rw [ht]
    exact ⟨_, rfl, _, _, _, [], _, [], hW', trodAll_mk1 (shut_bool Try.underlying4 _), (trodAll_cons_mk (Below.trod laidOut (by kernel_rfl) (of_decide_eq_true (by kernel_rfl)) h0 bel lt0) (trodAll_cons_mk (Below.trod laidOut (by kernel_rfl) (of_decide_eq_true (by kernel_rfl)) h1 bel lt1) (trodAll_cons_mk (shut_int Try.underlying3 w2) (trodAll_cons_mk (shut_int Try.underlying3 w3) trodAll_mk0)))), rfl, bel.frame _, fun h => by cases h⟩
  | _ => exact he.elim

theorem over : Rows.grammarMeasuredRow.holds Try.pinned (OpenSpec.ofChange Rows.grammarMeasuredSpec) :=
  OpenClaim.holds_of_wide 3 Try.f3 rfl rfl rfl rfl rfl rfl rfl ⟨rfl, rfl, rfl, rfl, rfl⟩ rfl rfl rfl rfl rfl (by kernel_rfl) Try.func3 (by kernel_rfl)
    (of_decide_eq_true (by kernel_rfl)) (by unfold Func.isWrapper; first | (rw [if_pos (by decide +kernel)]; kernel_rfl) | (rw [if_neg (by decide +kernel)]; exact ⟨rfl, rfl⟩))
    (fun os started H enc _ => lifted os started H enc)
theorem proved : Rows.GrammarMeasuredSaid := over
#print axioms proved
end Go.Proofs.Ytgneobkmmmpbiaa.Gm
namespace Go.Proofs.Ytgneobkmmmpbiaa
/-- The row, under a short name, for the claim. -/
theorem grammarMeasured_holds : Rows.GrammarMeasuredSaid := Gm.proved
end Go.Proofs.Ytgneobkmmmpbiaa
