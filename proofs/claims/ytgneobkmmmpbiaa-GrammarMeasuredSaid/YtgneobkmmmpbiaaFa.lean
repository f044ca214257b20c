/- What the functions that call no others give back. -/
import Derived.Test.YtgneobkmmmpbiaaTa
namespace Go.Proofs.Ytgneobkmmmpbiaa
open Go Go.Proofs Go.Eng
set_option linter.unusedVariables false
set_option linter.unusedSimpArgs false

def BIG : Nat := 4611686018427387904

/-! pick. -/
def pick_sg : FSig := FSig.mk [3, 3] [(3, [])] false
noncomputable def pick_c : Code := Try.f5.body.getD .skip
def pick_E : Env := ⟨tl, [], dirsOf [], dirsOf [], dirsOf [], joinsOf tl []⟩
def pick_f (fuel : Nat) (a0 a1 : GV) : Option R :=
  bif decide (a0.asInt < 0) then bif !a1.asInt == 0 then some [GV.int ((IntKind.i64.wrap (0 - IntKind.i64.wrap (a0.asInt + 1))).tmod a1.asInt)] else none
else bif !a1.asInt == 0 then some [GV.int (a0.asInt.tmod a1.asInt)] else none
theorem pick_q (fuel : Nat) (a0 a1 : GV) : gexec pick_E (LZ) Try.f5.ntmps Try.f5.results.toList pick_sg pick_c [a0, a1] = pick_f fuel a0 a1 := by kernel_rfl
theorem pick_calls (hS : SpecsOk Try.prog tl pick_E.sp) (fuel : Nat) : CallsOk Try.prog tl 5 pick_sg (gexec pick_E (LZ) Try.f5.ntmps Try.f5.results.toList pick_sg pick_c) :=
  gexec_calls (E := pick_E) hP hS Try.func5 (by kernel_rfl) (by kernel_rfl) (fun W => LZ_ok)
def pickZ (x n : Int) : Int := (bif decide (x < 0) then IntKind.i64.wrap (0 - IntKind.i64.wrap (x + 1)) else x).tmod n
def pick_s : List GV → Option R
  | [a0, a1] => bif !(a1.asInt == 0) then some [.int (pickZ a0.asInt a1.asInt)] else none
  | _ => none
theorem pick_ok : CallsOk Try.prog tl 5 pick_sg pick_s := (pick_calls specs_nil 0).of fun gs outs h => by
  rcases gs with _ | ⟨a0, _ | ⟨a1, _ | ⟨a2, t⟩⟩⟩ <;> first | (cases h; done) | skip
  rw [pick_q 0, ← h]
  simp only [pick_f, pick_s, pickZ]
  cases decide (a0.asInt < 0) <;> rfl

/-! width. -/
def width_sg : FSig := FSig.mk [3, 3] [(3, [])] false
noncomputable def width_c : Code := Try.f8.body.getD .skip
def width_E : Env := ⟨tl, [], dirsOf [], dirsOf [], dirsOf [], joinsOf tl []⟩
def width_f (fuel : Nat) (a0 a1 : GV) : Option R :=
  bif decide (a1.asInt < 0) then some [GV.int 0]
else
  bif a0.asInt == 2 then some [GV.int (IntKind.i64.wrap (IntKind.i64.wrap (a1.asInt.tdiv 2) + a1.asInt.tmod 2))]
  else
    bif a0.asInt == 3 then some [GV.int (IntKind.i64.wrap (IntKind.i64.wrap (a1.asInt.tdiv 2) + a1.asInt.tmod 2))]
    else
      bif a0.asInt == 1 then bif a0.asInt == 1 then some [a1] else some [GV.int 0]
      else bif a0.asInt == 4 then bif a0.asInt == 4 then some [a1] else some [GV.int 0] else bif a0.asInt == 5 then some [a1] else some [GV.int 0]
theorem width_q (fuel : Nat) (a0 a1 : GV) : gexec width_E (LZ) Try.f8.ntmps Try.f8.results.toList width_sg width_c [a0, a1] = width_f fuel a0 a1 := by kernel_rfl
theorem width_calls (hS : SpecsOk Try.prog tl width_E.sp) (fuel : Nat) : CallsOk Try.prog tl 8 width_sg (gexec width_E (LZ) Try.f8.ntmps Try.f8.results.toList width_sg width_c) :=
  gexec_calls (E := width_E) hP hS Try.func8 (by kernel_rfl) (by kernel_rfl) (fun W => LZ_ok)
def widthZ (e n : Int) : Int := bif decide (n < 0) then 0 else bif e == 2 then IntKind.i64.wrap (IntKind.i64.wrap (n.tdiv 2) + n.tmod 2) else bif e == 3 then IntKind.i64.wrap (IntKind.i64.wrap (n.tdiv 2) + n.tmod 2) else
  bif e == 1 then n else bif e == 4 then n else bif e == 5 then n else 0
def width_s : List GV → Option R
  | [a0, a1] => some [.int (widthZ a0.asInt a1.asInt)]
  | _ => none
theorem eqr_int {t : TypeId} {k : IntKind} {by' : Nat} (hl : Eng.look tl t = some ⟨[.int k], false, by', .int k⟩) {g g' : GV} (h : g.asInt = g'.asInt) {ms : List Nat} : EqR tl [(t, ms)] [g] [g'] := by
  have e := ttOf_look hl
  intro q t' ms' hq j hj
  cases q with
  | zero =>
    simp only [List.getElem?_cons_zero, Option.some.injEq, Prod.mk.injEq] at hq
    obtain ⟨rfl, rfl⟩ := hq
    rw [e] at hj ⊢
    have : j = 0 := by simp [TI.sz] at hj; exact hj
    subst this
    exact h
  | succ q => simp at hq
theorem width_ok : CallsOk Try.prog tl 8 width_sg width_s := (width_calls specs_nil 0).ofE fun gs outs h => by
  rcases gs with _ | ⟨a0, _ | ⟨a1, _ | ⟨a2, t⟩⟩⟩ <;> first | (cases h; done) | skip
  rw [width_q 0]
  simp only [width_s, Option.some.injEq] at h
  subst h
  have key : ∃ g, width_f 0 a0 a1 = some [g] ∧ g.asInt = widthZ a0.asInt a1.asInt := by
    simp only [width_f, widthZ]
    cases decide (a1.asInt < 0) <;> cases a0.asInt == 2 <;> cases a0.asInt == 3 <;> cases a0.asInt == 1 <;> cases a0.asInt == 4 <;> cases a0.asInt == 5 <;> exact ⟨_, rfl, rfl⟩
  obtain ⟨g, h1, h2⟩ := key
  exact ⟨[g], h1, eqr_int (k := .i64) (by' := 8) (by kernel_rfl) h2⟩

/-! wide. -/
def wide_sg : FSig := FSig.mk [3, 3] [(3, [])] false
noncomputable def wide_c : Code := Try.f16.body.getD .skip
def wide_E : Env := ⟨tl, [], dirsOf [], dirsOf [], dirsOf [], joinsOf tl []⟩
def wide_f (fuel : Nat) (a0 a1 : GV) : Option R :=
  bif bif decide (a1.asInt < 1) then true else decide (a1.asInt > 4) then some [GV.int 0]
else
  bif a0.asInt == 5 then
    bif a0.asInt == 5 then some [GV.int (IntKind.i64.wrap ((IntKind.i64.wrap (a1.asInt + 1)).tdiv 2))]
    else bif a0.asInt == 1 then bif a0.asInt == 1 then some [a1] else some [GV.int 0] else bif a0.asInt == 4 then some [a1] else some [GV.int 0]
  else
    bif a0.asInt == 2 then some [GV.int (IntKind.i64.wrap ((IntKind.i64.wrap (a1.asInt + 1)).tdiv 2))]
    else bif a0.asInt == 1 then bif a0.asInt == 1 then some [a1] else some [GV.int 0] else bif a0.asInt == 4 then some [a1] else some [GV.int 0]
theorem wide_q (fuel : Nat) (a0 a1 : GV) : gexec wide_E (LZ) Try.f16.ntmps Try.f16.results.toList wide_sg wide_c [a0, a1] = wide_f fuel a0 a1 := by kernel_rfl
theorem wide_calls (hS : SpecsOk Try.prog tl wide_E.sp) (fuel : Nat) : CallsOk Try.prog tl 16 wide_sg (gexec wide_E (LZ) Try.f16.ntmps Try.f16.results.toList wide_sg wide_c) :=
  gexec_calls (E := wide_E) hP hS Try.func16 (by kernel_rfl) (by kernel_rfl) (fun W => LZ_ok)
def wideZ (e d : Int) : Int := bif decide (d < 1) then 0 else bif decide (d > 4) then 0 else bif e == 5 then IntKind.i64.wrap ((IntKind.i64.wrap (d + 1)).tdiv 2) else bif e == 2 then IntKind.i64.wrap ((IntKind.i64.wrap (d + 1)).tdiv 2) else
  bif e == 1 then d else bif e == 4 then d else 0
def wide_s : List GV → Option R
  | [a0, a1] => some [.int (wideZ a0.asInt a1.asInt)]
  | _ => none

theorem wide_ok : CallsOk Try.prog tl 16 wide_sg wide_s := (wide_calls specs_nil 0).ofE fun gs outs h => by
  rcases gs with _ | ⟨a0, _ | ⟨a1, _ | ⟨a2, t⟩⟩⟩ <;> first | (cases h; done) | skip
  rw [wide_q 0]
  simp only [wide_s, Option.some.injEq] at h
  subst h
  have key : ∃ g, wide_f 0 a0 a1 = some [g] ∧ g.asInt = wideZ a0.asInt a1.asInt := by
    simp only [wide_f, wideZ]
    cases decide (a1.asInt < 1) <;> cases decide (a1.asInt > 4) <;> cases a0.asInt == 5 <;> cases a0.asInt == 2 <;> cases a0.asInt == 1 <;> cases a0.asInt == 4 <;> exact ⟨_, rfl, rfl⟩
  obtain ⟨g, h1, h2⟩ := key
  exact ⟨[g], h1, eqr_int (k := .i64) (by' := 8) (by kernel_rfl) h2⟩

/-! field. -/
def field_sg : FSig := FSig.mk [3] [(4, [])] false
noncomputable def field_c : Code := Try.f19.body.getD .skip
def field_E : Env := ⟨tl, [], dirsOf [], dirsOf [], dirsOf [], joinsOf tl []⟩
def field_f (fuel : Nat) (a0 : GV) : Option R :=
  some [GV.bool (bif bif decide (a0.asInt ≥ 2) then decide (a0.asInt ≤ 128) else false then a0.asInt != 65 else false)]
theorem field_q (fuel : Nat) (a0 : GV) : gexec field_E (LZ) Try.f19.ntmps Try.f19.results.toList field_sg field_c [a0] = field_f fuel a0 := by kernel_rfl
theorem field_calls (hS : SpecsOk Try.prog tl field_E.sp) (fuel : Nat) : CallsOk Try.prog tl 19 field_sg (gexec field_E (LZ) Try.f19.ntmps Try.f19.results.toList field_sg field_c) :=
  gexec_calls (E := field_E) hP hS Try.func19 (by kernel_rfl) (by kernel_rfl) (fun W => LZ_ok)
def fieldB (n : Int) : Bool := decide (n ≥ 2) && decide (n ≤ 128) && n != 65
def field_s : List GV → Option R
  | [a0] => some [.bool (fieldB a0.asInt)]
  | _ => none
theorem field_ok : CallsOk Try.prog tl 19 field_sg field_s := (field_calls specs_nil 0).of fun gs outs h => by
  rcases gs with _ | ⟨a0, _ | ⟨a1, t⟩⟩ <;> first | (cases h; done) | skip
  rw [field_q 0, ← h]
  simp only [field_f, field_s, fieldB]
  cases decide (a0.asInt ≥ 2) <;> cases decide (a0.asInt ≤ 128) <;> rfl

/-! one. -/
def one_sg : FSig := FSig.mk [3] [(40, [])] false
noncomputable def one_c : Code := Try.f20.body.getD .skip
def one_E : Env := ⟨tl, [], dirsOf [], dirsOf [], dirsOf [], joinsOf tl []⟩
def one_f (fuel : Nat) (a0 : GV) : Option R :=
  bif decide (a0.asInt ≤ 64) then bif !decide (IntKind.i64.wrap (64 - a0.asInt) < 0) then some [GV.agg [GV.int (shlI IntKind.u64 1 (IntKind.i64.wrap (64 - a0.asInt))), GV.int 0]] else none
else bif !decide (IntKind.i64.wrap (128 - a0.asInt) < 0) then some [GV.agg [GV.int 0, GV.int (shlI IntKind.u64 1 (IntKind.i64.wrap (128 - a0.asInt)))]] else none
theorem one_q (fuel : Nat) (a0 : GV) : gexec one_E (LZ) Try.f20.ntmps Try.f20.results.toList one_sg one_c [a0] = one_f fuel a0 := by kernel_rfl
theorem one_calls (hS : SpecsOk Try.prog tl one_E.sp) (fuel : Nat) : CallsOk Try.prog tl 20 one_sg (gexec one_E (LZ) Try.f20.ntmps Try.f20.results.toList one_sg one_c) :=
  gexec_calls (E := one_E) hP hS Try.func20 (by kernel_rfl) (by kernel_rfl) (fun W => LZ_ok)
def oneA (n : Int) : Int := bif decide (n ≤ 64) then shlI IntKind.u64 1 (IntKind.i64.wrap (64 - n)) else 0
def oneB (n : Int) : Int := bif decide (n ≤ 64) then 0 else shlI IntKind.u64 1 (IntKind.i64.wrap (128 - n))
def oneOk (n : Int) : Bool := bif decide (n ≤ 64) then !decide (IntKind.i64.wrap (64 - n) < 0) else !decide (IntKind.i64.wrap (128 - n) < 0)
def one_s : List GV → Option R
  | [a0] => bif oneOk a0.asInt then some [.agg [.int (oneA a0.asInt), .int (oneB a0.asInt)]] else none
  | _ => none
theorem one_ok : CallsOk Try.prog tl 20 one_sg one_s := (one_calls specs_nil 0).of fun gs outs h => by
  rcases gs with _ | ⟨a0, _ | ⟨a1, t⟩⟩ <;> first | (cases h; done) | skip
  rw [one_q 0, ← h]
  simp only [one_f, one_s, oneOk, oneA, oneB]
  cases decide (a0.asInt ≤ 64) <;> rfl

/-! form. -/
def form_sg : FSig := FSig.mk [3] [(3, [])] false
noncomputable def form_c : Code := Try.f21.body.getD .skip
def form_E : Env := ⟨tl, [], dirsOf [], dirsOf [], dirsOf [], joinsOf tl []⟩
def form_f (fuel : Nat) (a0 : GV) : Option R :=
  bif a0.asInt == 5 then some [GV.int 1] else bif a0.asInt == 1 then some [GV.int 2] else bif a0.asInt == 4 then some [GV.int 3] else some [GV.int 0]
theorem form_q (fuel : Nat) (a0 : GV) : gexec form_E (LZ) Try.f21.ntmps Try.f21.results.toList form_sg form_c [a0] = form_f fuel a0 := by kernel_rfl
theorem form_calls (hS : SpecsOk Try.prog tl form_E.sp) (fuel : Nat) : CallsOk Try.prog tl 21 form_sg (gexec form_E (LZ) Try.f21.ntmps Try.f21.results.toList form_sg form_c) :=
  gexec_calls (E := form_E) hP hS Try.func21 (by kernel_rfl) (by kernel_rfl) (fun W => LZ_ok)
def formZ (e : Int) : Int := bif e == 5 then 1 else bif e == 1 then 2 else bif e == 4 then 3 else 0
def form_s : List GV → Option R
  | [a0] => some [.int (formZ a0.asInt)]
  | _ => none
theorem form_ok : CallsOk Try.prog tl 21 form_sg form_s := (form_calls specs_nil 0).of fun gs outs h => by
  rcases gs with _ | ⟨a0, _ | ⟨a1, t⟩⟩ <;> first | (cases h; done) | skip
  rw [form_q 0, ← h]
  simp only [form_f, form_s, formZ]
  cases a0.asInt == 5 <;> cases a0.asInt == 1 <;> cases a0.asInt == 4 <;> rfl

/-! right. -/
def right_sg : FSig := FSig.mk [40] [(4, [])] false
noncomputable def right_c : Code := Try.f22.body.getD .skip
def right_E : Env := ⟨tl, [], dirsOf [], dirsOf [], dirsOf [], joinsOf tl []⟩
def right_f (fuel : Nat) (a0 : GV) : Option R :=
  some [GV.bool (bitI Go.BinOp.and IntKind.u64 (bitI Go.BinOp.or IntKind.u64 (cellG true a0 0).asInt (cellG true a0 1).asInt) 9223372036854775808 == 0)]
theorem right_q (fuel : Nat) (a0 : GV) : gexec right_E (LZ) Try.f22.ntmps Try.f22.results.toList right_sg right_c [a0] = right_f fuel a0 := by kernel_rfl
theorem right_calls (hS : SpecsOk Try.prog tl right_E.sp) (fuel : Nat) : CallsOk Try.prog tl 22 right_sg (gexec right_E (LZ) Try.f22.ntmps Try.f22.results.toList right_sg right_c) :=
  gexec_calls (E := right_E) hP hS Try.func22 (by kernel_rfl) (by kernel_rfl) (fun W => LZ_ok)
def rightB (x y : Int) : Bool := bitI .and IntKind.u64 (bitI .or IntKind.u64 x y) 9223372036854775808 == 0
def right_s : List GV → Option R
  | [a0] => some [.bool (rightB (cellG true a0 0).asInt (cellG true a0 1).asInt)]
  | _ => none
theorem right_ok : CallsOk Try.prog tl 22 right_sg right_s := (right_calls specs_nil 0).of fun gs outs h => by
  rcases gs with _ | ⟨a0, _ | ⟨a1, t⟩⟩ <;> first | (cases h; done) | skip
  rw [right_q 0, ← h]
  rfl

/-! sign. -/
def sign_sg : FSig := FSig.mk [3, 5] [(5, [])] false
noncomputable def sign_c : Code := Try.f30.body.getD .skip
def sign_E : Env := ⟨tl, [], dirsOf [], dirsOf [], dirsOf [], joinsOf tl []⟩
def sign_f (fuel : Nat) (a0 a1 : GV) : Option R :=
  bif bif a0.asInt == 3 then decide (a1.asInt < 10) else false then some [GV.int (IntKind.u8.wrap (240 + a1.asInt))]
else
  bif a0.asInt == 3 then some [GV.int (IntKind.u8.wrap (183 + a1.asInt))]
  else bif decide (a1.asInt < 10) then some [GV.int (IntKind.u8.wrap (48 + a1.asInt))] else some [GV.int (IntKind.u8.wrap (55 + a1.asInt))]
theorem sign_q (fuel : Nat) (a0 a1 : GV) : gexec sign_E (LZ) Try.f30.ntmps Try.f30.results.toList sign_sg sign_c [a0, a1] = sign_f fuel a0 a1 := by kernel_rfl
theorem sign_calls (hS : SpecsOk Try.prog tl sign_E.sp) (fuel : Nat) : CallsOk Try.prog tl 30 sign_sg (gexec sign_E (LZ) Try.f30.ntmps Try.f30.results.toList sign_sg sign_c) :=
  gexec_calls (E := sign_E) hP hS Try.func30 (by kernel_rfl) (by kernel_rfl) (fun W => LZ_ok)
def signZ (f n : Int) : Int := bif f == 3 then (bif decide (n < 10) then IntKind.u8.wrap (240 + n) else IntKind.u8.wrap (183 + n)) else bif decide (n < 10) then IntKind.u8.wrap (48 + n) else IntKind.u8.wrap (55 + n)
def sign_s : List GV → Option R
  | [a0, a1] => some [.int (signZ a0.asInt a1.asInt)]
  | _ => none
theorem sign_ok : CallsOk Try.prog tl 30 sign_sg sign_s := (sign_calls specs_nil 0).of fun gs outs h => by
  rcases gs with _ | ⟨a0, _ | ⟨a1, _ | ⟨a2, t⟩⟩⟩ <;> first | (cases h; done) | skip
  rw [sign_q 0, ← h]
  simp only [sign_f, sign_s, signZ]
  cases a0.asInt == 3 <;> cases decide (a1.asInt < 10) <;> rfl

/-! half. -/
def half_sg : FSig := FSig.mk [5] [(5, []), (4, [])] false
noncomputable def half_c : Code := Try.f31.body.getD .skip
def half_E : Env := ⟨tl, [], dirsOf [], dirsOf [], dirsOf [], joinsOf tl []⟩
def half_f (fuel : Nat) (a0 : GV) : Option R :=
  bif a0.asInt == 61 then some [GV.int 13, GV.bool true] else some [GV.int (IntKind.u8.wrap (a0.asInt - 48)), GV.bool (bif decide (a0.asInt ≥ 48) then decide (a0.asInt ≤ 57) else false)]
theorem half_q (fuel : Nat) (a0 : GV) : gexec half_E (LZ) Try.f31.ntmps Try.f31.results.toList half_sg half_c [a0] = half_f fuel a0 := by kernel_rfl
theorem half_calls (hS : SpecsOk Try.prog tl half_E.sp) (fuel : Nat) : CallsOk Try.prog tl 31 half_sg (gexec half_E (LZ) Try.f31.ntmps Try.f31.results.toList half_sg half_c) :=
  gexec_calls (E := half_E) hP hS Try.func31 (by kernel_rfl) (by kernel_rfl) (fun W => LZ_ok)
def halfZ (c : Int) : Int := bif c == 61 then 13 else IntKind.u8.wrap (c - 48)
def halfB (c : Int) : Bool := bif c == 61 then true else decide (c ≥ 48) && decide (c ≤ 57)
def half_s : List GV → Option R
  | [a0] => some [.int (halfZ a0.asInt), .bool (halfB a0.asInt)]
  | _ => none
theorem half_ok : CallsOk Try.prog tl 31 half_sg half_s := (half_calls specs_nil 0).of fun gs outs h => by
  rcases gs with _ | ⟨a0, _ | ⟨a1, t⟩⟩ <;> first | (cases h; done) | skip
  rw [half_q 0, ← h]
  simp only [half_f, half_s, halfZ, halfB]
  cases a0.asInt == 61 <;> cases decide (a0.asInt ≥ 48) <;> rfl

/-! encodings. -/
def encodings_sg : FSig := FSig.mk [3] [(28, [2])] false
noncomputable def encodings_c : Code := Try.f29.body.getD .skip
def encodings_E : Env := ⟨tl, [], dirsOf [], dirsOf [], dirsOf [], joinsOf tl []⟩
def encodings_f (fuel : Nat) (a0 : GV) : Option R :=
  bif a0.asInt == 1 then some [GV.list 2 true [GV.int 1, GV.int 2, GV.int 4] []]
else
  bif a0.asInt == 6 then some [GV.list 2 true [GV.int 1, GV.int 3, GV.int 4] []]
  else
    bif a0.asInt == 5 then
      bif a0.asInt == 5 then some [GV.list 2 true [GV.int 5] []] else bif a0.asInt == 9 then some [GV.list 2 true [GV.int 1] []] else some [GV.list 2 true [GV.int 1, GV.int 4] []]
    else bif a0.asInt == 8 then some [GV.list 2 true [GV.int 5] []] else bif a0.asInt == 9 then some [GV.list 2 true [GV.int 1] []] else some [GV.list 2 true [GV.int 1, GV.int 4] []]
theorem encodings_q (fuel : Nat) (a0 : GV) : gexec encodings_E (LZ) Try.f29.ntmps Try.f29.results.toList encodings_sg encodings_c [a0] = encodings_f fuel a0 := by kernel_rfl
theorem encodings_calls (hS : SpecsOk Try.prog tl encodings_E.sp) (fuel : Nat) : CallsOk Try.prog tl 29 encodings_sg (gexec encodings_E (LZ) Try.f29.ntmps Try.f29.results.toList encodings_sg encodings_c) :=
  gexec_calls (E := encodings_E) hP hS Try.func29 (by kernel_rfl) (by kernel_rfl) (fun W => LZ_ok)
def encL (c : Int) : List GV := bif c == 1 then [.int 1, .int 2, .int 4] else bif c == 6 then [.int 1, .int 3, .int 4] else bif c == 5 then [.int 5] else bif c == 8 then [.int 5] else bif c == 9 then [.int 1] else [.int 1, .int 4]
def encodings_s : List GV → Option R
  | [a0] => some [.list 2 true (encL a0.asInt) []]
  | _ => none

theorem encodings_ok : CallsOk Try.prog tl 29 encodings_sg encodings_s := (encodings_calls specs_nil 0).of fun gs outs h => by
  rcases gs with _ | ⟨a0, _ | ⟨a1, t⟩⟩ <;> first | (cases h; done) | skip
  rw [encodings_q 0, ← h]
  simp only [encodings_f, encodings_s, encL]
  cases a0.asInt == 1 <;> cases a0.asInt == 6 <;> cases a0.asInt == 5 <;> cases a0.asInt == 8 <;> cases a0.asInt == 9 <;> rfl

/-! ebcdic. -/
def ebcdic_sg : FSig := FSig.mk [] [(74, [])] false
noncomputable def ebcdic_c : Code := Try.f32.body.getD .skip
def ebcdic_E : Env := ⟨tl, [], dirsOf [], dirsOf [], dirsOf [], joinsOf tl []⟩
def ebcdic_f (fuel : Nat) : Option R :=
  some
  [GV.agg
      [GV.int 64, GV.int 90, GV.int 127, GV.int 123, GV.int 91, GV.int 108, GV.int 80, GV.int 125, GV.int 77, GV.int 93, GV.int 92, GV.int 78,
        GV.int 107, GV.int 96, GV.int 75, GV.int 97, GV.int 240, GV.int 241, GV.int 242, GV.int 243, GV.int 244, GV.int 245, GV.int 246, GV.int 247,
        GV.int 248, GV.int 249, GV.int 122, GV.int 94, GV.int 76, GV.int 126, GV.int 110, GV.int 111, GV.int 124, GV.int 193, GV.int 194, GV.int 195,
        GV.int 196, GV.int 197, GV.int 198, GV.int 199, GV.int 200, GV.int 201, GV.int 209, GV.int 210, GV.int 211, GV.int 212, GV.int 213, GV.int 214,
        GV.int 215, GV.int 216, GV.int 217, GV.int 226, GV.int 227, GV.int 228, GV.int 229, GV.int 230, GV.int 231, GV.int 232, GV.int 233, GV.int 186,
        GV.int 224, GV.int 187, GV.int 176, GV.int 109, GV.int 121, GV.int 129, GV.int 130, GV.int 131, GV.int 132, GV.int 133, GV.int 134, GV.int 135,
        GV.int 136, GV.int 137, GV.int 145, GV.int 146, GV.int 147, GV.int 148, GV.int 149, GV.int 150, GV.int 151, GV.int 152, GV.int 153, GV.int 162,
        GV.int 163, GV.int 164, GV.int 165, GV.int 166, GV.int 167, GV.int 168, GV.int 169, GV.int 192, GV.int 79, GV.int 208, GV.int 161]]
theorem ebcdic_q (fuel : Nat) : gexec ebcdic_E (LZ) Try.f32.ntmps Try.f32.results.toList ebcdic_sg ebcdic_c [] = ebcdic_f fuel  := by kernel_rfl
theorem ebcdic_calls (hS : SpecsOk Try.prog tl ebcdic_E.sp) (fuel : Nat) : CallsOk Try.prog tl 32 ebcdic_sg (gexec ebcdic_E (LZ) Try.f32.ntmps Try.f32.results.toList ebcdic_sg ebcdic_c) :=
  gexec_calls (E := ebcdic_E) hP hS Try.func32 (by kernel_rfl) (by kernel_rfl) (fun W => LZ_ok)
def ebcdic_s : List GV → Option R
  | [] => ebcdic_f 0
  | _ => none
theorem ebcdic_ok : CallsOk Try.prog tl 32 ebcdic_sg ebcdic_s := (ebcdic_calls specs_nil 0).of fun gs outs h => by
  rcases gs with _ | ⟨a0, t⟩ <;> first | (cases h; done) | skip
  rw [ebcdic_q 0, ← h]
  rfl

/-! isin. -/
def isin_sg : FSig := FSig.mk [28, 3] [(4, [])] false
noncomputable def isin_c : Code := Try.f6.body.getD .skip
def isin_E : Env := ⟨tl, [], dirsOf [], dirsOf [(0, [Dir.only [], Dir.sort [], Dir.keep [0, 1, 5]])], dirsOf [(0, [Dir.only [], Dir.sort [], Dir.keep [4]])], joinsOf tl []⟩
def isin_sh0 : Shp := Shp.mk 18 [(0, ASh.one (SSh.s (CK.slice 3))), (1, ASh.one (SSh.s (CK.int IntKind.i64))), (5, ASh.one (SSh.s (CK.int IntKind.i64)))] []
def isin_xs0 : Outs := [(Ex.ret, Shp.mk 18 [(4, ASh.one (SSh.s CK.bool))] []),
  (Ex.exit 0, Shp.mk 18 [(4, ASh.one SSh.dead)] [])]
def isin_b0 {β : Type} (fuel : Nat) (g0 g1 g2 : GV) (kn : List GV → Option β) (kx : Nat → List GV → Option β) : Option β :=
  bif decide (g2.asInt < (↑g0.asList.length : Int)) then
  bif inRange g2.asInt g0.asList.length then bif (nth g0.all g2.asInt.toNat).asInt == g1.asInt then kx 0 [GV.bool true] else kn [g0, g1, GV.int (IntKind.i64.wrap (g2.asInt + 1))] else none
else kx 1 []
def isin_e0 (fuel : Nat) : LEnt := ⟨0, isin_sh0, isin_xs0, fun gs kn kx => isin_b0 fuel (nth gs 0) (nth gs 1) (nth gs 2) kn kx⟩
def isin_l0 (fuel : Nat) (gs : List GV) : Option (Nat × List GV) := loopR (isin_e0 fuel).step fuel gs
theorem isin_t0 {β : Type} (fuel : Nat) (g0 g1 g2 : GV) (kn : List GV → Option β) (kx : Nat → List GV → Option β) : (isin_e0 fuel).step [g0, g1, g2] kn kx = isin_b0 fuel g0 g1 g2 kn kx := rfl
theorem isin_k0 (fuel : Nat) : StepOk isin_E isin_c (LZ) (isin_e0 fuel) :=
  ⟨by kernel_rfl, fun gs kn kx => by kernel_rfl, fun f gs kn kx => by simp only [isin_e0, isin_b0, bind_cond, Option.bind_assoc, Option.bind_none]⟩
def isin_f (fuel : Nat) (a0 a1 : GV) : Option R :=
  (isin_l0 fuel [a0, a1, GV.int 0]).bind fun r0 => bif r0.fst.beq 0 then some [nth r0.snd 0] else some [GV.bool false]
theorem isin_q (fuel : Nat) (a0 a1 : GV) : gexec isin_E (LSc (isin_e0 fuel) fuel (LZ)) Try.f6.ntmps Try.f6.results.toList isin_sg isin_c [a0, a1] = isin_f fuel a0 a1 := by kernel_rfl
theorem isin_calls (hS : SpecsOk Try.prog tl isin_E.sp) (fuel : Nat) : CallsOk Try.prog tl 6 isin_sg (gexec isin_E (LSc (isin_e0 fuel) fuel (LZ)) Try.f6.ntmps Try.f6.results.toList isin_sg isin_c) :=
  gexec_calls (E := isin_E) hP hS Try.func6 (by kernel_rfl) (by kernel_rfl) (fun W => LSc_ok hP hS (LZ_ok) (isin_k0 fuel) fuel)
def isinB (l : List GV) (n : Int) : Bool := l.any fun g => g.asInt == n
def isin_s : List GV → Option R
  | [a0, a1] => bif Nat.ble a0.asList.length BIG then some [.bool (isinB a0.asList a1.asInt)] else none
  | _ => none

/-! ten. -/
def ten_sg : FSig := FSig.mk [3] [(3, [])] false
noncomputable def ten_c : Code := Try.f17.body.getD .skip
def ten_E : Env := ⟨tl, [], dirsOf [], dirsOf [(0, [Dir.only [], Dir.sort [], Dir.keep [3, 4, 5]])], dirsOf [(0, [Dir.only [], Dir.sort [], Dir.keep [3]])], joinsOf tl []⟩
def ten_sh0 : Shp := Shp.mk 11 [(3, ASh.one (SSh.s (CK.int IntKind.i64))), (4, ASh.one (SSh.s (CK.int IntKind.i64))), (5, ASh.one (SSh.s (CK.int IntKind.i64)))] []
def ten_xs0 : Outs := [(Ex.exit 0, Shp.mk 11 [(3, ASh.one (SSh.s (CK.int IntKind.i64)))] [])]
def ten_b0 {β : Type} (fuel : Nat) (g0 g1 g2 : GV) (kn : List GV → Option β) (kx : Nat → List GV → Option β) : Option β :=
  bif decide (g2.asInt < g1.asInt) then kn [GV.int (IntKind.i64.wrap (g0.asInt * 10)), g1, GV.int (IntKind.i64.wrap (g2.asInt + 1))] else kx 0 [g0]
def ten_e0 (fuel : Nat) : LEnt := ⟨0, ten_sh0, ten_xs0, fun gs kn kx => ten_b0 fuel (nth gs 0) (nth gs 1) (nth gs 2) kn kx⟩
def ten_l0 (fuel : Nat) (gs : List GV) : Option (Nat × List GV) := loopR (ten_e0 fuel).step fuel gs
theorem ten_t0 {β : Type} (fuel : Nat) (g0 g1 g2 : GV) (kn : List GV → Option β) (kx : Nat → List GV → Option β) : (ten_e0 fuel).step [g0, g1, g2] kn kx = ten_b0 fuel g0 g1 g2 kn kx := rfl
theorem ten_k0 (fuel : Nat) : StepOk ten_E ten_c (LZ) (ten_e0 fuel) :=
  ⟨by kernel_rfl, fun gs kn kx => by kernel_rfl, fun f gs kn kx => by simp only [ten_e0, ten_b0, bind_cond, Option.bind_assoc, Option.bind_none]⟩
def ten_f (fuel : Nat) (a0 : GV) : Option R :=
  (ten_l0 fuel [GV.int 1, a0, GV.int 0]).bind fun r0 => some [nth r0.snd 0]
theorem ten_q (fuel : Nat) (a0 : GV) : gexec ten_E (LSc (ten_e0 fuel) fuel (LZ)) Try.f17.ntmps Try.f17.results.toList ten_sg ten_c [a0] = ten_f fuel a0 := by kernel_rfl
theorem ten_calls (hS : SpecsOk Try.prog tl ten_E.sp) (fuel : Nat) : CallsOk Try.prog tl 17 ten_sg (gexec ten_E (LSc (ten_e0 fuel) fuel (LZ)) Try.f17.ntmps Try.f17.results.toList ten_sg ten_c) :=
  gexec_calls (E := ten_E) hP hS Try.func17 (by kernel_rfl) (by kernel_rfl) (fun W => LSc_ok hP hS (LZ_ok) (ten_k0 fuel) fuel)
def tenZ (d : Int) : Int := 10 ^ d.toNat
def ten_s : List GV → Option R
  | [a0] => bif decide (0 ≤ a0.asInt) && decide (a0.asInt ≤ 18) then some [.int (tenZ a0.asInt)] else none
  | _ => none

end Go.Proofs.Ytgneobkmmmpbiaa
