/- An abstract interpreter of code over ground values, with its soundness; of no program. Part 3. -/
import Derived.Test.YtgneobkmmmpbiaaEb
import Derived.Laws.Runes
import Derived.ChangeArms
import Derived.ChangeShapes
import Derived.WideShapes
/- A function keeps its contract. Of no program. -/
namespace Go.Eng
set_option linter.unusedVariables false
set_option linter.unusedSimpArgs false
open Go.RowKit

section
variable {P : Program} {tl : TL} {W : Base} {st : St} {a : Act} {w : World} {ρ : Nat → RD} {fp : Nat → Nat → Prop} {F : Nat → Prop} {ch : Chain}

def rvRun (tm : Array Value) : ResultVar → Sem Value
  | .tmp t => pure (tm.getD t undef)
  | .cell ad t => do loadVar t (← asAddr (tm.getD ad undef))

theorem resList_sound (hP : Facts P tl) (h : Rel (ttOf tl) W st a w ρ fp F) {SF : Nat → Nat → Nat → Nat → Prop} (hC : Cells tl st w ρ fp F SF) {F' : Nat → Prop} (hF : ∀ b, F b → F' b) : ∀ {rvs : List ResultVar} {rs : List (TypeId × List Nat)} {c : Bool} {gs : List GV} {o : List Key} {ls : List Nat},
    (∀ t ms, (t, ms) ∈ rs → known tl t = true) → resList tl st rvs rs = some (c, gs, o, ls) → c = true → (∀ b, lent fp ls b → F' b) →
    ∃ (vs : List Value) (O : Nat → Nat → List Key), (rvs.mapM (rvRun a.tmps) : Sem (List Value)).run P w = .ok vs w ∧ vs.length = rs.length ∧
      (∀ (q : Nat) t ms u, rs[q]? = some (t, ms) → vs[q]? = some u → u.cells.size = (ttOf tl t).sz ∧ ((ttOf tl t).agg = true → u = .agg u.cells) ∧ ((ttOf tl t).agg = false → u.cells = #[u]) ∧
        ∀ (j : Nat) x, u.cells[j]? = some x → Own (ttOf tl) w F' ((ttOf tl t).ck j) (cellG (ttOf tl t).agg (nth gs q) j) x (fun b => ∃ k, k ∈ O q j ∧ SKey fp SF k b) ∧ ((∃ e, (ttOf tl t).ck j = .slice e) → (cellG (ttOf tl t).agg (nth gs q) j).asOwn = ms.getD j 0)) ∧
      (∀ q j k, k ∈ O q j → k ∈ o) ∧ (∀ k, k ∈ o → Valid tl st k) ∧ (∀ r, r ∈ ls → ∃ rt, getR st.roots r = some rt) ∧ (o.Nodup → ∀ q j q' j' k, k ∈ O q j → k ∈ O q' j' → q = q' ∧ j = j') := by
  intro rvs
  induction rvs with
  | nil =>
    intro rs c gs o ls hk hl hc hls
    cases rs with
    | nil =>
      simp only [resList, Option.some.injEq, Prod.mk.injEq] at hl
      obtain ⟨_, rfl, rfl, rfl⟩ := hl
      exact ⟨[], fun _ _ => [], rfl, rfl, fun q t ms u hq => by simp at hq, fun q j k hk => hk, fun k hk => by simp at hk, fun r hr => by simp at hr, fun _ q j q' j' k hk => by simp at hk⟩
    | cons => simp [resList] at hl
  | cons rv rvs ih =>
    intro rs c gs o ls hk hl hc hls
    cases rs with
    | nil => simp [resList] at hl
    | cons y rs =>
      obtain ⟨t, ms⟩ := y
      simp only [resList] at hl
      split at hl
      · rename_i c1 g1 o1 l1 c2 gs2 o2 l2 h1 h2
        simp only [Option.some.injEq, Prod.mk.injEq] at hl
        obtain ⟨rfl, rfl, rfl, rfl⟩ := hl
        simp only [Bool.and_eq_true] at hc
        obtain ⟨u, hu, O1, a1, a2, a3, a4, a5, a6, a7, a8⟩ := resOne_sound hP h hC hF (hk t ms (List.mem_cons_self ..)) h1 hc.1 (fun b ⟨r, hr, hb⟩ => hls b ⟨r, List.mem_append_left _ hr, hb⟩)
        obtain ⟨vs, O2, b1, b2, b3, b4, b5, b6, b7⟩ := ih (rs := rs) (fun t ms hm => hk t ms (List.mem_cons_of_mem _ hm)) h2 hc.2 (fun b ⟨r, hr, hb⟩ => hls b ⟨r, List.mem_append_right _ hr, hb⟩)
        have hu' : (rvRun a.tmps rv).run P w = .ok u w := by
          cases rv <;> exact hu
        refine ⟨u :: vs, fun q => match q with | 0 => O1 | q + 1 => O2 q, ?_, by simp [b2], fun q t' ms' u' hq hv => ?_, fun q j k hk' => ?_, fun k hk' => (List.mem_append.1 hk').elim (a6 k) (b5 k), fun r hr => (List.mem_append.1 hr).elim (a7 r) (b6 r), fun hn q j q' j' k hk1 hk2 => ?_⟩
        · simp only [List.mapM_cons, Sem.run_bind, hu', Result.andThen_ok, b1, Sem.run_pure]
        · cases q with
          | zero =>
            simp only [List.getElem?_cons_zero, Option.some.injEq, Prod.mk.injEq] at hq hv
            obtain ⟨rfl, rfl⟩ := hq
            subst hv
            exact ⟨a1, a2, a3, a4⟩
          | succ q => exact b3 q t' ms' u' (by simpa using hq) (by simpa using hv)
        · cases q with
          | zero => exact List.mem_append_left _ (a5 j k hk')
          | succ q => exact List.mem_append_right _ (b4 q j k hk')
        · rw [List.nodup_append] at hn
          obtain ⟨n1, n2, n3⟩ := hn
          cases q with
          | zero =>
            cases q' with
            | zero => exact ⟨rfl, a8 n1 j j' k hk1 hk2⟩
            | succ q' => exact absurd rfl (n3 k (a5 j k hk1) k (b4 q' j' k hk2))
          | succ q =>
            cases q' with
            | zero => exact absurd rfl (n3 k (a5 j' k hk2) k (b4 q j k hk1))
            | succ q' => have := b7 n2 q j q' j' k hk1 hk2; exact ⟨by rw [this.1], this.2⟩
      · cases hl

theorem memK_iff {o : List Key} {r : Nat} {p : Path} (h : (r, p) ∈ o) : memK o r p = true := by
  induction o with
  | nil => cases h
  | cons x o ih =>
    obtain ⟨r', p'⟩ := x
    simp only [memK]
    cases hb : Nat.beq r' r && samePath p' p with
    | true => rfl
    | false =>
      rcases List.mem_cons.1 h with he | h
      · exfalso
        obtain ⟨rfl, rfl⟩ : r = r' ∧ p = p' := by simpa using he
        have hs : ∀ p : Path, samePath p p = true := by
          intro p; induction p with
          | nil => rfl
          | cons y p ih => obtain ⟨i, j⟩ := y; simp [samePath, ih, Nat.beq_refl]
        rw [Nat.beq_refl, hs] at hb; cases hb
      · exact ih h
theorem nodupK_iff {o : List Key} (h : nodupK o = true) : o.Nodup := by
  induction o with
  | nil => simp
  | cons x o ih =>
    obtain ⟨r, p⟩ := x
    simp only [nodupK, Bool.and_eq_true, Bool.not_eq_true'] at h
    refine List.nodup_cons.2 ⟨fun hm => ?_, ih h.2⟩
    rw [memK_iff hm] at h; cases h.1
theorem memR_iff {o : List Key} {k : Key} (h : k ∈ o) : memR o k.1 = true := by
  induction o with
  | nil => cases h
  | cons x o ih =>
    obtain ⟨r', p'⟩ := x
    simp only [memR]
    rcases List.mem_cons.1 h with rfl | h
    · simp [Nat.beq_refl]
    · rw [ih h]; cases Nat.beq r' k.1 <;> rfl

/-- What a function gives back. -/
theorem ret_sound (hP : Facts P tl) {w0 : World} {F0 : Nat → Prop} (h : Rel (ttOf tl) ⟨w0, F0⟩ st a w ρ fp F) (hF0 : ∀ b, F0 b → b < w0.heap.size) {fn : Func} {rs : List (TypeId × List Nat)} {e : Ex} {out : R} (hkn : knownR tl rs = true)
    (hl : retK tl fn.results.toList rs e st = some out) : ∃ v, (results fn a.tmps).run P w = .ok v w ∧ ResOk (ttOf tl) w0 w F0 rs out v := by
  have main : ∀ {c : Bool} {gs : List GV} {o : List Key} {l : List Nat}, resList tl st fn.results.toList rs = some (c, gs, o, l) → (bif retOk o l then bif c then some gs else none else none) = some out →
      ∃ v, (results fn a.tmps).run P w = .ok v w ∧ ResOk (ttOf tl) w0 w F0 rs out v := by
    intro c gs o l h1 h2
    cases hok : retOk o l with
    | false => rw [hok] at h2; cases h2
    | true =>
      rw [hok] at h2
      cases c with
      | false => cases h2
      | true =>
        simp only [cond_true, Option.some.injEq] at h2
        subst h2
        unfold retOk at hok
        simp only [Bool.and_eq_true] at hok
        have hnd := nodupK_iff hok.1
        obtain ⟨SF, hC⟩ := cells_ex h
        let F' : Nat → Prop := fun b => F b ∨ lent fp l b ∨ F0 b
        obtain ⟨vs, O, b1, b2, b3, b4, b5, b6, b7⟩ := resList_sound hP h hC (F' := F') (fun _ h => .inl h) (fun t ms hm => List.all_eq_true.1 hkn _ hm) h1 rfl (fun _ h => .inr (.inl h))
        have hres : (results fn a.tmps).run P w = .ok (tupled vs.toArray) w := by
          have hm : (fn.results.mapM (rvRun a.tmps) : Sem (Array Value)).run P w = .ok vs.toArray w := by
            rw [Array.mapM_eq_mapM_toList]
            simp only [Sem.run_map, b1, Result.andThen_ok]
          have he : results fn a.tmps = (do let vs ← fn.results.mapM (rvRun a.tmps); pure (tupled vs)) := by
            unfold results tupled
            congr 1
          rw [he, Sem.run_bind, hm]; rfl
        refine ⟨_, hres, ⟨⟨vs.toArray, F', fun q j b => ∃ k, k ∈ O q j ∧ SKey fp SF k b, rfl, by simpa using b2, fun b hb => .inr (.inr hb), fun b hb => ?_, fun q t ms u hq hu => b3 q t ms u hq (by simpa using hu), fun q t ms j b hq hj hb => ?_, fun q t ms j q' t' ms' j' b hq hj hq' hj' hb hb' => ?_⟩⟩⟩
        · rcases hb with hb | ⟨r, hr, hb⟩ | hb
          · by_cases hlt : b < w0.heap.size
            · exact .inl (h.old b hb hlt)
            · exact .inr ⟨by omega, h.flt b hb⟩
          · obtain ⟨rt, hrt⟩ := b6 r hr
            have := h.fpb r rt hrt b hb
            exact .inr ⟨this.1, this.2.1⟩
          · exact .inl hb
        · obtain ⟨k, hk1, hk2⟩ := hb
          have hv := b5 k (b4 q j k hk1)
          obtain ⟨rt, hrt⟩ := hv.root
          have hf := SKey_fp hC hv hk2
          have := h.fpb _ _ hrt b hf
          refine ⟨this.1, this.2.1, ?_⟩
          rintro (hF | ⟨r, hr, hb⟩ | hb)
          · exact this.2.2 hF
          · obtain ⟨rt', hrt'⟩ := b6 r hr
            have hrr := h.disj _ _ _ _ hrt' hrt b hb hf
            have hnm := List.all_eq_true.1 hok.2 r hr
            rw [hrr, memR_iff (b4 q j k hk1)] at hnm
            cases hnm
          · have h1 := hF0 b hb
            have h2 : w0.heap.size ≤ b := this.1
            omega
        · obtain ⟨k, hk1, hk2⟩ := hb
          obtain ⟨k', hk1', hk2'⟩ := hb'
          have hkk := SKey_disj h hC (b5 k (b4 q j k hk1)) (b5 k' (b4 q' j' k' hk1')) hk2 hk2'
          subst hkk
          exact b7 hnd q j q' j' k hk1 hk1'
  cases e with
  | exit id => cases hl
  | normal =>
    simp only [retK] at hl
    split at hl
    · rename_i c gs o l h1; exact main h1 hl
    · cases hl
  | ret =>
    simp only [retK] at hl
    split at hl
    · rename_i c gs o l h1; exact main h1 hl
    · cases hl

theorem getT_initT : ∀ (ts : List TypeId) (gs : List GV) (i0 i : Nat), getT (initT tl i0 ts gs) i = PV.dead ∨ ∃ t g, i0 ≤ i ∧ ts[i - i0]? = some t ∧ gs[i - i0]? = some g ∧ getT (initT tl i0 ts gs) i = .v (seen tl t g) := by
  intro ts
  induction ts with
  | nil => intro gs i0 i; exact .inl rfl
  | cons t ts ih =>
    intro gs i0 i
    cases gs with
    | nil => exact .inl rfl
    | cons g gs =>
      simp only [initT, getT]
      by_cases h : i0 = i
      · subst h
        rw [Nat.beq_refl]
        exact .inr ⟨t, g, Nat.le_refl _, by simp, by simp, rfl⟩
      · rw [beq_ff h]
        rcases ih gs (i0 + 1) i with h1 | ⟨t', g', h1, h2, h3, h4⟩
        · exact .inl h1
        · refine .inr ⟨t', g', by omega, ?_, ?_, h4⟩
          · rw [show i - i0 = (i - (i0 + 1)) + 1 by omega]; simpa using h2
          · rw [show i - i0 = (i - (i0 + 1)) + 1 by omega]; simpa using h3

/-- A function that the run computes keeps its contract. -/
theorem fexec_calls {E : Env} (hP : Facts P E.tl) (hS : SpecsOk P E.tl E.sp) {f : FuncId} {fn : Func} {c0 : Code} {sg : FSig} (hf : P.funcs[f]? = some fn) (hb : fn.body = some c0) (hkn : knownR E.tl sg.rs = true) (n : Nat) :
    CallsOk P E.tl f sg (fexec E fn.ntmps fn.results.toList sg c0 n) := by
  intro w F args gs outs hF hsz hgl hargs hrun
  refine calls_of_wp hf hb ?_
  have hAt : At P E.tl ⟨w, F⟩ ⟨fn.ntmps, initT E.tl 0 sg.ps gs, []⟩ { tmps := args ++ Array.replicate (fn.ntmps - args.size) undef, defers := [] } w := by
    refine ⟨fun _ => .val undef, fun _ _ => False, F, ⟨Below.refl _ w, fun b hb _ => hb, hF, fun r rt hr => by simp [getR] at hr, fun r rt hr => by simp [getR] at hr, fun r rt r' rt' hr => by simp [getR] at hr, fun i v hi => ?_, rfl, by simp; omega⟩⟩
    unfold St.get
    cases hbl : Nat.blt i fn.ntmps with
    | false => trivial
    | true =>
      simp only [cond_true]
      rcases getT_initT (tl := E.tl) sg.ps gs 0 i with h1 | ⟨t, g, _, h2, h3, h4⟩
      · rw [h1]; trivial
      · rw [h4]
        rw [Nat.sub_zero] at h2 h3
        have hlt : i < args.size := by rw [hsz]; exact (List.getElem?_eq_some_iff.1 h2).1
        have hv : args[i]? = some v := by
          rw [Array.getElem?_append_left hlt] at hi; exact hi
        exact hargs i t g v h2 h3 hv
  refine code_sound hP hS n hrun (fun e st' hk a w' h' => ?_) hAt
  obtain ⟨ρ, fp, F1, hR⟩ := h'
  obtain ⟨v, hv, hres⟩ := ret_sound hP hR hF hkn hk
  have hgo : a.defers = [] ∧ ∃ v, (results fn a.tmps).run P w' = .ok v w' ∧ (Below w.heap.size w w' ∧ ResOk (ttOf E.tl) w w' F sg.rs outs v) := ⟨hR.defers, v, hv, hR.below, hres⟩
  cases e with
  | normal => exact hgo
  | ret => exact hgo
  | exit id => cases hk

end
end Go.Eng

/- Facts on a table of types, out of closed equalities. Of no program. -/
namespace Go.Eng
set_option linter.unusedVariables false
set_option linter.unusedSimpArgs false

section
variable {P : Program} {tl : TL} {t : TypeId} {i : TypeInfo} {by' : Nat}

theorem ttOf_look {x : TI} (h : look tl t = some x) : ttOf tl t = x := by unfold ttOf; rw [h]; rfl

theorem factInt {k : IntKind} (hl : look tl t = some ⟨[.int k], false, by', .int k⟩) (hi : P.info? t = some i) (hs : i.size = 1) (hb : i.bytes = by') (hz : i.zero = some (.int k 0)) (hu : P.underlying t = some (.int k)) : FactT P tl t := by
  have e := ttOf_look hl
  refine ⟨⟨i, hi, by rw [e]; exact hs, by rw [e]; exact hb, fun _ => by rw [e]; exact hz⟩, ⟨_, hu, by rw [e]; simp, fun _ ms h => by cases h⟩, fun _ => by rw [e]; rfl, ?_⟩
  rw [e]; exact ⟨hu, rfl⟩
theorem factBool (hl : look tl t = some ⟨[.bool], false, by', .bool⟩) (hi : P.info? t = some i) (hs : i.size = 1) (hb : i.bytes = by') (hz : i.zero = some (.bool false)) (hu : P.underlying t = some .bool) : FactT P tl t := by
  have e := ttOf_look hl
  refine ⟨⟨i, hi, by rw [e]; exact hs, by rw [e]; exact hb, fun _ => by rw [e]; exact hz⟩, ⟨_, hu, by rw [e]; simp, fun _ ms h => by cases h⟩, fun _ => by rw [e]; rfl, ?_⟩
  rw [e]; exact ⟨hu, rfl⟩
theorem factStr (hl : look tl t = some ⟨[.str], false, by', .str⟩) (hi : P.info? t = some i) (hs : i.size = 1) (hb : i.bytes = by') (hz : i.zero = some (.string ⟨#[]⟩)) (hu : P.underlying t = some .string) : FactT P tl t := by
  have e := ttOf_look hl
  refine ⟨⟨i, hi, by rw [e]; exact hs, by rw [e]; exact hb, fun _ => by rw [e]; exact hz⟩, ⟨_, hu, by rw [e]; simp, fun _ ms h => by cases h⟩, fun _ => by rw [e]; rfl, ?_⟩
  rw [e]; exact ⟨hu, rfl⟩
theorem factSlice {el : TypeId} (hl : look tl t = some ⟨[.slice el], false, by', .slice el⟩) (hi : P.info? t = some i) (hs : i.size = 1) (hb : i.bytes = by') (hz : i.zero = some (.slice none 0 0)) (hu : P.underlying t = some (.slice el)) (hk : known tl el = true) : FactT P tl t := by
  have e := ttOf_look hl
  refine ⟨⟨i, hi, by rw [e]; exact hs, by rw [e]; exact hb, fun _ => by rw [e]; exact hz⟩, ⟨_, hu, by rw [e]; simp, fun _ ms h => by cases h⟩, fun _ => by rw [e]; rfl, ?_⟩
  rw [e]; exact ⟨hu, rfl, hk⟩
theorem factIface {ms : Array (String × TypeId)} (hl : look tl t = some ⟨[.iface], false, by', .iface⟩) (hi : P.info? t = some i) (hs : i.size = 1) (hb : i.bytes = by') (hz : i.zero = some .nilIface) (hu : P.underlying t = some (.interface ms)) : FactT P tl t := by
  have e := ttOf_look hl
  refine ⟨⟨i, hi, by rw [e]; exact hs, by rw [e]; exact hb, fun _ => by rw [e]; exact hz⟩, ⟨_, hu, by rw [e]; simp, fun h => by rw [e] at h; exact absurd rfl h⟩, fun _ => by rw [e]; rfl, ?_⟩
  rw [e]; exact ⟨ms, hu⟩

def fieldsB (tl : TL) (cells : List CK) : List (Nat × TypeId) → List Go.Field → Bool
  | [], [] => true
  | (o, ft) :: fs, fd :: fds => Nat.beq fd.offset o && Nat.beq fd.type ft && known tl ft && Nat.ble (o + (ttOf tl ft).sz) cells.length && decide ((cells.drop o).take (ttOf tl ft).sz = (ttOf tl ft).cells) && fieldsB tl cells fs fds
  | _, _ => false
theorem seg_ck {cells ks : List CK} {o : Nat} (h : (cells.drop o).take ks.length = ks) {j : Nat} (hj : j < ks.length) : cells.getD (o + j) .other = ks.getD j .other := by
  have : ((cells.drop o).take ks.length)[j]? = ks[j]? := by rw [h]
  rw [List.getElem?_take, if_pos hj, List.getElem?_drop] at this
  simp only [List.getD_eq_getElem?_getD, this]
theorem fieldsB_spec {cells : List CK} : ∀ {fs : List (Nat × TypeId)} {fds : List Go.Field}, fieldsB tl cells fs fds = true → fds.length = fs.length ∧
    ∀ (f o ft : Nat), fs[f]? = some (o, ft) → ∃ fd : Go.Field, fds[f]? = some fd ∧ fd.offset = o ∧ fd.type = ft ∧ known tl ft = true ∧ o + (ttOf tl ft).sz ≤ cells.length ∧ ∀ j, j < (ttOf tl ft).sz → cells.getD (o + j) .other = (ttOf tl ft).ck j := by
  intro fs
  induction fs with
  | nil => intro fds h; cases fds with
    | nil => exact ⟨rfl, fun f o ft hf => by simp at hf⟩
    | cons => simp [fieldsB] at h
  | cons x fs ih =>
    intro fds h
    obtain ⟨o, ft⟩ := x
    cases fds with
    | nil => simp [fieldsB] at h
    | cons fd fds =>
      simp only [fieldsB, Bool.and_eq_true, decide_eq_true_eq] at h
      obtain ⟨⟨⟨⟨⟨h1, h2⟩, h3⟩, h4⟩, h5⟩, h6⟩ := h
      obtain ⟨i1, i2⟩ := ih h6
      refine ⟨by simp [i1], fun f o' ft' hf => ?_⟩
      cases f with
      | zero =>
        simp only [List.getElem?_cons_zero, Option.some.injEq, Prod.mk.injEq] at hf
        obtain ⟨rfl, rfl⟩ := hf
        exact ⟨fd, rfl, Nat.eq_of_beq_eq_true h1, Nat.eq_of_beq_eq_true h2, h3, Nat.le_of_ble_eq_true h4, fun j hj => seg_ck h5 hj⟩
      | succ f => exact i2 f o' ft' (by simpa using hf)
theorem factStruct {cells : List CK} {fs : List (Nat × TypeId)} {fields : Array Go.Field} (hl : look tl t = some ⟨cells, true, by', .struct fs⟩) (hi : P.info? t = some i) (hs : i.size = cells.length) (hb : i.bytes = by')
    (hz : zeroOk ⟨cells, true, by', .struct fs⟩ = true → i.zero = some (.agg (cells.map zeroV).toArray)) (hu : P.underlying t = some (.struct fields)) (hf : fieldsB tl cells fs fields.toList = true) : FactT P tl t := by
  have e := ttOf_look hl
  obtain ⟨f1, f2⟩ := fieldsB_spec hf
  refine ⟨⟨i, hi, by rw [e]; exact hs, by rw [e]; exact hb, fun h => by rw [e] at h ⊢; exact hz h⟩, ⟨_, hu, by rw [e]; simp, fun _ ms h => by cases h⟩, fun h => (by rw [e] at h; cases h), ?_⟩
  have : (ttOf tl t).desc = .struct fs := by rw [e]
  rw [this]
  refine ⟨by rw [e], fields, hu, by simpa using f1, fun f o ft hh => ?_⟩
  obtain ⟨fd, g1, g2, g3, g4, g5, g6⟩ := f2 f o ft hh
  exact ⟨fd, by simpa using g1, g2, g3, g4, by rw [e]; exact g5, fun j hj => by rw [e]; exact g6 j hj⟩
theorem factArray {ks : List CK} {n : Nat} {el : TypeId} (hl : look tl t = some ⟨repK n ks, true, by', .array n el⟩) (hi : P.info? t = some i) (hs : i.size = (repK n ks).length) (hb : i.bytes = by')
    (hz : zeroOk ⟨repK n ks, true, by', .array n el⟩ = true → i.zero = some (.agg ((repK n ks).map zeroV).toArray)) (hu : P.underlying t = some (.array n el)) (hk : known tl el = true) (hc : (ttOf tl el).cells = ks) : FactT P tl t := by
  have e := ttOf_look hl
  refine ⟨⟨i, hi, by rw [e]; exact hs, by rw [e]; exact hb, fun h => by rw [e] at h ⊢; exact hz h⟩, ⟨_, hu, by rw [e]; simp, fun _ ms h => by cases h⟩, fun h => (by rw [e] at h; cases h), ?_⟩
  have : (ttOf tl t).desc = .array n el := by rw [e]
  rw [this]
  refine ⟨by rw [e], hu, hk, ?_, fun i j hi hj => ?_⟩
  · rw [e]; unfold TI.sz; rw [hc]; exact repK_len ks n
  · rw [e]; unfold TI.sz TI.ck at *; rw [hc] at hj ⊢; exact repK_get ks n i j hi hj

def aggB : TL → Bool
  | [] => true
  | (_, x) :: t => (x.agg || Nat.ble x.sz 1) && aggB t
theorem aggB_spec (h : aggB tl = true) : Agg (ttOf tl) := by
  intro e
  unfold ttOf
  induction tl with
  | nil => exact .inr (by simp [look, TI.sz])
  | cons x tl ih =>
    obtain ⟨k, x⟩ := x
    simp only [aggB, Bool.and_eq_true, Bool.or_eq_true] at h
    simp only [look]
    cases Nat.beq k e with
    | true => exact h.1.imp id Nat.le_of_ble_eq_true
    | false => exact ih h.2
end
end Go.Eng

/- Loops by their summaries. Of no program. -/
namespace Go.Eng
set_option linter.unusedVariables false
set_option linter.unusedSimpArgs false
open Go.RowKit

/-- How a state looks, without the ground values in it. -/
inductive SSh where
  | dead
  | s (k : CK)
  | ref (e : TypeId) (r : Nat)
  | ptr (r : Nat) (p : Path)
  | nilS
  | eptr (e : TypeId) (off : Nat)
inductive ASh where
  | one (s : SSh)
  | a (t : TypeId)
  | agg (l : List SSh)
inductive RSh where
  | val (m : Nat) (e : TypeId)
  | row1 (o : Nat) (e : TypeId)
  | rowA (o : Nat) (e : TypeId) (ms : List Nat)
  | rows (o : Nat) (e : TypeId)
structure Shp where
  n : Nat
  ts : List (Nat × ASh)
  rs : List (Nat × RSh)
def wS : SSh → Nat | .s _ => 1 | .eptr _ _ => 1 | _ => 0
def wL : List SSh → Nat | [] => 0 | s :: t => wS s + wL t
def wA : ASh → Nat | .one s => wS s | .a _ => 1 | .agg l => wL l
def wT : List (Nat × ASh) → Nat | [] => 0 | (_, s) :: t => wA s + wT t
def wR : RSh → Nat | .val _ _ => 1 | .row1 _ _ => 1 | .rowA _ _ ms => ms.length | .rows _ _ => 1
def fillS' (zs : List GV) (i : Nat) : SSh → SV
  | .dead => .dead
  | .s k => .s k (nth zs i)
  | .ref e r => .ref e r []
  | .ptr r p => .ptr r p
  | .nilS => .nilS
  | .eptr e off => .eptr e (nth zs i) off
def fillL (zs : List GV) : Nat → List SSh → List SV
  | _, [] => []
  | i, s :: t => fillS' zs i s :: fillL zs (i + wS s) t
def fillA (zs : List GV) (i : Nat) : ASh → AV
  | .one s => .one (fillS' zs i s)
  | .a t => .a t (nth zs i)
  | .agg l => .agg (fillL zs i l)
def fillT (zs : List GV) : Nat → List (Nat × ASh) → Tmps
  | _, [] => []
  | i, (k, s) :: t => (k, .v (fillA zs i s)) :: fillT zs (i + wA s) t
/-- A ground value whose mark is known: 0: it is not; 1: read only; 2: ours; 3: ours, and nothing to spare. -/
def mark : Nat → GV → GV
  | 0, g => g
  | 1, g => .list 0 g.asZ g.asList g.asSp
  | 2, g => own2 g
  | _, g => .list 2 g.asZ g.asList []
def fillC (zs : List GV) : Nat → List Nat → List GV
  | _, [] => []
  | i, b :: t => mark b (nth zs i) :: fillC zs (i + 1) t
def fillR1 (zs : List GV) (i : Nat) : RSh → Root
  | .val m e => .val e (mark m (nth zs i))
  | .row1 o e => .row o e [nth zs i]
  | .rowA o e ms => .row o e [.agg (fillC zs i ms)]
  | .rows o e => .row o e (nth zs i).asAgg
def fillR (zs : List GV) : Nat → List (Nat × RSh) → Roots
  | _, [] => []
  | i, (k, s) :: t => (k, fillR1 zs i s) :: fillR zs (i + wR s) t
def Shp.fill (sh : Shp) (zs : List GV) : St := ⟨sh.n, fillT zs 0 sh.ts, fillR zs (wT sh.ts) sh.rs⟩

/-- The same, the ground values from the second on. -/
def Shp.fill1 (sh : Shp) (zs : List GV) : St := ⟨sh.n, fillT zs 1 sh.ts, fillR zs (wT sh.ts + 1) sh.rs⟩
theorem fillL_cons (g : GV) (zs : List GV) : ∀ (l : List SSh) (i : Nat), fillL (g :: zs) (i + 1) l = fillL zs i l := by
  intro l
  induction l with
  | nil => intro i; rfl
  | cons s l ih =>
    intro i
    have h1 : fillS' (g :: zs) (i + 1) s = fillS' zs i s := by cases s <;> rfl
    simp only [fillL, h1]
    rw [show i + 1 + wS s = (i + wS s) + 1 by omega, ih]
theorem fillT_cons (g : GV) (zs : List GV) : ∀ (l : List (Nat × ASh)) (i : Nat), fillT (g :: zs) (i + 1) l = fillT zs i l := by
  intro l
  induction l with
  | nil => intro i; rfl
  | cons y l ih =>
    intro i
    obtain ⟨k, s⟩ := y
    have h1 : fillA (g :: zs) (i + 1) s = fillA zs i s := by
      cases s with
      | one s => cases s <;> rfl
      | a t => rfl
      | agg l => simp only [fillA, fillL_cons]
    simp only [fillT, h1]
    rw [show i + 1 + wA s = (i + wA s) + 1 by omega, ih]
theorem fillC_cons (g : GV) (zs : List GV) : ∀ (l : List Nat) (i : Nat), fillC (g :: zs) (i + 1) l = fillC zs i l := by
  intro l
  induction l with
  | nil => intro i; rfl
  | cons b l ih =>
    intro i
    simp only [fillC, ih]
    rfl
theorem fillR_cons (g : GV) (zs : List GV) : ∀ (l : List (Nat × RSh)) (i : Nat), fillR (g :: zs) (i + 1) l = fillR zs i l := by
  intro l
  induction l with
  | nil => intro i; rfl
  | cons y l ih =>
    intro i
    obtain ⟨k, s⟩ := y
    have h1 : fillR1 (g :: zs) (i + 1) s = fillR1 zs i s := by
      cases s with
      | val m e => rfl
      | row1 o e => rfl
      | rowA o e ms => simp only [fillR1, fillC_cons]
      | rows o e => rfl
    simp only [fillR, h1]
    rw [show i + 1 + wR s = (i + wR s) + 1 by omega, ih]
theorem Shp.fill1_cons (sh : Shp) (g : GV) (zs : List GV) : sh.fill1 (g :: zs) = sh.fill zs := by
  unfold Shp.fill1 Shp.fill
  rw [show (1 : Nat) = 0 + 1 from rfl, fillT_cons, fillR_cons]

/-- The ground values of a state that looks so. -/
def leafS : SSh → SV → Option (List GV)
  | .dead, .dead => some []
  | .s k, .s k' g => bif decide (k = k') then some [g] else none
  | .ref e r, .ref e' r' [] => bif Nat.beq e e' && Nat.beq r r' then some [] else none
  | .ptr r p, .ptr r' p' => bif Nat.beq r r' && decide (p = p') then some [] else none
  | .nilS, .nilS => some []
  | .eptr e off, .eptr e' g off' => bif Nat.beq e e' && Nat.beq off off' then some [g] else none
  | _, _ => none
def leafL : List SSh → List SV → Option (List GV)
  | [], [] => some []
  | s :: t, x :: l => match leafS s x, leafL t l with
    | some a, some b => some (a ++ b)
    | _, _ => none
  | _, _ => none
def leafA : ASh → AV → Option (List GV)
  | .one s, .one x => leafS s x
  | .a t, .a t' g => bif Nat.beq t t' then some [g] else none
  | .agg l, .agg l' => leafL l l'
  | _, _ => none
def leafT : List (Nat × ASh) → Tmps → Option (List GV)
  | [], [] => some []
  | (k, s) :: t, (k', .v x) :: l => bif Nat.beq k k' then match leafA s x, leafT t l with
      | some a, some b => some (a ++ b)
      | _, _ => none
    else none
  | _, _ => none
def isMark : Nat → GV → Bool
  | 0, _ => true
  | 1, .list o _ _ _ => Nat.beq o 0
  | 2, .list o _ _ _ => Nat.beq o 2
  | 3, .list o _ _ [] => Nat.beq o 2
  | _, _ => false
def leafC : List Nat → List GV → Option (List GV)
  | [], [] => some []
  | b :: t, g :: l => bif isMark b g then (leafC t l).map fun a => g :: a else none
  | _, _ => none
def leafR1 : RSh → Root → Option (List GV)
  | .val m e, .val e' g => bif Nat.beq e e' && isMark m g then some [g] else none
  | .row1 o e, .row o' e' [g] => bif Nat.beq o o' && Nat.beq e e' then some [g] else none
  | .rowA o e ms, .row o' e' [.agg l] => bif Nat.beq o o' && Nat.beq e e' then leafC ms l else none
  | .rows o e, .row o' e' l => bif Nat.beq o o' && Nat.beq e e' then some [.agg l] else none
  | _, _ => none
def leafR : List (Nat × RSh) → Roots → Option (List GV)
  | [], [] => some []
  | (k, s) :: t, (k', x) :: l => bif Nat.beq k k' then match leafR1 s x, leafR t l with
      | some a, some b => some (a ++ b)
      | _, _ => none
    else none
  | _, _ => none
def Shp.leaves (sh : Shp) (st : St) : Option (List GV) := bif Nat.beq sh.n st.n then match leafT sh.ts st.tmps, leafR sh.rs st.roots with
  | some a, some b => some (a ++ b)
  | _, _ => none
  else none

theorem nth_pre {p q : List GV} {g : GV} : nth (p ++ (g :: q)) p.length = g := by
  unfold nth; simp [List.getD_eq_getElem?_getD]
theorem mark_of {m : Nat} {g : GV} (h : isMark m g = true) : mark m g = g := by
  unfold isMark at h
  split at h
  · rfl
  · have := Nat.eq_of_beq_eq_true h; subst this; rfl
  · have := Nat.eq_of_beq_eq_true h; subst this; rfl
  · have := Nat.eq_of_beq_eq_true h; subst this; rfl
  · cases h
theorem fill_leafS {s : SSh} {x : SV} {gs p q : List GV} (h : leafS s x = some gs) : fillS' (p ++ (gs ++ q)) p.length s = x ∧ gs.length = wS s := by
  unfold leafS at h
  split at h
  · cases h; exact ⟨rfl, rfl⟩
  · rename_i k k' g
    cases hd : decide (k = k') with
    | false => rw [hd] at h; cases h
    | true =>
      rw [hd] at h
      obtain rfl := of_decide_eq_true hd
      simp only [cond_true, Option.some.injEq] at h
      subst h
      exact ⟨by simp only [fillS', List.singleton_append, nth_pre], rfl⟩
  · rename_i e r e' r'
    cases hd : Nat.beq e e' && Nat.beq r r' with
    | false => rw [hd] at h; cases h
    | true =>
      rw [hd] at h
      simp only [Bool.and_eq_true] at hd
      obtain rfl := Nat.eq_of_beq_eq_true hd.1
      obtain rfl := Nat.eq_of_beq_eq_true hd.2
      simp only [cond_true, Option.some.injEq] at h
      subst h
      exact ⟨rfl, rfl⟩
  · rename_i r pp r' pp'
    cases hd : Nat.beq r r' && decide (pp = pp') with
    | false => rw [hd] at h; cases h
    | true =>
      rw [hd] at h
      simp only [Bool.and_eq_true, decide_eq_true_eq] at hd
      obtain rfl := Nat.eq_of_beq_eq_true hd.1
      obtain rfl := hd.2
      simp only [cond_true, Option.some.injEq] at h
      subst h
      exact ⟨rfl, rfl⟩
  · cases h; exact ⟨rfl, rfl⟩
  · rename_i e off e' g off'
    cases hd : Nat.beq e e' && Nat.beq off off' with
    | false => rw [hd] at h; cases h
    | true =>
      rw [hd] at h
      simp only [Bool.and_eq_true] at hd
      obtain rfl := Nat.eq_of_beq_eq_true hd.1
      obtain rfl := Nat.eq_of_beq_eq_true hd.2
      simp only [cond_true, Option.some.injEq] at h
      subst h
      exact ⟨by simp only [fillS', List.singleton_append, nth_pre], rfl⟩
  · cases h
theorem fill_leafL : ∀ {l : List SSh} {xs : List SV} {gs p q : List GV}, leafL l xs = some gs → fillL (p ++ (gs ++ q)) p.length l = xs ∧ gs.length = wL l := by
  intro l
  induction l with
  | nil => intro xs gs p q h; cases xs with
    | nil => simp only [leafL, Option.some.injEq] at h; subst h; exact ⟨rfl, rfl⟩
    | cons => simp [leafL] at h
  | cons s l ih =>
    intro xs gs p q h
    cases xs with
    | nil => simp [leafL] at h
    | cons x xs =>
      simp only [leafL] at h
      split at h
      · rename_i a b ha hb
        simp only [Option.some.injEq] at h
        subst h
        obtain ⟨h1, h2⟩ := fill_leafS (p := p) (q := b ++ q) ha
        obtain ⟨h3, h4⟩ := ih (p := p ++ a) (q := q) hb
        simp only [List.append_assoc, List.length_append] at h1 h3 ⊢
        refine ⟨?_, by rw [h2, h4]; rfl⟩
        simp only [fillL, h1]
        rw [← h2, h3]
      · cases h
theorem fill_leafA {s : ASh} {x : AV} {gs p q : List GV} (h : leafA s x = some gs) : fillA (p ++ (gs ++ q)) p.length s = x ∧ gs.length = wA s := by
  unfold leafA at h
  split at h
  · obtain ⟨h1, h2⟩ := fill_leafS (p := p) (q := q) h
    exact ⟨by simp only [fillA, h1], h2⟩
  · rename_i t t' g
    cases hd : Nat.beq t t' with
    | false => rw [hd] at h; cases h
    | true =>
      rw [hd] at h
      obtain rfl := Nat.eq_of_beq_eq_true hd
      simp only [cond_true, Option.some.injEq] at h
      subst h
      exact ⟨by simp only [fillA, List.singleton_append, nth_pre], rfl⟩
  · obtain ⟨h1, h2⟩ := fill_leafL (p := p) (q := q) h
    exact ⟨by simp only [fillA, h1], h2⟩
  · cases h
theorem fill_leafT : ∀ {l : List (Nat × ASh)} {xs : Tmps} {gs p q : List GV}, leafT l xs = some gs → fillT (p ++ (gs ++ q)) p.length l = xs ∧ gs.length = wT l := by
  intro l
  induction l with
  | nil => intro xs gs p q h; cases xs with
    | nil => simp only [leafT, Option.some.injEq] at h; subst h; exact ⟨rfl, rfl⟩
    | cons => simp [leafT] at h
  | cons y l ih =>
    intro xs gs p q h
    obtain ⟨k, s⟩ := y
    unfold leafT at h
    split at h
    · rename_i heq; cases heq
    · rename_i k1 s1 l1 k' x xs' heq
      simp only [List.cons.injEq, Prod.mk.injEq] at heq
      obtain ⟨⟨rfl, rfl⟩, rfl⟩ := heq
      cases hd : Nat.beq k k' with
      | false => rw [hd] at h; cases h
      | true =>
        rw [hd] at h
        obtain rfl := Nat.eq_of_beq_eq_true hd
        simp only [cond_true] at h
        split at h
        · rename_i a b ha hb
          simp only [Option.some.injEq] at h
          subst h
          obtain ⟨h1, h2⟩ := fill_leafA (p := p) (q := b ++ q) ha
          obtain ⟨h3, h4⟩ := ih (p := p ++ a) (q := q) hb
          simp only [List.append_assoc, List.length_append] at h1 h3 ⊢
          refine ⟨?_, by rw [h2, h4]; rfl⟩
          simp only [fillT, h1]
          rw [← h2, h3]
        · cases h
    · cases h
theorem fill_leafC : ∀ {l : List Nat} {xs : List GV} {gs p q : List GV}, leafC l xs = some gs → fillC (p ++ (gs ++ q)) p.length l = xs ∧ gs.length = l.length := by
  intro l
  induction l with
  | nil => intro xs gs p q h; cases xs with
    | nil => simp only [leafC, Option.some.injEq] at h; subst h; exact ⟨rfl, rfl⟩
    | cons => simp [leafC] at h
  | cons b l ih =>
    intro xs gs p q h
    cases xs with
    | nil => simp [leafC] at h
    | cons g xs =>
      simp only [leafC] at h
      cases hc : isMark b g with
      | false => rw [hc] at h; cases h
      | true =>
        rw [hc] at h
        simp only [cond_true, Option.map_eq_some_iff] at h
        obtain ⟨a, ha, rfl⟩ := h
        obtain ⟨h3, h4⟩ := ih (p := p ++ [g]) (q := q) ha
        simp only [List.append_assoc, List.singleton_append, List.length_append, List.length_singleton] at h3
        refine ⟨?_, by simp [h4]⟩
        simp only [fillC, List.cons_append, nth_pre, h3]
        rw [mark_of hc]
theorem fill_leafR1 {s : RSh} {x : Root} {gs p q : List GV} (h : leafR1 s x = some gs) : fillR1 (p ++ (gs ++ q)) p.length s = x ∧ gs.length = wR s := by
  unfold leafR1 at h
  split at h
  · rename_i m e e' g
    cases hd : Nat.beq e e' && isMark m g with
    | false => rw [hd] at h; cases h
    | true =>
      rw [hd] at h
      simp only [Bool.and_eq_true] at hd
      obtain rfl := Nat.eq_of_beq_eq_true hd.1
      simp only [cond_true, Option.some.injEq] at h
      subst h
      exact ⟨by simp only [fillR1, List.singleton_append, nth_pre, mark_of hd.2], rfl⟩
  · rename_i o e o' e' g
    cases hd : Nat.beq o o' && Nat.beq e e' with
    | false => rw [hd] at h; cases h
    | true =>
      rw [hd] at h
      simp only [Bool.and_eq_true] at hd
      obtain rfl := Nat.eq_of_beq_eq_true hd.1
      obtain rfl := Nat.eq_of_beq_eq_true hd.2
      simp only [cond_true, Option.some.injEq] at h
      subst h
      exact ⟨by simp only [fillR1, List.singleton_append, nth_pre], rfl⟩
  · rename_i o e ms o' e' l
    cases hd : Nat.beq o o' && Nat.beq e e' with
    | false => rw [hd] at h; cases h
    | true =>
      rw [hd] at h
      simp only [Bool.and_eq_true] at hd
      obtain rfl := Nat.eq_of_beq_eq_true hd.1
      obtain rfl := Nat.eq_of_beq_eq_true hd.2
      obtain ⟨h1, h2⟩ := fill_leafC (p := p) (q := q) h
      exact ⟨by simp only [fillR1, h1], h2⟩
  · rename_i o e o' e' l
    cases hd : Nat.beq o o' && Nat.beq e e' with
    | false => rw [hd] at h; cases h
    | true =>
      rw [hd] at h
      simp only [Bool.and_eq_true] at hd
      obtain rfl := Nat.eq_of_beq_eq_true hd.1
      obtain rfl := Nat.eq_of_beq_eq_true hd.2
      simp only [cond_true, Option.some.injEq] at h
      subst h
      exact ⟨by simp only [fillR1, List.singleton_append, nth_pre, GV.asAgg], rfl⟩
  · cases h
theorem fill_leafR : ∀ {l : List (Nat × RSh)} {xs : Roots} {gs p q : List GV}, leafR l xs = some gs → fillR (p ++ (gs ++ q)) p.length l = xs := by
  intro l
  induction l with
  | nil => intro xs gs p q h; cases xs with
    | nil => simp only [leafR, Option.some.injEq] at h; subst h; rfl
    | cons => simp [leafR] at h
  | cons y l ih =>
    intro xs gs p q h
    obtain ⟨k, s⟩ := y
    cases xs with
    | nil => simp [leafR] at h
    | cons z xs =>
      obtain ⟨k', x⟩ := z
      simp only [leafR] at h
      cases hd : Nat.beq k k' with
      | false => rw [hd] at h; cases h
      | true =>
        rw [hd] at h
        obtain rfl := Nat.eq_of_beq_eq_true hd
        simp only [cond_true] at h
        split at h
        · rename_i a b ha hb
          simp only [Option.some.injEq] at h
          subst h
          obtain ⟨h1, h2⟩ := fill_leafR1 (p := p) (q := b ++ q) ha
          have h3 := ih (p := p ++ a) (q := q) hb
          simp only [List.append_assoc, List.length_append] at h1 h3 ⊢
          simp only [fillR, h1]
          rw [← h2, h3]
        · cases h
theorem fill_leaves {sh : Shp} {st : St} {gs : List GV} (h : sh.leaves st = some gs) : sh.fill gs = st := by
  unfold Shp.leaves at h
  cases hd : Nat.beq sh.n st.n with
  | false => rw [hd] at h; cases h
  | true =>
    rw [hd] at h
    simp only [cond_true] at h
    split at h
    · rename_i a b ha hb
      simp only [Option.some.injEq] at h
      subst h
      obtain ⟨h1, h2⟩ := fill_leafT (p := []) (q := b) ha
      have h3 := fill_leafR (p := a) (q := []) hb
      simp only [List.nil_append, List.append_nil, List.length_nil] at h1 h3
      unfold Shp.fill
      rw [h1, ← h2, h3, Nat.eq_of_beq_eq_true hd]
    · cases h

/-- A loop's step: on with these values, or out by this exit with these. -/
abbrev Stp := ∀ {β : Type}, List GV → (List GV → Option β) → (Nat → List GV → Option β) → Option β
def loopR (step : Stp) : Nat → List GV → Option (Nat × List GV)
  | 0, _ => none
  | n + 1, gs => step gs (loopR step n) fun i zs => some (i, zs)
abbrev Outs := List (Ex × Shp)
def goX : Outs → Nat → List GV → Kt → Option R
  | [], _, _, _ => none
  | [(e, sh)], _, zs, k => k e (sh.fill zs)
  | (e, sh) :: t, i, zs, k => bif Nat.beq i 0 then k e (sh.fill zs) else goX t (Nat.pred i) zs k
structure LEnt where
  i : Nat
  sh : Shp
  outs : Outs
  step : Stp
def LEnt.sum (e : LEnt) (n : Nat) (gs : List GV) (k : Kt) : Option R := (loopR e.step n gs).bind fun r => goX e.outs r.1 r.2 k
/-- An oracle with one loop more. -/
def LSc (e : LEnt) (n : Nat) (L : LOr) : LOr := fun i st k => bif Nat.beq i e.i then (match e.sh.leaves st with | some gs => e.sum n gs k | none => none) else L i st k
def LZ : LOr := fun _ _ _ => none
/-- How a loop's body goes on. -/
def lkk (E : Env) (i : Nat) (kn : St → Option R) (kx : Kt) : Kt
  | .normal, st => kn (runD E.tl st (E.head i))
  | .exit id, st => kx (.exit id) (runD E.tl st (E.out i))
  | .ret, st => kx .ret (runD E.tl st (E.out i))
def loopC (c0 : Code) (i : Nat) : Code × Nat := (loopAt c0 0 i).getD (.skip, 0)
def StepOk (E : Env) (c0 : Code) (L : LOr) (e : LEnt) : Prop :=
  loopAt c0 0 e.i = some (loopC c0 e.i) ∧ (∀ gs kn kx, cexec E L (loopC c0 e.i).1 (loopC c0 e.i).2 (e.sh.fill gs) (lkk E e.i kn kx) = e.step gs (fun gs' => kn (e.sh.fill gs')) fun q zs => goX e.outs q zs kx) ∧
    ∀ {β γ : Type} (f : β → Option γ) gs kn kx, (e.step gs kn kx : Option β).bind f = e.step gs (fun gs' => (kn gs').bind f) fun q zs => (kx q zs).bind f

theorem goX_sub {xs : Outs} {q : Nat} {zs : List GV} {k : Kt} {out : R} (h : goX xs q zs k = some out) : ∃ e st, k e st = some out ∧ ∀ k', goX xs q zs k' = k' e st := by
  induction xs generalizing q with
  | nil => cases h
  | cons x xs ih =>
    obtain ⟨e, sh⟩ := x
    cases xs with
    | nil => exact ⟨e, _, h, fun _ => rfl⟩
    | cons y xs =>
      simp only [goX] at h
      cases hb : Nat.beq q 0 with
      | true =>
        rw [hb] at h
        exact ⟨e, _, h, fun k' => by simp only [goX, hb, cond_true]⟩
      | false =>
        rw [hb] at h
        obtain ⟨e', st', h1, h2⟩ := ih h
        exact ⟨e', st', h1, fun k' => by simp only [goX, hb, cond_false]; exact h2 k'⟩

/-! Where ways meet. -/
def exEq : Ex → Ex → Bool
  | .normal, .normal => true
  | .ret, .ret => true
  | .exit a, .exit b => Nat.beq a b
  | _, _ => false
theorem exEq_eq {a b : Ex} (h : exEq a b = true) : a = b := by
  cases a <;> cases b <;> first | rfl | (cases h) | (have := Nat.eq_of_beq_eq_true h; rw [this])
/-- The number of the way, and what it takes on. -/
def jcode (tl : TL) (ds : List Dir) : Outs → Nat → Ex → St → Option R
  | [], _, _, _ => none
  | (e', sh) :: t, q, e, st => bif exEq e' e then match sh.leaves (runD tl st ds) with
      | some gs => some (.int q :: gs)
      | none => jcode tl ds t (q + 1) e st
    else jcode tl ds t (q + 1) e st
def jdec : Outs → Int → R → Kt → Option R
  | [], _, _, _ => none
  | [(e, sh)], _, gs, k => k e (sh.fill1 gs)
  | (e, sh) :: y :: t, i, gs, k => bif i == 0 then k e (sh.fill1 gs) else jdec (y :: t) (i - 1) gs k
theorem jdec_at {outs : Outs} {q : Nat} {e : Ex} {sh : Shp} {gs : R} {k : Kt} (h : outs[q]? = some (e, sh)) : jdec outs q gs k = k e (sh.fill1 gs) := by
  induction outs generalizing q with
  | nil => simp at h
  | cons x t ih =>
    obtain ⟨e', sh'⟩ := x
    cases t with
    | nil =>
      cases q with
      | zero => simp only [List.getElem?_cons_zero, Option.some.injEq, Prod.mk.injEq] at h; obtain ⟨rfl, rfl⟩ := h; rfl
      | succ q => simp at h
    | cons y t =>
      cases q with
      | zero => simp only [List.getElem?_cons_zero, Option.some.injEq, Prod.mk.injEq] at h; obtain ⟨rfl, rfl⟩ := h; rfl
      | succ q =>
        have := ih (q := q) (by simpa using h)
        simp only [jdec]
        have e1 : (((q + 1 : Nat) : Int) == 0) = false := by rw [beq_eq_false_iff_ne]; omega
        have e2 : ((q + 1 : Nat) : Int) - 1 = (q : Int) := by omega
        rw [e1, e2]; exact this
theorem jcode_at {tl : TL} {ds : List Dir} {outs : Outs} {q : Nat} {e : Ex} {st : St} {r : R} (h : jcode tl ds outs q e st = some r) : ∃ p sh gs, outs[p]? = some (e, sh) ∧ sh.fill gs = runD tl st ds ∧ r = .int (q + p : Nat) :: gs := by
  induction outs generalizing q with
  | nil => cases h
  | cons x t ih =>
    obtain ⟨e', sh'⟩ := x
    have next : jcode tl ds t (q + 1) e st = some r → ∃ p sh gs, ((e', sh') :: t)[p]? = some (e, sh) ∧ sh.fill gs = runD tl st ds ∧ r = .int (q + p : Nat) :: gs := by
      intro h
      obtain ⟨p, sh, gs, h1, h2, h3⟩ := ih h
      exact ⟨p + 1, sh, gs, by simpa using h1, h2, by rw [h3]; congr 3; omega⟩
    simp only [jcode] at h
    cases he : exEq e' e with
    | false => rw [he] at h; exact next h
    | true =>
      rw [he] at h
      simp only [cond_true] at h
      split at h
      · rename_i gs hgs
        simp only [Option.some.injEq] at h
        exact ⟨0, sh', gs, by rw [exEq_eq he]; rfl, fill_leaves hgs, h.symm⟩
      · exact next h
/-- A place where ways meet, by the looks of the states that come there. -/
def mkJP (tl : TL) (ds : List Dir) (outs : Outs) : JP tl where
  c := jcode tl ds outs 0
  d := fun r k => jdec outs (nth r 0).asInt r k
  ok := by
    intro e st r k out h1 h2
    obtain ⟨p, sh, gs, g1, g2, g3⟩ := jcode_at h1
    subst g3
    refine ⟨ds, ?_⟩
    have : jdec outs (p : Int) (.int (0 + p : Nat) :: gs) k = some out := by
      have e0 : (nth (GV.int (0 + p : Nat) :: gs) 0).asInt = (p : Int) := by simp [nth, GV.asInt]
      rw [← e0]; exact h2
    rw [jdec_at g1, Shp.fill1_cons, g2] at this
    exact this
def joinsOf (tl : TL) : List (Nat × JP tl) → Nat → Option (JP tl)
  | [], _ => none
  | (k, j) :: t, i => bif Nat.beq k i then some j else joinsOf tl t i

section
variable {P : Program} {E : Env} {W : Base} {c0 : Code}

theorem LSc_ok (hP : Facts P E.tl) (hS : SpecsOk P E.tl E.sp) {L : LOr} (hL : OracleOk P E W c0 L) {e : LEnt} (he : StepOk E c0 L e) (n : Nat) : OracleOk P E W c0 (LSc e n L) := by
  classical
  intro i c j st k out Q hl hk hQ a w h
  unfold LSc at hk
  cases hi : Nat.beq i e.i with
  | false => rw [hi] at hk; exact hL i c j st k out Q hl hk hQ a w h
  | true =>
    rw [hi] at hk
    have hi := Nat.eq_of_beq_eq_true hi
    simp only [cond_true] at hk
    split at hk
    · rename_i gs0 hgs
      have hst := fill_leaves hgs
      subst hst
      unfold LEnt.sum at hk
      simp only [Option.bind_eq_some_iff] at hk
      obtain ⟨r, hr, hk⟩ := hk
      obtain ⟨ex, stx, hkx, hgo⟩ := goX_sub hk
      obtain ⟨hl', hstep, hnat⟩ := he
      have hcj : loopC c0 e.i = (c, j) := by unfold loopC; rw [← hi, hl]; rfl
      rw [hcj] at hstep
      simp only [] at hstep
      have hf0 : Fits c0 c0 0 := fits_of c0 c0 0 (fun _ _ _ => rfl)
      let J : Act → World → Nat → Prop := fun a w m => ∃ gs, At P E.tl W (e.sh.fill gs) a w ∧ loopR e.step m gs = some r
      have hmin : ∀ a w, ∃ m, (∃ m', J a w m') → J a w m ∧ ∀ m', m' < m → ¬ J a w m' := by
        intro a w
        by_cases hx : ∃ m', J a w m'
        · obtain ⟨m, h1⟩ := exists_min hx; exact ⟨m, fun _ => h1⟩
        · exact ⟨0, fun h => absurd h hx⟩
      let μ : Act → World → Nat := fun a w => Classical.choose (hmin a w)
      have hμ : ∀ a w, (∃ m', J a w m') → J a w (μ a w) ∧ ∀ m', m' < μ a w → ¬ J a w m' := fun a w => Classical.choose_spec (hmin a w)
      refine wp_loop (fun a w => ∃ m, J a w m) μ ⟨n, gs0, h, hr⟩ ?_
      rintro a w ⟨m, hJ⟩
      obtain ⟨⟨gs, h1, hk1⟩, hleast⟩ := hμ a w ⟨m, hJ⟩
      cases hmu : μ a w with
      | zero => rw [hmu] at hk1; simp [loopR] at hk1
      | succ m' =>
        rw [hmu] at hk1
        simp only [loopR] at hk1
        have key : ∀ {β : Type} (kn : List GV → Option β) (kx : Nat → List GV → Option β), e.step gs kn kx = (e.step gs (fun gs' => some (true, 0, gs')) (fun q zs => some (false, q, zs)) : Option (Bool × Nat × List GV)).bind (fun x => bif x.1 then kn x.2.2 else kx x.2.1 x.2.2) := by
          intro β kn kx
          rw [hnat]; rfl
        rw [key] at hk1
        simp only [Option.bind_eq_some_iff] at hk1
        obtain ⟨⟨b, q, zs⟩, hq, hk1⟩ := hk1
        let kn : St → Option R := fun st => if ∃ gs', st = e.sh.fill gs' ∧ loopR e.step m' gs' = some r then some [] else none
        let kx : Kt := fun e st => if e = ex ∧ st = stx then some [] else none
        have hrun : cexec E L c j (e.sh.fill gs) (lkk E e.i kn kx) = some [] := by
          rw [hstep, key, hq]
          simp only [Option.bind_some]
          cases b with
          | true =>
            simp only [cond_true] at hk1 ⊢
            simp only [kn]
            exact if_pos ⟨zs, rfl, hk1⟩
          | false =>
            simp only [cond_false, Option.some.injEq] at hk1 ⊢
            subst hk1
            rw [hgo]
            exact if_pos ⟨rfl, rfl⟩
        refine cexec_sound hP hS hL c j _ _ _ _ (fits_loopAt c0 c0 0 i c j hf0 hl) hrun (fun e' st' hk' a' w' h' => ?_) a w h1
        cases e' with
        | normal =>
          simp only [lkk, kn] at hk'
          split at hk'
          · rename_i hx
            obtain ⟨gs', hg1, hg2⟩ := hx
            have hJ' : J a' w' m' := ⟨gs', by rw [← hg1]; exact runD_sound hP _ h', hg2⟩
            refine ⟨⟨m', hJ'⟩, ?_⟩
            have := (hμ a' w' ⟨m', hJ'⟩).2
            have : μ a' w' ≤ m' := Nat.le_of_not_lt (fun hlt => this m' hlt hJ')
            omega
          · cases hk'
        | exit id =>
          simp only [lkk, kx] at hk'
          split at hk'
          · rename_i hx
            have h2 := runD_sound hP (E.out e.i) h'
            rw [hx.2] at h2
            exact hQ (.exit id) stx (by rw [hx.1]; exact hkx) a' w' h2
          · cases hk'
        | ret =>
          simp only [lkk, kx] at hk'
          split at hk'
          · rename_i hx
            have h2 := runD_sound hP (E.out e.i) h'
            rw [hx.2] at h2
            exact hQ .ret stx (by rw [hx.1]; exact hkx) a' w' h2
          · cases hk'
    · cases hk

theorem LZ_ok : OracleOk P E W c0 LZ := fun i c j st k out Q hl hk => by cases hk
theorem L_sound (hP : Facts P E.tl) (hS : SpecsOk P E.tl E.sp) {L : LOr} (hL : OracleOk P E W c0 L) {st : St} {k : Kt} {out : R} {Q : Exit → Act → World → Prop} (hk : cexec E L c0 0 st k = some out) (hQ : Goes P E.tl W k out Q) {a : Act} {w : World} (h : At P E.tl W st a w) : c0.wp P Q a w :=
  cexec_sound hP hS hL c0 0 st k out Q (fits_of c0 c0 0 (fun _ _ _ => rfl)) hk hQ a w h

/-- A function, its loops by an oracle. -/
def gexec (E : Env) (L : LOr) (nt : Nat) (rvs : List ResultVar) (sg : FSig) (c0 : Code) (gs : List GV) : Option R :=
  cexec E L c0 0 ⟨nt, initT E.tl 0 sg.ps gs, []⟩ (retK E.tl rvs sg.rs)
theorem gexec_calls (hP : Facts P E.tl) (hS : SpecsOk P E.tl E.sp) {f : FuncId} {fn : Func} {sg : FSig} (hf : P.funcs[f]? = some fn) (hb : fn.body = some c0) (hkn : knownR E.tl sg.rs = true) {L : LOr} (hL : ∀ W, OracleOk P E W c0 L) :
    CallsOk P E.tl f sg (gexec E L fn.ntmps fn.results.toList sg c0) := by
  intro w F args gs outs hF hsz hgl hargs hrun
  refine calls_of_wp hf hb ?_
  have hAt : At P E.tl ⟨w, F⟩ ⟨fn.ntmps, initT E.tl 0 sg.ps gs, []⟩ { tmps := args ++ Array.replicate (fn.ntmps - args.size) undef, defers := [] } w := by
    refine ⟨fun _ => .val undef, fun _ _ => False, F, ⟨Below.refl _ w, fun b hb _ => hb, hF, fun r rt hr => by simp [getR] at hr, fun r rt hr => by simp [getR] at hr, fun r rt r' rt' hr => by simp [getR] at hr, fun i v hi => ?_, rfl, by simp; omega⟩⟩
    unfold St.get
    cases hbl : Nat.blt i fn.ntmps with
    | false => trivial
    | true =>
      simp only [cond_true]
      rcases getT_initT (tl := E.tl) sg.ps gs 0 i with h1 | ⟨t, g, _, h2, h3, h4⟩
      · rw [h1]; trivial
      · rw [h4]
        rw [Nat.sub_zero] at h2 h3
        have hlt : i < args.size := by rw [hsz]; exact (List.getElem?_eq_some_iff.1 h2).1
        have hv : args[i]? = some v := by
          rw [Array.getElem?_append_left hlt] at hi; exact hi
        exact hargs i t g v h2 h3 hv
  refine L_sound hP hS (hL _) hrun (fun e st' hk a' w' h' => ?_) hAt
  obtain ⟨ρ, fp, F1, hR⟩ := h'
  obtain ⟨v, hv, hres⟩ := ret_sound hP hR hF hkn hk
  have hgo : a'.defers = [] ∧ ∃ v, (results fn a'.tmps).run P w' = .ok v w' ∧ (Below w.heap.size w w' ∧ ResOk (ttOf E.tl) w w' F sg.rs outs v) := ⟨hR.defers, v, hv, hR.below, hres⟩
  cases e with
  | normal => exact hgo
  | ret => exact hgo
  | exit id => cases hk

theorem bind_cond {β γ : Type} (b : Bool) (x y : Option β) (f : β → Option γ) : (bif b then x else y).bind f = bif b then x.bind f else y.bind f := by cases b <;> rfl
def dirsOf : List (Nat × List Dir) → Nat → List Dir
  | [], _ => []
  | (k, d) :: t, i => bif Nat.beq k i then d else dirsOf t i

/-- Another way to say what it computes. -/
theorem CallsOk.of {tl : TL} {f : FuncId} {sg : FSig} {φ ψ : List GV → Option (List GV)} (h : CallsOk P tl f sg φ) (hle : ∀ gs outs, ψ gs = some outs → φ gs = some outs) : CallsOk P tl f sg ψ :=
  fun w F args gs outs h1 h2 h3 h4 h5 => h w F args gs outs h1 h2 h3 h4 (hle gs outs h5)
/-- The same as far as a cell of this kind tells. -/
def eqK : CK → GV → GV → Prop
  | .int _, g, g' => g.asInt = g'.asInt
  | .bool, g, g' => g.asBool = g'.asBool
  | .str, g, g' => g.asStr = g'.asStr
  | _, g, g' => g = g'
def EqR (tl : TL) (rs : List (TypeId × List Nat)) (outs outs' : List GV) : Prop :=
  ∀ (q : Nat) t ms, rs[q]? = some (t, ms) → ∀ j, j < (ttOf tl t).sz → eqK ((ttOf tl t).ck j) (cellG (ttOf tl t).agg (nth outs q) j) (cellG (ttOf tl t).agg (nth outs' q) j)
theorem Own.eqK {tt : TT} {w : World} {F : Nat → Prop} {k : CK} {g g' : GV} {v : Value} {S : Nat → Prop} (h : Own tt w F k g v S) (he : eqK k g g') : Own tt w F k g' v S := by
  have plain : (∀ e, k ≠ .slice e) → (GRel tt w F k g v → GRel tt w F k g' v) → Own tt w F k g' v S := by
    intro hk hg
    cases h with
    | plain h _ => exact .plain (hg h) (fun ⟨e, h⟩ => absurd h (hk e))
    | nil => exact absurd rfl (hk _)
    | shallow => exact absurd rfl (hk _)
    | deep => exact absurd rfl (hk _)
  cases k with
  | int k =>
    refine plain (fun e h => by cases h) (fun hg => ?_)
    have he : g.asInt = g'.asInt := he
    cases hg with
    | int hi => rw [he]; exact .int (he ▸ hi)
  | bool =>
    refine plain (fun e h => by cases h) (fun hg => ?_)
    have he : g.asBool = g'.asBool := he
    cases hg with
    | bool => rw [he]; exact .bool
  | str =>
    refine plain (fun e h => by cases h) (fun hg => ?_)
    have he : g.asStr = g'.asStr := he
    cases hg with
    | str hs => rw [he]; exact .str (he ▸ hs)
  | slice e => have he : g = g' := he; rw [← he]; exact h
  | fn => have he : g = g' := he; rw [← he]; exact h
  | iface => have he : g = g' := he; rw [← he]; exact h
  | other => have he : g = g' := he; rw [← he]; exact h
theorem CallsOk.ofE {tl : TL} {f : FuncId} {sg : FSig} {φ ψ : List GV → Option (List GV)} (h : CallsOk P tl f sg φ) (hle : ∀ gs outs, ψ gs = some outs → ∃ outs', φ gs = some outs' ∧ EqR tl sg.rs outs' outs) : CallsOk P tl f sg ψ := by
  intro w F args gs outs h1 h2 h3 h4 h5
  obtain ⟨outs', h6, h7⟩ := hle gs outs h5
  refine Calls.mono (h w F args gs outs' h1 h2 h3 h4 h6) fun e w' he => ?_
  cases e with
  | returned v =>
    refine ⟨he.1, ?_⟩
    obtain ⟨vs, F', S, g1, g2, g3, g4, g5, g6⟩ := he.2.ex
    refine ⟨⟨vs, F', S, g1, g2, g3, g4, fun q t ms u hq hu => ?_, g6⟩⟩
    obtain ⟨k1, k2, k3, k4⟩ := g5 q t ms u hq hu
    refine ⟨k1, k2, k3, fun j x hx => ?_⟩
    obtain ⟨m1, m2⟩ := k4 j x hx
    have hj : j < (ttOf tl t).sz := by rw [← k1]; exact (Array.getElem?_eq_some_iff.1 hx).1
    have he := h7 q t ms hq j hj
    refine ⟨m1.eqK he, fun ⟨e, hk⟩ => ?_⟩
    rw [hk] at he
    have he : cellG (ttOf tl t).agg (nth outs' q) j = cellG (ttOf tl t).agg (nth outs q) j := he
    rw [← he]; exact m2 ⟨e, hk⟩
  | panicked c => exact he
  | outgrown => exact he
theorem CallsOk.supE {tl : TL} {f : FuncId} {sg : FSig} {φ : Nat → List GV → Option (List GV)} {ψ : List GV → Option (List GV)} (h : ∀ n, CallsOk P tl f sg (φ n)) (hle : ∀ gs outs, ψ gs = some outs → ∃ n outs', φ n gs = some outs' ∧ EqR tl sg.rs outs' outs) : CallsOk P tl f sg ψ := by
  intro w F args gs outs h1 h2 h3 h4 h5
  classical
  obtain ⟨n, outs', h6, h7⟩ := hle gs outs h5
  exact (h n).ofE (ψ := fun gs' => if gs' = gs then some outs else none) (fun gs' o ho => by
    split at ho
    · rename_i e; rw [e]; cases ho; exact ⟨outs', h6, h7⟩
    · cases ho) w F args gs outs h1 h2 h3 h4 (by simp)
theorem EqR.refl {tl : TL} {rs : List (TypeId × List Nat)} {outs : List GV} : EqR tl rs outs outs := fun q t ms _ j _ => by
  unfold eqK; split <;> rfl
theorem EqR.ints {tl : TL} {rs : List (TypeId × List Nat)} {outs outs' : List GV} (h : ∀ (q : Nat) t ms, rs[q]? = some (t, ms) → (ttOf tl t).agg = false ∧ eqK ((ttOf tl t).ck 0) (nth outs q) (nth outs' q)) (h1 : ∀ t ms, (t, ms) ∈ rs → (ttOf tl t).sz ≤ 1) : EqR tl rs outs outs' := by
  intro q t ms hq j hj
  obtain ⟨ha, hk⟩ := h q t ms hq
  have : j = 0 := by have := h1 t ms (List.mem_of_getElem? hq); omega
  subst this
  rw [ha]; exact hk

theorem CallsOk.sup {tl : TL} {f : FuncId} {sg : FSig} {φ : Nat → List GV → Option (List GV)} {ψ : List GV → Option (List GV)} (h : ∀ n, CallsOk P tl f sg (φ n)) (hle : ∀ gs outs, ψ gs = some outs → ∃ n, φ n gs = some outs) : CallsOk P tl f sg ψ :=
  fun w F args gs outs h1 h2 h3 h4 h5 => by
    obtain ⟨n, hn⟩ := hle gs outs h5
    exact h n w F args gs outs h1 h2 h3 h4 hn

theorem known_mem {tl : TL} {t : TypeId} (h : known tl t = true) : ∃ x, (t, x) ∈ tl := by
  unfold known at h
  induction tl with
  | nil => simp [look] at h
  | cons y tl ih =>
    obtain ⟨k, x⟩ := y
    simp only [look] at h
    by_cases hk : k = t
    · subst hk; exact ⟨x, List.mem_cons_self ..⟩
    · rw [beq_ff hk] at h
      obtain ⟨x', hx⟩ := ih h
      exact ⟨x', List.mem_cons_of_mem _ hx⟩
/-- The facts on a table, each type by itself. -/
theorem Facts.ofL {P : Program} {tl : TL} (h : ∀ x, x ∈ tl → FactT P tl x.1) (ha : aggB tl = true) (hm : P.follows .mixedOrders = true) : Facts P tl :=
  ⟨fun t ht => by obtain ⟨x, hx⟩ := known_mem ht; exact h _ hx, aggB_spec ha, hm⟩
theorem specs_nil {P : Program} {tl : TL} : SpecsOk P tl [] := fun f sg φ h => by cases h
theorem specs_cons {P : Program} {tl : TL} {sp : Specs} {f : Nat} {sg : FSig} {φ : List GV → Option (List GV)} (h : SpecsOk P tl sp) (hc : CallsOk P tl f sg φ) (hin : ∀ args w, (callFunc f args).run P w = .ok (.enter f args) w) : SpecsOk P tl ((f, sg, φ) :: sp) := by
  intro f' sg' φ' hl
  simp only [lookS] at hl
  by_cases hf : f = f'
  · subst hf
    rw [Nat.beq_refl] at hl
    simp only [cond_true, Option.some.injEq, Prod.mk.injEq] at hl
    obtain ⟨rfl, rfl⟩ := hl
    exact ⟨hc, hin⟩
  · rw [beq_ff hf] at hl; exact h f' sg' φ' hl

end
end Go.Eng

/- Words for the plain laws: numbers in range, loops that count. Of no program. -/
namespace Go.Eng
set_option linter.unusedVariables false
set_option linter.unusedSimpArgs false

theorem w64 {n : Int} (h0 : -9223372036854775808 ≤ n) (h1 : n < 9223372036854775808) : IntKind.i64.wrap n = n := by
  unfold IntKind.wrap
  simp [IntKind.bits, IntKind.signed]
  omega
theorem w8 {n : Int} (h0 : 0 ≤ n) (h1 : n < 256) : IntKind.u8.wrap n = n := by
  unfold IntKind.wrap
  simp [IntKind.bits, IntKind.signed]
  omega
theorem wu64 {n : Int} (h0 : 0 ≤ n) (h1 : n < 18446744073709551616) : IntKind.u64.wrap n = n := by
  unfold IntKind.wrap
  simp [IntKind.bits, IntKind.signed]
  omega
theorem inRange_iff' {i : Int} {n : Nat} : inRange i n = true ↔ 0 ≤ i ∧ i < n := by simp [inRange]
theorem inRange_nat {i n : Nat} (h : i < n) : inRange (i : Int) n = true := inRange_iff'.2 ⟨by omega, by omega⟩
@[simp] theorem nth_zero (g : GV) (l : List GV) : nth (g :: l) 0 = g := rfl
@[simp] theorem nth_succ (g : GV) (l : List GV) (i : Nat) : nth (g :: l) (i + 1) = nth l i := rfl
@[simp] theorem asInt_int (n : Int) : (GV.int n).asInt = n := rfl
@[simp] theorem asBool_bool (b : Bool) : (GV.bool b).asBool = b := rfl
@[simp] theorem asStr_str (s : ByteArray) : (GV.str s).asStr = s := rfl
@[simp] theorem asList_list (o : Nat) (z : Bool) (l sp : List GV) : (GV.list o z l sp).asList = l := rfl
@[simp] theorem asSp_list (o : Nat) (z : Bool) (l sp : List GV) : (GV.list o z l sp).asSp = sp := rfl
@[simp] theorem asZ_list (o : Nat) (z : Bool) (l sp : List GV) : (GV.list o z l sp).asZ = z := rfl
@[simp] theorem asAgg_agg (l : List GV) : (GV.agg l).asAgg = l := rfl
@[simp] theorem all_list (o : Nat) (z : Bool) (l sp : List GV) : (GV.list o z l sp).all = l ++ sp := rfl
@[simp] theorem cellG_agg (l : List GV) (j : Nat) : cellG true (.agg l) j = nth l j := rfl
theorem nth_append_left {l l' : List GV} {i : Nat} (h : i < l.length) : nth (l ++ l') i = nth l i := by
  unfold nth
  simp only [List.getD_eq_getElem?_getD]
  rw [List.getElem?_append_left h]
theorem nth_all {g : GV} {i : Nat} (h : i < g.asList.length) : nth g.all i = nth g.asList i := nth_append_left h
theorem nth_mem {l : List GV} {i : Nat} (h : i < l.length) : nth l i ∈ l := by
  unfold nth
  simp only [List.getD_eq_getElem?_getD]
  rw [List.getElem?_eq_getElem h]
  exact List.getElem_mem h

/-- A test that is known, whatever decides it. -/
theorem dT {p : Prop} {i : Decidable p} (h : p) : @decide p i = true := by
  cases i with
  | isTrue _ => rfl
  | isFalse h' => exact absurd h h'
theorem dF {p : Prop} {i : Decidable p} (h : ¬ p) : @decide p i = false := by
  cases i with
  | isTrue h' => exact absurd h' h
  | isFalse _ => rfl

theorem cT {α : Sort _} {p : Prop} {i : Decidable p} (h : p) (x y : α) : (bif @decide p i then x else y) = x := by rw [dT h]; rfl
theorem cF {α : Sort _} {p : Prop} {i : Decidable p} (h : ¬ p) (x y : α) : (bif @decide p i then x else y) = y := by rw [dF h]; rfl
theorem bT {α : Sort _} {b : Bool} (h : b = true) (x y : α) : (bif b then x else y) = x := by rw [h]; rfl
theorem bF {α : Sort _} {b : Bool} (h : b = false) (x y : α) : (bif b then x else y) = y := by rw [h]; rfl

/-- A loop whose states are known round by round. -/
theorem loop_done {step : Stp} {S : Nat → List GV} {n q : Nat} {zs : List GV} (h : ∀ i, i < n → ∀ (kn : List GV → Option (Nat × List GV)) kx, step (S i) kn kx = kn (S (i + 1)))
    (he : ∀ (kn : List GV → Option (Nat × List GV)) kx, step (S n) kn kx = kx q zs) {N : Nat} (hN : n < N) : loopR step N (S 0) = some (q, zs) := by
  have key : ∀ m k, k + m = n → ∀ N, m < N → loopR step N (S k) = some (q, zs) := by
    intro m
    induction m with
    | zero =>
      intro k hk N hN
      obtain ⟨N, rfl⟩ : ∃ N', N = N' + 1 := ⟨N - 1, by omega⟩
      have : k = n := by omega
      subst this
      simp only [loopR]; exact he _ _
    | succ m ih =>
      intro k hk N hN
      obtain ⟨N, rfl⟩ : ∃ N', N = N' + 1 := ⟨N - 1, by omega⟩
      simp only [loopR]
      rw [h k (by omega)]
      exact ih (k + 1) (by omega) N (by omega)
  exact key n 0 (by omega) N hN

end Go.Eng

/- Arguments that a row reads: their ground values. Of no program. -/
namespace Go.Eng
set_option linter.unusedVariables false
set_option linter.unusedSimpArgs false

def valG : Value → GV
  | .int _ n => .int n
  | .bool b => .bool b
  | .string s => .str s
  | _ => .moved

theorem add_lit' (b o n : Nat) : Addr.add ⟨b, o, none⟩ n = ⟨b, o + n, none⟩ := by unfold Addr.add; split <;> simp_all

section
variable {H : Type} {enc : TypeId × Value → H} {P : Program} {tl : TL} {w : World} {base : Nat} {sp : Nat → Bool} {held : Bool} {F : Nat → Prop}

/-- What a reading says of the cells of a flat value. -/
def FlatAt (enc : TypeId × Value → H) (P : Program) (tl : TL) (w : World) (base : Nat) (sp : Nat → Bool) (held : Bool) (F : Nat → Prop) (e : TypeId) : Prop :=
  ∀ (fuel : Nat) (cs : List Value) (x : DataW H × List MemPlace), DataW.trod enc P w base sp held fuel e cs = some x → cs.length = (ttOf tl e).sz ∧ ∀ j, j < (ttOf tl e).sz → ∃ v, cs[j]? = some v ∧ GRel (ttOf tl) w F ((ttOf tl e).ck j) (valG v) v

theorem flat_int (hP : Facts P tl) {e : TypeId} {k : IntKind} (hd : (ttOf tl e).desc = .int k) : FlatAt enc P tl w base sp held F e := by
  intro fuel cs x h
  have hf := (hP.of hd (by simp)).desc
  rw [hd] at hf
  obtain ⟨hu, hc⟩ := hf
  obtain ⟨m, rfl, rfl, hw⟩ := DataW.trod_int hu h
  have hsz : (ttOf tl e).sz = 1 := by unfold TI.sz; rw [hc]; rfl
  refine ⟨by rw [hsz]; rfl, fun j hj => ?_⟩
  obtain rfl : j = 0 := by omega
  refine ⟨_, rfl, ?_⟩
  have : (ttOf tl e).ck 0 = .int k := by unfold TI.ck; rw [hc]; rfl
  rw [this]
  exact GRel.int (g := .int m) hw
theorem flat_struct (hP : Facts P tl) {e : TypeId} {fs : List (Nat × TypeId)} (hd : (ttOf tl e).desc = .struct fs) (hc : ∀ j, j < (ttOf tl e).sz → ∃ (f : Nat) (ft : TypeId) (k : IntKind), fs[f]? = some (j, ft) ∧ (ttOf tl ft).desc = .int k) :
    FlatAt enc P tl w base sp held F e := by
  intro fuel cs x h
  have hft := hP.of hd (by simp)
  have hf := hft.desc
  rw [hd] at hf
  obtain ⟨hagg, fields, hu, hfs, hcell⟩ := hf
  obtain ⟨xs, n, rfl, rfl, hl, hx, hall⟩ := DataW.trod_struct hu h
  have hcells : P.cellsOf e = (ttOf tl e).sz := by
    obtain ⟨i, hi, hs, _⟩ := hft.info
    unfold Program.cellsOf
    rw [hi]; exact hs
  refine ⟨by rw [hl, hcells], fun j hj => ?_⟩
  obtain ⟨f, ft, k, hf, hk⟩ := hc j hj
  obtain ⟨fd, g1, g2, g3, g4, g5, g6⟩ := hcell f j ft hf
  have hy := hall f fd g1
  have hlt : f < xs.length := by
    have := (Array.getElem?_eq_some_iff.1 g1).1
    omega
  rw [List.getElem?_eq_getElem hlt, g3, g2] at hy
  have hft' := hP.of hk (by simp)
  have hd' := hft'.desc
  rw [hk] at hd'
  obtain ⟨hu', hc'⟩ := hd'
  have hsz : (ttOf tl ft).sz = 1 := by unfold TI.sz; rw [hc']; rfl
  obtain ⟨m, e1, _, hw⟩ := DataW.trod_int hu' hy
  have hv : cs[j]? = some (.int k m) := by
    have : ((cs.drop j).take (P.cellsOf ft))[0]? = some (.int k m) := by rw [e1]; rfl
    rw [List.getElem?_take] at this
    split at this
    · rw [List.getElem?_drop] at this; simpa using this
    · cases this
  refine ⟨_, hv, ?_⟩
  have h6 := g6 0 (by omega)
  have hck : (ttOf tl ft).ck 0 = .int k := by unfold TI.ck; rw [hc']; rfl
  rw [Nat.add_zero] at h6
  rw [h6, hck]
  exact GRel.int (g := .int m) hw

/-- A slice of flat values, as an argument. -/
theorem slice_arg (hP : Facts P tl) {t e : TypeId} (hd : (ttOf tl t).desc = .slice e) (he : FlatAt enc P tl w 0 (fun _ => true) held (fun b => b < w.heap.size) e) {r : Reach} {b0 : Nat} {v : Value} (hok : Value.okWide P w r b0 t v)
    {d : DataW H} {ps : List MemPlace} (h : DataW.Trod enc P w 0 (fun _ => true) held t v d ps) : ∃ g, GRel (ttOf tl) w (fun b => b < w.heap.size) (.slice e) g v := by
  have hft := hP.of hd (by simp)
  have hf := hft.desc
  rw [hd] at hf
  obtain ⟨hu, hc, hk⟩ := hf
  obtain ⟨a', len, cap, rfl⟩ := Go.WideShapes.okWide_slice hu hok
  obtain ⟨fuel, h⟩ := h
  have hcells : P.cellsOf e = (ttOf tl e).sz := by
    obtain ⟨i, hi, hs, _⟩ := (hP.t e hk).info
    unfold Program.cellsOf
    rw [hi]; exact hs
  rcases DataW.trod_slice hu h with ⟨h0, _⟩ | ⟨a, l', c', elems, rest, n, _, hcs, _, hb, hl, hm, hlen, hel, hsp, _⟩
  · simp only [Value.cells, List.cons.injEq, and_true] at h0
    rw [h0]
    exact ⟨.list 0 false [] [], .nil rfl⟩
  · simp only [Value.cells, List.cons.injEq, and_true, Value.slice.injEq] at hcs
    obtain ⟨rfl, rfl, rfl⟩ := hcs
    obtain ⟨hrl, hrest⟩ := hsp rfl
    -- where it lies
    have hhas : a.spot = none ∧ a.block < w.heap.size := by
      simp only [Value.okWide, hu, Cell.okWide, Cell.ok] at hok
      obtain ⟨_, _, _, hs, row, cells, hsh, _⟩ := hok
      refine ⟨hs, ?_⟩
      unfold World.shape? at hsh
      split at hsh
      · rename_i heq; exact (Array.getElem?_eq_some_iff.1 heq).1
      · cases hsh
    obtain ⟨hspot, hblk⟩ := hhas
    let f : Nat → Nat → Value := fun i j => (w.cell? ⟨a.block, a.off + (i * (ttOf tl e).sz + j), none⟩).getD undef
    let eg : Nat → GV := fun i => bif (ttOf tl e).agg then .agg ((List.range (ttOf tl e).sz).map fun j => valG (f i j)) else valG (f i 0)
    have each : ∀ i, i < cap → ∀ j, j < (ttOf tl e).sz → w.cell? ⟨a.block, a.off + (i * (ttOf tl e).sz + j), none⟩ = some (f i j) ∧ GRel (ttOf tl) w (fun b => b < w.heap.size) ((ttOf tl e).ck j) (valG (f i j)) (f i j) := by
      intro i hi j hj
      have hb' : ∃ y, (w.cells? 0 (a.add (i * P.cellsOf e)) (P.cellsOf e)).bind (DataW.trod enc P w 0 (fun _ => true) held n e) = some y := by
        by_cases hil : i < len
        · rw [hel i hil]; exact ⟨_, List.getElem?_eq_getElem (by omega)⟩
        · have := hrest (i - len) (by omega)
          rw [show len + (i - len) = i by omega] at this
          rw [this]
          exact ⟨_, List.getElem?_eq_getElem (by omega)⟩
      obtain ⟨y, hy⟩ := hb'
      rw [Option.bind_eq_some_iff] at hy
      obtain ⟨cs, hcs, hy⟩ := hy
      obtain ⟨c1, c2⟩ := he _ _ _ hy
      obtain ⟨v, hv, hg⟩ := c2 j hj
      have hcell := (World.cells?_some hcs).2.2 j (by omega)
      rw [hv] at hcell
      have hadd : (a.add (i * P.cellsOf e)).add j = ⟨a.block, a.off + (i * (ttOf tl e).sz + j), none⟩ := by
        rw [hcells]
        obtain ⟨b, o, s⟩ := a
        simp only at hspot
        subst hspot
        rw [add_lit', add_lit', Nat.add_assoc]
      rw [hadd] at hcell
      have hfv : f i j = v := by show (w.cell? _).getD undef = v; rw [hcell]; rfl
      rw [hfv]
      exact ⟨hcell, hg⟩
    have hall : (GV.list 0 false ((List.range len).map eg) ((List.range (cap - len)).map fun j => eg (len + j))).all = (List.range cap).map eg := by
      show (List.range len).map eg ++ (List.range (cap - len)).map (fun j => eg (len + j)) = _
      have : cap = len + (cap - len) := by omega
      conv => rhs; rw [this, List.range_add, List.map_append, List.map_map]
      rfl
    have hnth : ∀ i, i < cap → nth (GV.list 0 false ((List.range len).map eg) ((List.range (cap - len)).map fun j => eg (len + j))).all i = eg i := by
      intro i hi
      rw [hall]
      unfold nth
      simp [List.getD_eq_getElem?_getD, List.getElem?_map, List.getElem?_range hi]
    refine ⟨.list 0 false ((List.range len).map eg) ((List.range (cap - len)).map fun j => eg (len + j)), ?_⟩
    have hlenE : len = (GV.list 0 false ((List.range len).map eg) ((List.range (cap - len)).map fun j => eg (len + j))).asList.length := by simp
    have hcapE : (GV.list 0 false ((List.range len).map eg) ((List.range (cap - len)).map fun j => eg (len + j))).all.length = cap := by rw [hall]; simp
    have key := GRel.slice (tt := ttOf tl) (w := w) (F := fun b => b < w.heap.size) (e := e) (g := .list 0 false ((List.range len).map eg) ((List.range (cap - len)).map fun j => eg (len + j))) a cap f (fun h => by cases h) hspot hblk (by omega) hm
      (fun i j hi hj => (each i (by omega) j hj).1) (fun i j hi hj => by
        have hg := (each i (by omega) j hj).2
        rw [hnth i (by omega)]
        show GRel _ _ _ _ (cellG (ttOf tl e).agg (bif (ttOf tl e).agg then _ else _) j) _
        rcases hP.agg e with ha | ha
        · rw [ha]
          simp only [cond_true]
          have : cellG true (GV.agg ((List.range (ttOf tl e).sz).map fun j => valG (f i j))) j = valG (f i j) := by
            show (((List.range (ttOf tl e).sz).map fun j => valG (f i j)).getD j .moved) = _
            simp [List.getD_eq_getElem?_getD, List.getElem?_map, List.getElem?_range hj]
          rw [this]; exact hg
        · obtain rfl : j = 0 := by omega
          cases hag : (ttOf tl e).agg with
          | false => exact hg
          | true =>
            simp only [cond_true]
            have : cellG true (GV.agg ((List.range (ttOf tl e).sz).map fun j => valG (f i j))) 0 = valG (f i 0) := by
              show (((List.range (ttOf tl e).sz).map fun j => valG (f i j)).getD 0 .moved) = _
              simp [List.getD_eq_getElem?_getD, List.getElem?_map, List.getElem?_range hj]
            rw [this]; exact hg)
    rw [← hlenE] at key
    exact key
end
end Go.Eng
