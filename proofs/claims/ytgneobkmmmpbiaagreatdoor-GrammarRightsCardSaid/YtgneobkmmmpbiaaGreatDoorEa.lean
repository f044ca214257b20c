/- An abstract interpreter of code over ground values, with its soundness; of no program. Part 1. -/
import Derived.WalkKit
import Derived.Below
import Derived.RowKit3
import Derived.Laws.BytesArg
import Derived.OpenShut
import Derived.Laws.StructEq
import Derived.Great.BuildSlice
import Derived.Laws.MakeOwn
import Derived.Lib.ConvBytes
import Derived.Laws.CopyRow
import Derived.Laws.CopyOwn
import Derived.Laws.Tables
/- Ground values, the kinds of cells, and how a ground value stands in memory: read only (GRel), and owned (Own). Of no program. -/
namespace Go.Eng
set_option linter.unusedVariables false
set_option linter.unusedSimpArgs false

/-- A ground value. A list has a mark (0: read only, 1: the row is ours, its elements are read only, 2: all of it is ours), whether it is nil just where it is empty (where that is known), its elements, and what stands behind them up to the capacity, as far as that is known. An aggregate is flat: a member a cell. -/
inductive GV where
  | int (n : Int)
  | bool (b : Bool)
  | str (s : ByteArray)
  | list (own : Nat) (z : Bool) (l sp : List GV)
  | agg (l : List GV)
  | fn (f : Nat)
  | nil
  | iface (t : Nat) (v : GV)
  | moved
instance : Inhabited GV := ⟨.moved⟩

def GV.asInt : GV → Int | .int n => n | _ => 0
def GV.asBool : GV → Bool | .bool b => b | _ => false
def GV.asStr : GV → ByteArray | .str s => s | _ => ⟨#[]⟩
def GV.asList : GV → List GV | .list _ _ l _ => l | _ => []
def GV.asSp : GV → List GV | .list _ _ _ s => s | _ => []
def GV.asOwn : GV → Nat | .list o _ _ _ => o | _ => 0
def GV.asZ : GV → Bool | .list _ z _ _ => z | _ => false
def GV.asAgg : GV → List GV | .agg l => l | _ => []
def GV.all (g : GV) : List GV := g.asList ++ g.asSp

/-- The kinds of cells. -/
inductive CK where
  | int (k : IntKind)
  | bool
  | str
  | slice (e : TypeId)
  | fn
  | iface
  | other
  deriving DecidableEq, Inhabited

inductive Desc where
  | int (k : IntKind)
  | bool
  | str
  | slice (e : TypeId)
  | struct (fs : List (Nat × TypeId))
  | array (n : Nat) (e : TypeId)
  | iface
  | other
  deriving Inhabited
structure TI where
  cells : List CK
  agg : Bool
  bytes : Nat
  desc : Desc
  deriving Inhabited

abbrev TT := TypeId → TI

def TI.ck (t : TI) (j : Nat) : CK := t.cells.getD j .other
def TI.sz (t : TI) : Nat := t.cells.length
/-- Cell j of a value of a type. -/
def cellG (agg : Bool) (g : GV) (j : Nat) : GV := bif agg then g.asAgg.getD j .moved else g
def nth (l : List GV) (i : Nat) : GV := l.getD i .moved

def zeroG : CK → GV
  | .int _ => .int 0 | .bool => .bool false | .str => .str ⟨#[]⟩ | .slice _ => .list 2 true [] [] | .fn => .nil | .iface => .nil | .other => .moved
def zeroV : CK → Value
  | .int k => .int k 0 | .bool => .bool false | .str => .string ⟨#[]⟩ | .slice _ => .slice none 0 0 | .fn => .nilFunc | .iface => .nilIface | .other => .pointer none
def TI.zeroG (t : TI) : GV := bif t.agg then .agg (t.cells.map Eng.zeroG) else Eng.zeroG (t.ck 0)
def TI.zeroV (t : TI) : Value := bif t.agg then .agg (t.cells.map Eng.zeroV).toArray else Eng.zeroV (t.ck 0)

def inK (k : IntKind) (n : Int) : Prop := (Lit.int k n).wf = true

/-- Read only: a cell of a kind holds a ground value; memory that is met lies in blocks of F. -/
inductive GRel (tt : TT) (w : World) (F : Nat → Prop) : CK → GV → Value → Prop
  | int {k : IntKind} {g : GV} (h : inK k g.asInt) : GRel tt w F (.int k) g (.int k g.asInt)
  | bool {g : GV} : GRel tt w F .bool g (.bool g.asBool)
  | str {g : GV} (h : g.asStr.size ≤ 140737488351232) : GRel tt w F .str g (.string g.asStr)
  | nil {e : TypeId} {g : GV} (h : g.all = []) : GRel tt w F (.slice e) g (.slice none 0 0)
  | slice {e : TypeId} {g : GV} (a : Addr) (cap : Nat) (f : Nat → Nat → Value) (hz : g.asZ = true → g.all ≠ []) (hs : 0 < g.all.length → a.spot = none) (hF : 0 < g.all.length → F a.block)
      (hc : g.all.length ≤ cap) (hm : cap ≤ maxLen)
      (hw : ∀ i j, i < g.all.length → j < (tt e).sz → w.cell? ⟨a.block, a.off + (i * (tt e).sz + j), none⟩ = some (f i j))
      (hr : ∀ i j, i < g.all.length → j < (tt e).sz → GRel tt w F ((tt e).ck j) (cellG (tt e).agg (nth g.all i) j) (f i j)) :
      GRel tt w F (.slice e) g (.slice (some a) g.asList.length cap)
  | fn {f : Nat} : GRel tt w F .fn (.fn f) (.func (.func f) #[] #[])
  | nilFn : GRel tt w F .fn .nil .nilFunc
  | nilIface : GRel tt w F .iface .nil .nilIface
  | ifaceS {t : TypeId} {g : GV} {v : Value} (ha : (tt t).agg = false) (h : GRel tt w F ((tt t).ck 0) g v) : GRel tt w F .iface (.iface t g) (.iface t v)
  | ifaceA {t : TypeId} {g : GV} (cs : Array Value) (f : Nat → Value) (ha : (tt t).agg = true) (hs : cs.size = (tt t).sz) (hf : ∀ j, j < (tt t).sz → cs[j]? = some (f j))
      (h : ∀ j, j < (tt t).sz → GRel tt w F ((tt t).ck j) (cellG true g j) (f j)) : GRel tt w F .iface (.iface t g) (.iface t (.agg cs))

theorem GRel.mono {tt : TT} {w w' : World} {F F' : Nat → Prop} {k : CK} {g : GV} {v : Value} (h : GRel tt w F k g v)
    (hF : ∀ b, F b → F' b) (hw : ∀ b, F b → w'.heap[b]? = w.heap[b]?) : GRel tt w' F' k g v := by
  induction h with
  | int h => exact .int h
  | bool => exact .bool
  | str h => exact .str h
  | nil h => exact .nil h
  | slice a cap f hz hs hb hc hm hcell _ ih =>
    refine .slice a cap f hz hs (fun h0 => hF _ (hb h0)) hc hm (fun i j hi hj => ?_) (fun i j hi hj => ih i j hi hj)
    exact (World.cell?_of_block (w := w) (w' := w') (a := ⟨a.block, _, none⟩) (hw _ (hb (Nat.lt_of_le_of_lt (Nat.zero_le _) hi)))).trans (hcell i j hi hj)
  | fn => exact .fn
  | nilFn => exact .nilFn
  | nilIface => exact .nilIface
  | ifaceS ha _ ih => exact .ifaceS ha ih
  | ifaceA cs f ha hs hf _ ih => exact .ifaceA cs f ha hs hf ih

/-- A value whose memory, if it has any, does not matter for stores: one cell. -/
theorem GRel.oneCell {tt : TT} {w : World} {F : Nat → Prop} {k : CK} {g : GV} {v : Value} (h : GRel tt w F k g v) : v.oneCell' = true := by
  cases h <;> rfl

/-- Owned: the blocks of S are ours alone. -/
inductive Own (tt : TT) (w : World) (F : Nat → Prop) : CK → GV → Value → (Nat → Prop) → Prop
  | plain {k : CK} {g : GV} {v : Value} (h : GRel tt w F k g v) (hk : (∃ e, k = .slice e) → g.asOwn = 0) : Own tt w F k g v (fun _ => False)
  | nil {e : TypeId} {g : GV} (h : g.all = []) : Own tt w F (.slice e) g (.slice none 0 0) (fun _ => False)
  | shallow {e : TypeId} {g : GV} (b cap : Nat) (cur : Array Value) (f : Nat → Nat → Value) (hz : g.asZ = true → g.all ≠ []) (ho : g.asOwn = 1) (hb : w.heap[b]? = some (.cells cur e (0, 0)))
      (hc : g.all.length ≤ cap) (hm : cap ≤ maxLen) (hs : cur.size = cap * (tt e).sz)
      (hw : ∀ i j, i < g.all.length → j < (tt e).sz → cur[i * (tt e).sz + j]? = some (f i j))
      (hr : ∀ i j, i < g.all.length → j < (tt e).sz → GRel tt w F ((tt e).ck j) (cellG (tt e).agg (nth g.all i) j) (f i j)) :
      Own tt w F (.slice e) g (.slice (some ⟨b, 0, none⟩) g.asList.length cap) (fun x => x = b)
  | deep {e : TypeId} {g : GV} (b cap : Nat) (cur : Array Value) (f : Nat → Nat → Value) (S : Nat → Nat → Nat → Prop) (hz : g.asZ = true → g.all ≠ []) (ho : g.asOwn = 2)
      (hb : w.heap[b]? = some (.cells cur e (0, 0)))
      (hc : g.all.length ≤ cap) (hm : cap ≤ maxLen) (hs : cur.size = cap * (tt e).sz)
      (hw : ∀ i j, i < g.all.length → j < (tt e).sz → cur[i * (tt e).sz + j]? = some (f i j))
      (hr : ∀ i j, i < g.all.length → j < (tt e).sz → Own tt w F ((tt e).ck j) (cellG (tt e).agg (nth g.all i) j) (f i j) (S i j))
      (hnb : ∀ i j, i < g.all.length → j < (tt e).sz → ¬ S i j b)
      (hd : ∀ i j i' j' x, i < g.all.length → j < (tt e).sz → i' < g.all.length → j' < (tt e).sz → S i j x → S i' j' x → i = i' ∧ j = j') :
      Own tt w F (.slice e) g (.slice (some ⟨b, 0, none⟩) g.asList.length cap)
        (fun x => x = b ∨ ∃ i j, i < g.all.length ∧ j < (tt e).sz ∧ S i j x)

theorem Own.mono {tt : TT} {w w' : World} {F F' : Nat → Prop} {k : CK} {g : GV} {v : Value} {S : Nat → Prop} (h : Own tt w F k g v S)
    (hF : ∀ b, F b → F' b) (hw : ∀ b, F b → w'.heap[b]? = w.heap[b]?) (hS : ∀ b, S b → w'.heap[b]? = w.heap[b]?) : Own tt w' F' k g v S := by
  induction h with
  | plain h hk => exact .plain (h.mono hF hw) hk
  | nil h => exact .nil h
  | shallow b cap cur f hz ho hb hc hm hs hcur hr =>
    exact .shallow b cap cur f hz ho ((hS b rfl).trans hb) hc hm hs hcur (fun i j hi hj => (hr i j hi hj).mono hF hw)
  | deep b cap cur f S hz ho hb hc hm hs hcur _ hnb hd ih =>
    exact .deep b cap cur f S hz ho ((hS b (.inl rfl)).trans hb) hc hm hs hcur
      (fun i j hi hj => ih i j hi hj (fun x hx => hS x (.inr ⟨i, j, hi, hj, hx⟩))) hnb hd

/-- What is owned reads, too: its blocks join F. -/
theorem Own.toG {tt : TT} {w : World} {F F' : Nat → Prop} {k : CK} {g : GV} {v : Value} {S : Nat → Prop} (h : Own tt w F k g v S)
    (hF : ∀ b, F b → F' b) (hS : ∀ b, S b → F' b) : GRel tt w F' k g v := by
  induction h with
  | plain h _ => exact h.mono hF (fun _ _ => rfl)
  | nil h => exact .nil h
  | shallow b cap cur f hz ho hb hc hm hs hcur hr =>
    refine .slice ⟨b, 0, none⟩ cap f hz (fun _ => rfl) (fun _ => hS b rfl) hc hm (fun i j hi hj => ?_) (fun i j hi hj => (hr i j hi hj).mono hF (fun _ _ => rfl))
    rw [cell_of_row w b _ cur _ (0, 0) hb, Nat.zero_add]; exact hcur i j hi hj
  | deep b cap cur f S hz ho hb hc hm hs hcur _ hnb hd ih =>
    refine .slice ⟨b, 0, none⟩ cap f hz (fun _ => rfl) (fun _ => hS b (.inl rfl)) hc hm (fun i j hi hj => ?_)
      (fun i j hi hj => ih i j hi hj (fun x hx => hS x (.inr ⟨i, j, hi, hj, hx⟩)))
    rw [cell_of_row w b _ cur _ (0, 0) hb, Nat.zero_add]; exact hcur i j hi hj

theorem Own.oneCell {tt : TT} {w : World} {F : Nat → Prop} {k : CK} {g : GV} {v : Value} {S : Nat → Prop} (h : Own tt w F k g v S) : v.oneCell' = true := by
  cases h with
  | plain h _ => exact h.oneCell
  | _ => rfl

theorem Own.lt {tt : TT} {w : World} {F : Nat → Prop} {k : CK} {g : GV} {v : Value} {S : Nat → Prop} (h : Own tt w F k g v S) : ∀ b, S b → b < w.heap.size := by
  induction h with
  | plain _ _ => exact fun _ h => h.elim
  | nil _ => exact fun _ h => h.elim
  | shallow b cap cur f hz ho hb => exact fun x hx => by subst hx; exact (Array.getElem?_eq_some_iff.1 hb).1
  | deep b cap cur f S hz ho hb hc hm hs hcur _ hnb hd ih =>
    rintro x (rfl | ⟨i, j, hi, hj, hx⟩)
    · exact (Array.getElem?_eq_some_iff.1 hb).1
    · exact ih i j hi hj x hx

end Go.Eng

/- Rows of our own: places within them, and a change at one place. Of no program. -/
namespace Go.Eng
set_option linter.unusedVariables false
set_option linter.unusedSimpArgs false

abbrev Path := List (Nat × Nat)

def padSet : List GV → Nat → GV → List GV
  | [], 0, x => [x]
  | [], j + 1, x => .moved :: padSet [] j x
  | _ :: t, 0, x => x :: t
  | a :: t, j + 1, x => a :: padSet t j x

theorem getD_padSet (l : List GV) (j : Nat) (x : GV) (j' : Nat) : (padSet l j x).getD j' .moved = if j' = j then x else l.getD j' .moved := by
  induction l generalizing j j' with
  | nil =>
    induction j generalizing j' with
    | zero => cases j' <;> simp [padSet]
    | succ j ih =>
      cases j' with
      | zero => simp [padSet]
      | succ j' => have := ih j'; simp only [padSet, List.getD_cons_succ]; rw [this]; simp
  | cons a t ih =>
    cases j with
    | zero => cases j' <;> simp [padSet]
    | succ j => cases j' with
      | zero => simp [padSet]
      | succ j' => simp only [padSet, List.getD_cons_succ]; rw [ih]; simp

def setCell (agg : Bool) (g : GV) (j : Nat) (x : GV) : GV := bif agg then .agg (padSet g.asAgg j x) else x
theorem cellG_setCell (agg : Bool) (g : GV) (j : Nat) (x : GV) (j' : Nat) (h : agg = true ∨ (j = 0 ∧ j' = 0)) :
    cellG agg (setCell agg g j x) j' = if j' = j then x else cellG agg g j' := by
  cases agg with
  | true => exact getD_padSet _ _ _ _
  | false => rcases h with h | ⟨rfl, rfl⟩ <;> simp_all [cellG, setCell]

/-- The same list with other elements, as many. -/
def setAllL (g : GV) (L : List GV) : List GV := match g.asSp with | [] => L | _ => L.take g.asList.length
def setAllS (g : GV) (L : List GV) : List GV := match g.asSp with | [] => [] | _ => L.drop g.asList.length
def setAll (g : GV) (L : List GV) : GV := .list g.asOwn g.asZ (setAllL g L) (setAllS g L)
theorem setAll_all (g : GV) (L : List GV) : (setAll g L).all = L := by
  show setAllL g L ++ setAllS g L = L
  unfold setAllL setAllS
  cases g.asSp with
  | nil => simp
  | cons x t => exact List.take_append_drop ..
theorem setAll_own (g : GV) (L : List GV) : (setAll g L).asOwn = g.asOwn := rfl
theorem setAll_z (g : GV) (L : List GV) : (setAll g L).asZ = g.asZ := rfl
theorem setAll_len (g : GV) (L : List GV) (h : L.length = g.all.length) : (setAll g L).asList.length = g.asList.length := by
  show (setAllL g L).length = g.asList.length
  unfold setAllL
  unfold GV.all at h
  cases hs : g.asSp with
  | nil => rw [hs] at h; simpa using h
  | cons x t => rw [hs] at h; simp only [List.length_take, h, List.length_append]; omega

section
variable (tt : TT)
def getP : TypeId → List GV → Path → GV
  | _, _, [] => .moved
  | e, l, [(i, j)] => cellG (tt e).agg (nth l i) j
  | e, l, (i, j) :: q :: r =>
    match (tt e).ck j with
    | .slice e' => getP e' (cellG (tt e).agg (nth l i) j).all (q :: r)
    | _ => .moved
def setP : TypeId → List GV → Path → GV → List GV
  | _, l, [], _ => l
  | e, l, [(i, j)], x => l.set i (setCell (tt e).agg (nth l i) j x)
  | e, l, (i, j) :: q :: r, x =>
    match (tt e).ck j with
    | .slice e' => let c := cellG (tt e).agg (nth l i) j
      l.set i (setCell (tt e).agg (nth l i) j (setAll c (setP e' c.all (q :: r) x)))
    | _ => l
/-- The kind of the cell at a place. -/
def kP : TypeId → Path → CK
  | _, [] => .other
  | e, [(_, j)] => (tt e).ck j
  | e, (_, j) :: q :: r =>
    match (tt e).ck j with
    | .slice e' => kP e' (q :: r)
    | _ => .other
/-- The mark of the row in which the place lies. -/
def oP : Nat → TypeId → List GV → Path → Nat
  | o, _, _, [] => o
  | o, _, _, [_] => o
  | _, e, l, (i, j) :: q :: r =>
    match (tt e).ck j with
    | .slice e' => let c := cellG (tt e).agg (nth l i) j; oP c.asOwn e' c.all (q :: r)
    | _ => 0
/-- Is it a place of ours? -/
def okP : Nat → TypeId → List GV → Path → Prop
  | _, _, _, [] => False
  | o, e, l, [(i, j)] => (o = 1 ∨ o = 2) ∧ i < l.length ∧ j < (tt e).sz
  | o, e, l, (i, j) :: q :: r => o = 2 ∧ i < l.length ∧ j < (tt e).sz ∧
    match (tt e).ck j with
    | .slice e' => let c := cellG (tt e).agg (nth l i) j; okP c.asOwn e' c.all (q :: r)
    | _ => False
end

/-- Where in memory a place lies. -/
def placeOf (tt : TT) (w : World) : Nat → TypeId → Path → Option (Nat × Nat)
  | _, _, [] => none
  | b, e, [(i, j)] => some (b, i * (tt e).sz + j)
  | b, e, (i, j) :: q :: r =>
    match (tt e).ck j, w.cell? ⟨b, i * (tt e).sz + j, none⟩ with
    | .slice e', some (.slice (some a) _ _) => placeOf tt w a.block e' (q :: r)
    | _, _ => none

theorem length_setP (tt : TT) (p : Path) : ∀ e l x, (setP tt e l p x).length = l.length := by
  intro e l x
  match p with
  | [] => simp [setP]
  | [(i, j)] => simp [setP]
  | (i, j) :: q :: r => simp only [setP]; split <;> simp

/-- A cell of a row of ours. -/
def CellOwn (tt : TT) (w : World) (F : Nat → Prop) (o : Nat) (k : CK) (g : GV) (v : Value) (S : Nat → Prop) : Prop :=
  (o = 2 ∧ Own tt w F k g v S) ∨ (o = 1 ∧ GRel tt w F k g v ∧ S = fun _ => False)

theorem CellOwn.mono {tt : TT} {w w' : World} {F F' : Nat → Prop} {o : Nat} {k : CK} {g : GV} {v : Value} {S : Nat → Prop} (h : CellOwn tt w F o k g v S)
    (hF : ∀ b, F b → F' b) (hw : ∀ b, F b → w'.heap[b]? = w.heap[b]?) (hS : ∀ b, S b → w'.heap[b]? = w.heap[b]?) : CellOwn tt w' F' o k g v S := by
  rcases h with ⟨ho, h⟩ | ⟨ho, h, rfl⟩
  · exact .inl ⟨ho, h.mono hF hw hS⟩
  · exact .inr ⟨ho, h.mono hF hw, rfl⟩

theorem CellOwn.oneCell {tt : TT} {w : World} {F : Nat → Prop} {o : Nat} {k : CK} {g : GV} {v : Value} {S : Nat → Prop} (h : CellOwn tt w F o k g v S) : v.oneCell' = true := by
  rcases h with ⟨_, h⟩ | ⟨_, h, _⟩
  · exact h.oneCell
  · exact h.oneCell

/-- A row of ours, in block b, with its footprint. -/
structure RowOwn (tt : TT) (w : World) (F : Nat → Prop) (o b cap : Nat) (e : TypeId) (l : List GV) (S : Nat → Prop) : Prop where
  intro ::
  ex : ∃ (cur : Array Value) (f : Nat → Nat → Value) (Sf : Nat → Nat → Nat → Prop),
    w.heap[b]? = some (.cells cur e (0, 0)) ∧ l.length ≤ cap ∧ cap ≤ maxLen ∧ cur.size = cap * (tt e).sz ∧
    (∀ i j, i < l.length → j < (tt e).sz → cur[i * (tt e).sz + j]? = some (f i j)) ∧
    (∀ i j, i < l.length → j < (tt e).sz → CellOwn tt w F o ((tt e).ck j) (cellG (tt e).agg (nth l i) j) (f i j) (Sf i j)) ∧
    (∀ i j, i < l.length → j < (tt e).sz → ¬ Sf i j b) ∧
    (∀ i j i' j' x, i < l.length → j < (tt e).sz → i' < l.length → j' < (tt e).sz → Sf i j x → Sf i' j' x → i = i' ∧ j = j') ∧
    (S = fun x => x = b ∨ ∃ i j, i < l.length ∧ j < (tt e).sz ∧ Sf i j x)

theorem Own.row {tt : TT} {w : World} {F : Nat → Prop} {e : TypeId} {g : GV} {v : Value} {S : Nat → Prop} (h : Own tt w F (.slice e) g v S) (ho : g.asOwn = 1 ∨ g.asOwn = 2) :
    (v = .slice none 0 0 ∧ g.all = [] ∧ S = fun _ => False) ∨
    ∃ b cap, v = .slice (some ⟨b, 0, none⟩) g.asList.length cap ∧ RowOwn tt w F g.asOwn b cap e g.all S ∧ (g.asZ = true → g.all ≠ []) := by
  cases h with
  | plain h hk => exact absurd (hk ⟨_, rfl⟩) (by omega)
  | nil h => exact .inl ⟨rfl, h, rfl⟩
  | shallow b cap cur f hz ho hb hc hm hs hcur hr =>
    refine .inr ⟨b, cap, rfl, ⟨⟨cur, f, fun _ _ _ => False, hb, hc, hm, hs, hcur, fun i j hi hj => .inr ⟨ho, hr i j hi hj, rfl⟩, fun _ _ _ _ h => h, fun _ _ _ _ _ _ _ _ _ h => h.elim, ?_⟩⟩, hz⟩
    funext x; apply propext; simp
  | deep b cap cur f Sf hz ho hb hc hm hs hcur hr hnb hd =>
    exact .inr ⟨b, cap, rfl, ⟨⟨cur, f, Sf, hb, hc, hm, hs, hcur, fun i j hi hj => .inl ⟨ho, hr i j hi hj⟩, hnb, hd, rfl⟩⟩, hz⟩

theorem RowOwn.own {tt : TT} {w : World} {F : Nat → Prop} {e : TypeId} {g : GV} {b cap : Nat} {S : Nat → Prop} (ho : g.asOwn = 1 ∨ g.asOwn = 2) (hz : g.asZ = true → g.all ≠ [])
    (h : RowOwn tt w F g.asOwn b cap e g.all S) : Own tt w F (.slice e) g (.slice (some ⟨b, 0, none⟩) g.asList.length cap) S := by
  obtain ⟨cur, f, Sf, hb, hc, hm, hs, hcur, hr, hnb, hd, hS⟩ := h.ex
  rcases ho with ho | ho
  · have h1 : ∀ i j, i < g.all.length → j < (tt e).sz → GRel tt w F ((tt e).ck j) (cellG (tt e).agg (nth g.all i) j) (f i j) ∧ Sf i j = fun _ => False := by
      intro i j hi hj
      rcases hr i j hi hj with ⟨h, _⟩ | ⟨_, h, h'⟩
      · omega
      · exact ⟨h, h'⟩
    have : S = fun x => x = b := by
      subst hS; funext x; apply propext
      constructor
      · rintro (h | ⟨i, j, hi, hj, h⟩)
        · exact h
        · rw [(h1 i j hi hj).2] at h; exact h.elim
      · exact .inl
    rw [this]
    exact .shallow b cap cur f hz ho hb hc hm hs hcur (fun i j hi hj => (h1 i j hi hj).1)
  · rw [hS]
    refine .deep b cap cur f Sf hz ho hb hc hm hs hcur (fun i j hi hj => ?_) hnb hd
    rcases hr i j hi hj with ⟨_, h⟩ | ⟨h, _, _⟩
    · exact h
    · omega

theorem nth_set (l : List GV) (i : Nat) (x : GV) (i' : Nat) (hi : i < l.length) : nth (l.set i x) i' = if i' = i then x else nth l i' := by
  unfold nth
  simp only [List.getD_eq_getElem?_getD]
  by_cases h : i' = i
  · subst h; simp [hi]
  · simp [h, Ne.symm h]

theorem mul_add_inj {n i j i' j' : Nat} (hj : j < n) (hj' : j' < n) (h : i * n + j = i' * n + j') : i = i' ∧ j = j' := by
  have h1 : (i * n + j) / n = i := by rw [Nat.mul_comm, Nat.mul_add_div (by omega), Nat.div_eq_of_lt hj, Nat.add_zero]
  have h2 : (i' * n + j') / n = i' := by rw [Nat.mul_comm, Nat.mul_add_div (by omega), Nat.div_eq_of_lt hj', Nat.add_zero]
  have hii : i = i' := by rw [← h1, ← h2, h]
  subst hii
  exact ⟨rfl, by omega⟩

/-- One cell of a row turned. -/
theorem row_upd {tt : TT} {w w' : World} {F F' : Nat → Prop} {o b cap : Nat} {e : TypeId} {l : List GV} {cur' : Array Value} {f : Nat → Nat → Value} {Sf : Nat → Nat → Nat → Prop}
    (hagg : (tt e).agg = true ∨ (tt e).sz ≤ 1) (i j : Nat) (hi : i < l.length) (hj : j < (tt e).sz) (g' : GV) (v' : Value) (S' : Nat → Prop)
    (hb : w'.heap[b]? = some (.cells cur' e (0, 0))) (hc : l.length ≤ cap) (hm : cap ≤ maxLen) (hs : cur'.size = cap * (tt e).sz)
    (hcur : ∀ i' j', i' < l.length → j' < (tt e).sz → cur'[i' * (tt e).sz + j']? = some (if i' = i ∧ j' = j then v' else f i' j'))
    (hr : ∀ i j, i < l.length → j < (tt e).sz → CellOwn tt w F o ((tt e).ck j) (cellG (tt e).agg (nth l i) j) (f i j) (Sf i j))
    (hnb : ∀ i j, i < l.length → j < (tt e).sz → ¬ Sf i j b)
    (hd : ∀ i j i' j' x, i < l.length → j < (tt e).sz → i' < l.length → j' < (tt e).sz → Sf i j x → Sf i' j' x → i = i' ∧ j = j')
    (hF : ∀ x, F x → F' x) (hw : ∀ x, F x → w'.heap[x]? = w.heap[x]?)
    (hSw : ∀ i' j' x, i' < l.length → j' < (tt e).sz → ¬ (i' = i ∧ j' = j) → Sf i' j' x → w'.heap[x]? = w.heap[x]?)
    (hown : CellOwn tt w' F' o ((tt e).ck j) g' v' S')
    (hS' : ∀ x, S' x → (x = b ∨ ∃ i j, i < l.length ∧ j < (tt e).sz ∧ Sf i j x) → Sf i j x) (T : Nat → Prop)
    (hT : T = fun x => ((x = b ∨ ∃ i j, i < l.length ∧ j < (tt e).sz ∧ Sf i j x) ∧ ¬ Sf i j x) ∨ S' x) :
    RowOwn tt w' F' o b cap e (l.set i (setCell (tt e).agg (nth l i) j g')) T := by
  refine ⟨⟨cur', fun i' j' => if i' = i ∧ j' = j then v' else f i' j', fun i' j' => if i' = i ∧ j' = j then S' else Sf i' j',
    hb, by simpa using hc, hm, hs, ?_, ?_, ?_, ?_, ?_⟩⟩
  · intro i' j' hi' hj'
    rw [List.length_set] at hi'
    exact hcur i' j' hi' hj'
  · intro i' j' hi' hj'
    rw [List.length_set] at hi'
    rw [nth_set _ _ _ _ hi]
    show CellOwn tt w' F' o ((tt e).ck j') _ (if i' = i ∧ j' = j then v' else f i' j') (if i' = i ∧ j' = j then S' else Sf i' j')
    by_cases h : i' = i
    · subst h
      rw [if_pos rfl, cellG_setCell _ _ _ _ _ (by rcases hagg with h | h; exact .inl h; exact .inr ⟨by omega, by omega⟩)]
      by_cases h2 : j' = j
      · subst h2; simp only [if_true, and_self]; exact hown
      · simp only [h2, if_false, and_false]
        exact (hr i' j' hi' hj').mono hF hw (fun x hx => hSw i' j' x hi' hj' (fun h3 => h2 h3.2) hx)
    · rw [if_neg h, if_neg (fun (h3 : i' = i ∧ j' = j) => h h3.1), if_neg (fun (h3 : i' = i ∧ j' = j) => h h3.1)]
      exact (hr i' j' hi' hj').mono hF hw (fun x hx => hSw i' j' x hi' hj' (fun h3 => h h3.1) hx)
  · intro i' j' hi' hj'
    rw [List.length_set] at hi'
    show ¬ (if i' = i ∧ j' = j then S' else Sf i' j') b
    split
    · intro h; exact hnb i j hi hj (hS' b h (.inl rfl))
    · exact hnb i' j' hi' hj'
  · intro i1 j1 i2 j2 x hi1 hj1 hi2 hj2 h1 h2
    rw [List.length_set] at hi1 hi2
    split at h1 <;> split at h2
    · rename_i a c; exact ⟨a.1.trans c.1.symm, a.2.trans c.2.symm⟩
    · rename_i a c
      have := hd _ _ _ _ _ hi hj hi2 hj2 (hS' x h1 (.inr ⟨i2, j2, hi2, hj2, h2⟩)) h2
      exact absurd ⟨this.1.symm, this.2.symm⟩ c
    · rename_i a c
      have := hd _ _ _ _ _ hi hj hi1 hj1 (hS' x h2 (.inr ⟨i1, j1, hi1, hj1, h1⟩)) h1
      exact absurd ⟨this.1.symm, this.2.symm⟩ a
    · exact hd _ _ _ _ _ hi1 hj1 hi2 hj2 h1 h2
  · rw [hT]
    funext x; apply propext
    simp only [List.length_set]
    constructor
    · rintro (⟨rfl | ⟨i', j', hi', hj', hx⟩, hn⟩ | hx)
      · exact .inl rfl
      · refine .inr ⟨i', j', hi', hj', ?_⟩
        rw [if_neg]; exact hx
        rintro ⟨rfl, rfl⟩; exact hn hx
      · exact .inr ⟨i, j, hi, hj, by simpa using hx⟩
    · rintro (rfl | ⟨i', j', hi', hj', hx⟩)
      · exact .inl ⟨.inl rfl, hnb i j hi hj⟩
      · split at hx
        · exact .inr hx
        · rename_i hne
          refine .inl ⟨.inr ⟨i', j', hi', hj', hx⟩, fun h3 => hne ?_⟩
          have := hd _ _ _ _ _ hi' hj' hi hj hx h3; exact this

/-- The change at one place of a row. -/
theorem RowOwn.focus (tt : TT) (hagg : ∀ e, (tt e).agg = true ∨ (tt e).sz ≤ 1) (w : World) (F : Nat → Prop) : ∀ (p : Path) (o b cap : Nat) (e : TypeId) (l : List GV) (S : Nat → Prop),
    RowOwn tt w F o b cap e l S → okP tt o e l p →
    ∃ b1 n1 v1 S1, w.cell? ⟨b1, n1, none⟩ = some v1 ∧ w.frozen? ⟨b1, n1, none⟩ = false ∧
      CellOwn tt w F (oP tt o e l p) (kP tt e p) (getP tt e l p) v1 S1 ∧ (∀ x, S1 x → S x) ∧ S b1 ∧ ¬ S1 b1 ∧
      (placeOf tt w b e p = some (b1, n1)) ∧ (∀ w', (∀ x, S x → ¬ S1 x → w'.heap[x]? = w.heap[x]?) → placeOf tt w' b e p = some (b1, n1)) ∧
      ∀ (w' : World) (F' : Nat → Prop) (g' : GV) (v' : Value) (S' : Nat → Prop), (∀ x, F x → F' x) → (∀ x, F x → w'.heap[x]? = w.heap[x]?) →
        (∀ x, S x → ¬ S1 x → x ≠ b1 → w'.heap[x]? = w.heap[x]?) → w'.heap[b1]? = (w.setCell ⟨b1, n1, none⟩ v').heap[b1]? →
        CellOwn tt w' F' (oP tt o e l p) (kP tt e p) g' v' S' → (∀ x, S' x → S x → S1 x) →
        RowOwn tt w' F' o b cap e (setP tt e l p g') (fun x => (S x ∧ ¬ S1 x) ∨ S' x) := by
  intro p
  match p with
  | [] => intro o b cap e l S _ h; exact h.elim
  | [(i, j)] =>
    intro o b cap e l S h hok
    obtain ⟨cur, f, Sf, hb, hc, hm, hs, hcur, hr, hnb, hd, rfl⟩ := h.ex
    obtain ⟨ho, hi, hj⟩ := hok
    have hin : i * (tt e).sz + j < cur.size := (Array.getElem?_eq_some_iff.1 (hcur i j hi hj)).1
    refine ⟨b, i * (tt e).sz + j, f i j, Sf i j, ?_, ?_, ?_, ?_,   .inl rfl, hnb i j hi hj, ?_, ?_, ?_⟩
    · rw [cell_of_row w b _ cur e (0, 0) hb]; exact hcur i j hi hj
    · simp [World.frozen?, hb]
    · simp only [oP, kP, getP]; exact hr i j hi hj
    · exact fun x hx => .inr ⟨i, j, hi, hj, hx⟩
    · rfl
    · intro _ _; rfl
    · intro w' F' g' v' S' hF hw hS hb1 hown hS'
      simp only [oP, kP] at hown
      simp only [setP]
      have hb' : w'.heap[b]? = some (.cells (cur.setIfInBounds (i * (tt e).sz + j) v') e (0, 0)) := by
        rw [hb1]; simp only [World.setCell, Array.getElem?_modify, if_true, hb, Option.map_some]; simp
      refine row_upd (hagg e) i j hi hj g' v' S' hb' hc hm (by simpa using hs) ?_ hr hnb hd hF hw ?_ hown hS' _ rfl
      · intro i' j' hi' hj'
        by_cases h : i' = i ∧ j' = j
        · obtain ⟨rfl, rfl⟩ := h
          simp [hin]
        · rw [if_neg h, Array.getElem?_setIfInBounds_ne]
          · exact hcur i' j' hi' hj'
          · intro heq; exact h ((mul_add_inj hj hj' heq).imp Eq.symm Eq.symm)
      · intro i' j' x hi' hj' hne hx
        exact hS x (.inr ⟨i', j', hi', hj', hx⟩) (fun h3 => hne (hd _ _ _ _ _ hi' hj' hi hj hx h3)) (fun h3 => hnb i' j' hi' hj' (h3 ▸ hx))
  | (i, j) :: q :: r =>
    intro o b cap e l S h hok
    obtain ⟨cur, f, Sf, hb, hc, hm, hs, hcur, hr, hnb, hd, rfl⟩ := h.ex
    obtain ⟨rfl, hi, hj, hok⟩ := hok
    cases hk : (tt e).ck j with
    | slice e' =>
      rw [hk] at hok
      dsimp only at hok
      have hc0 := hr i j hi hj
      rw [hk] at hc0
      generalize hcg : cellG (tt e).agg (nth l i) j = c at hok hc0
      rcases hc0 with ⟨_, hc0⟩ | ⟨h, _⟩
      case inr => omega
      have hoc : c.asOwn = 1 ∨ c.asOwn = 2 := by
        cases r with
        | nil => obtain ⟨i2, j2⟩ := q; exact hok.1
        | cons q2 r2 => obtain ⟨i2, j2⟩ := q; exact .inr hok.1
      rcases hc0.row hoc with ⟨_, hnil, _⟩ | ⟨b', cap', hv, hrow, hz⟩
      · exfalso
        cases r with
        | nil => obtain ⟨i2, j2⟩ := q; have := hok.2.1; rw [hnil] at this; simp at this
        | cons q2 r2 => obtain ⟨i2, j2⟩ := q; have := hok.2.1; rw [hnil] at this; simp at this
      obtain ⟨b1, n1, v1, S1, h1, h2, h3, h4, h5, h6, h7, h8, hwand⟩ := RowOwn.focus tt hagg w F (q :: r) c.asOwn b' cap' e' c.all (Sf i j) hrow hok
      have hbb : b ≠ b1 := fun h => hnb i j hi hj (h ▸ h5)
      refine ⟨b1, n1, v1, S1, h1, h2, ?_, fun x hx => .inr ⟨i, j, hi, hj, h4 x hx⟩, .inr ⟨i, j, hi, hj, h5⟩, h6, ?_, ?_, ?_⟩
      · simp only [oP, kP, getP, hk, hcg]; exact h3
      · simp only [placeOf, hk, cell_of_row w b _ cur e (0, 0) hb, hcur i j hi hj, hv]; exact h7
      · intro w2 hw2
        have hb2 : w2.heap[b]? = some (.cells cur e (0, 0)) := (hw2 b (.inl rfl) (fun h => hnb i j hi hj (h4 b h))).trans hb
        simp only [placeOf, hk, cell_of_row w2 b _ cur e (0, 0) hb2, hcur i j hi hj, hv]
        exact h8 w2 (fun x hx hn => hw2 x (.inr ⟨i, j, hi, hj, hx⟩) hn)
      · intro w' F' g' v' S' hF hw hS hb1 hown hS'
        simp only [oP, kP, hk, hcg] at hown
        simp only [setP, hk, hcg]
        have hin := hwand w' F' g' v' S' hF hw (fun x hx hn hne => hS x (.inr ⟨i, j, hi, hj, hx⟩) hn hne) hb1 hown (fun x hx hSx => hS' x hx (.inr ⟨i, j, hi, hj, hSx⟩))
        have hlen : (setP tt e' c.all (q :: r) g').length = c.all.length := length_setP tt _ _ _ _
        have hown' : Own tt w' F' (.slice e') (setAll c (setP tt e' c.all (q :: r) g')) (f i j) (fun x => (Sf i j x ∧ ¬ S1 x) ∨ S' x) := by
          rw [hv, ← setAll_len c _ hlen]
          refine RowOwn.own (by rw [setAll_own]; exact hoc) (by rw [setAll_z, setAll_all]; intro h0 h1; rw [h1] at hlen; exact hz h0 (List.eq_nil_of_length_eq_zero hlen.symm)) ?_
          rw [setAll_own, setAll_all]; exact hin
        refine row_upd (hagg e) i j hi hj _ (f i j) (fun x => (Sf i j x ∧ ¬ S1 x) ∨ S' x) (cur' := cur) (f := f) ?_ hc hm hs ?_ hr hnb hd hF hw ?_ (.inl ⟨rfl, by rw [hk]; exact hown'⟩) ?_ _ ?_
        · rw [hS b (.inl rfl) (fun h => hnb i j hi hj (h4 b h)) hbb]; exact hb
        · intro i' j' hi' hj'
          rw [hcur i' j' hi' hj']
          split
          · rename_i h; obtain ⟨rfl, rfl⟩ := h; rfl
          · rfl
        · intro i' j' x hi' hj' hne hx
          refine hS x (.inr ⟨i', j', hi', hj', hx⟩) (fun h => hne (hd _ _ _ _ _ hi' hj' hi hj hx (h4 x h))) (fun h => hne (hd _ _ _ _ _ hi' hj' hi hj hx (h ▸ h5)))
        · rintro x (⟨hx, _⟩ | hx) hSx
          · exact hx
          · exact h4 x (hS' x hx hSx)
        · funext x; apply propext
          constructor
          · rintro (⟨hx, hn⟩ | hx)
            · by_cases hij : Sf i j x
              · exact .inr (.inl ⟨hij, hn⟩)
              · exact .inl ⟨hx, hij⟩
            · exact .inr (.inr hx)
          · rintro (⟨hx, hn⟩ | ⟨hx, hn⟩ | hx)
            · exact .inl ⟨hx, fun h => hn (h4 x h)⟩
            · exact .inl ⟨.inr ⟨i, j, hi, hj, hx⟩, hn⟩
            · exact .inr hx
    | _ => rw [hk] at hok; exact hok.elim

#print axioms RowOwn.focus
end Go.Eng

/- What is known of a function's variables and of its own memory, and how that stands to the machine's. Of no program. -/
namespace Go.Eng
set_option linter.unusedVariables false
set_option linter.unusedSimpArgs false
open Go.RowKit

/-- A cell of a variable that was handed a copy of what stands elsewhere: a value, or what stands at a place of a root. -/
inductive CV where
  | g (k : CK) (v : GV)
  | ref (e : TypeId) (p : Path)
  deriving Inhabited
inductive SV where
  | dead
  | s (k : CK) (v : GV)
  | ref (e : TypeId) (r : Nat) (p : Path)
  | ptr (r : Nat) (p : Path)
  | eptr (e : TypeId) (v : GV) (off : Nat)
  | aptr (r : Nat) (cs : List CV) (off : Nat)
  | nilS
  deriving Inhabited
def CV.sv (r : Nat) : CV → SV
  | .g k v => .s k v
  | .ref e p => .ref e r p
/-- The root that it leads to. -/
def SV.root : SV → Option Nat
  | .ref _ r _ => some r
  | .ptr r _ => some r
  | .aptr r _ _ => some r
  | _ => none
inductive AV where
  | one (x : SV)
  | a (t : TypeId) (v : GV)
  | agg (l : List SV)
inductive PV where
  | v (x : AV)
  | tup (l : List AV)
  | cnd (d : Nat) (w : Bool) (x : AV)
def PV.dead : PV := .v (.one .dead)
instance : Inhabited AV := ⟨.one .dead⟩
instance : Inhabited PV := ⟨PV.dead⟩

inductive Root where
  | row (o : Nat) (e : TypeId) (l : List GV)
  | val (e : TypeId) (g : GV)
  | hole (o : Nat) (e : TypeId) (l : List GV) (p : Path)

abbrev Roots := List (Nat × Root)
def getR : Roots → Nat → Option Root
  | [], _ => none
  | (k, x) :: t, r => bif Nat.beq k r then some x else getR t r
def delR : Roots → Nat → Roots
  | [], _ => []
  | (k, x) :: t, r => bif Nat.beq k r then delR t r else (k, x) :: delR t r
def setR (l : Roots) (r : Nat) (x : Root) : Roots := (r, x) :: delR l r

theorem beq_ff {a b : Nat} (h : a ≠ b) : Nat.beq a b = false := by
  cases h' : Nat.beq a b
  · rfl
  · exact absurd (Nat.eq_of_beq_eq_true h') h
theorem beq_tt (a : Nat) : Nat.beq a a = true := Nat.beq_refl a

theorem getR_delR (l : Roots) (r r' : Nat) : getR (delR l r) r' = if r' = r then none else getR l r' := by
  induction l with
  | nil => simp [delR, getR]
  | cons x t ih =>
    obtain ⟨k, x⟩ := x
    simp only [delR]
    by_cases h : k = r
    · subst h
      simp only [Nat.beq_refl, cond_true, ih, getR]
      split
      · rfl
      · rename_i h; rw [beq_ff (Ne.symm h)]; rfl
    · rw [beq_ff h]
      simp only [cond_false, getR, ih]
      by_cases h2 : k = r'
      · subst h2; simp [h]
      · rw [beq_ff h2]; rfl
theorem getR_setR (l : Roots) (r : Nat) (x : Root) (r' : Nat) : getR (setR l r x) r' = if r' = r then some x else getR l r' := by
  simp only [setR, getR, getR_delR]
  by_cases h : r' = r
  · subst h; simp
  · rw [beq_ff (Ne.symm h)]; simp [h]

/-- What is known of variables: those of which nothing is known have no entry; the first entry counts. -/
abbrev Tmps := List (Nat × PV)
def getT : Tmps → Nat → PV
  | [], _ => PV.dead
  | (k, x) :: t, i => bif Nat.beq k i then x else getT t i
structure St where
  n : Nat
  tmps : Tmps
  roots : Roots

def St.get (st : St) (i : Nat) : PV := bif Nat.blt i st.n then getT st.tmps i else PV.dead
def St.getR (st : St) (r : Nat) : Option Root := Eng.getR st.roots r
/-- The row of a root: its mark, its elements' type, its elements. -/
def Root.lst : Root → Option (Nat × TypeId × List GV)
  | .row o e l => some (o, e, l)
  | .val e g => some (g.asOwn, e, g.all)
  | .hole .. => none

/-- Its mark, its elements' type, how many. -/
def Root.shape : Root → Nat × TypeId × Nat
  | .row o e l => (o, e, l.length)
  | .val e g => (g.asOwn, e, g.all.length)
  | .hole o e l _ => (o, e, l.length)
theorem Root.shape_lst {rt : Root} {o : Nat} {e : TypeId} {l : List GV} (h : rt.lst = some (o, e, l)) : rt.shape = (o, e, l.length) := by
  cases rt <;> simp_all [Root.lst, Root.shape]

/-- What stands for a root in the machine: a block, or a value. -/
inductive RD where
  | row (b cap : Nat)
  | val (v : Value)
def RD.base : RD → Option Nat
  | .row b _ => some b
  | .val (.slice (some a) _ _) => some a.block
  | .val _ => none

def placeR (tt : TT) (w : World) (e : TypeId) (rd : RD) (p : Path) : Option (Nat × Nat) := rd.base.bind fun b => placeOf tt w b e p

/-- A cell as it stands at a place of a root. -/
def RefRel (tt : TT) (w : World) (R : Roots) (ρ : Nat → RD) (e : TypeId) (r : Nat) (p : Path) (v : Value) : Prop :=
  ∃ rt o e0 l b1 n1, getR R r = some rt ∧ rt.lst = some (o, e0, l) ∧ okP tt o e0 l p ∧ kP tt e0 p = .slice e ∧ placeR tt w e0 (ρ r) p = some (b1, n1) ∧ w.cell? ⟨b1, n1, none⟩ = some v
def CRel (tt : TT) (w : World) (F : Nat → Prop) (R : Roots) (ρ : Nat → RD) (r : Nat) (c : CV) (v : Value) : Prop :=
  match c with
  | .g k g => GRel tt w F k g v
  | .ref e p => RefRel tt w R ρ e r p v
def SRel (tt : TT) (w : World) (F : Nat → Prop) (R : Roots) (ρ : Nat → RD) (x : SV) (v : Value) : Prop :=
  match x with
  | .dead => True
  | .s k g => GRel tt w F k g v
  | .nilS => v = .slice none 0 0
  | .ref e r [] => (∃ g, getR R r = some (.val e g)) ∧ ρ r = .val v
  | .ref e r (q :: p) => ∃ rt o e0 l b1 n1, getR R r = some rt ∧ rt.lst = some (o, e0, l) ∧ okP tt o e0 l (q :: p) ∧ kP tt e0 (q :: p) = .slice e ∧ placeR tt w e0 (ρ r) (q :: p) = some (b1, n1) ∧ w.cell? ⟨b1, n1, none⟩ = some v
  | .ptr r [(i, j)] => ∃ rt b, getR R r = some rt ∧ (ρ r).base = some b ∧ (rt.shape.1 = 1 ∨ rt.shape.1 = 2) ∧ i < rt.shape.2.2 ∧ j < (tt rt.shape.2.1).sz ∧ v = .pointer (some ⟨b, i * (tt rt.shape.2.1).sz + j, none⟩)
  | .ptr r p => ∃ rt o e0 l b1 n1, getR R r = some rt ∧ rt.lst = some (o, e0, l) ∧ okP tt o e0 l p ∧ placeR tt w e0 (ρ r) p = some (b1, n1) ∧ v = .pointer (some ⟨b1, n1, none⟩)
  | .eptr e g off => ∃ (a : Addr) (f : Nat → Value), a.spot = none ∧ F a.block ∧ (∀ j, j < (tt e).sz → w.cell? ⟨a.block, a.off + j, none⟩ = some (f j)) ∧
      (∀ j, j < (tt e).sz → GRel tt w F ((tt e).ck j) (cellG (tt e).agg g j) (f j)) ∧ v = .pointer (some ⟨a.block, a.off + off, none⟩)
  | .aptr r cs off => ∃ (a : Addr) (f : Nat → Value) (rt : Root), getR R r = some rt ∧ a.spot = none ∧ F a.block ∧ (∀ j, j < cs.length → w.cell? ⟨a.block, a.off + j, none⟩ = some (f j)) ∧
      (∀ j c, cs[j]? = some c → CRel tt w F R ρ r c (f j)) ∧ v = .pointer (some ⟨a.block, a.off + off, none⟩)

theorem CRel.sv {tt : TT} {w : World} {F : Nat → Prop} {R : Roots} {ρ : Nat → RD} {r : Nat} {c : CV} {v : Value} (h : CRel tt w F R ρ r c v) : SRel tt w F R ρ (c.sv r) v := by
  cases c with
  | g k g => exact h
  | ref e p =>
    cases p with
    | nil => obtain ⟨rt, o, e0, l, b1, n1, h1, h2, h3, _⟩ := h; exact h3.elim
    | cons q p => exact h

def ARel (tt : TT) (w : World) (F : Nat → Prop) (R : Roots) (ρ : Nat → RD) (x : AV) (v : Value) : Prop :=
  match x with
  | .one x => SRel tt w F R ρ x v
  | .a t g => (tt t).agg = true ∧ ∃ cs, v = .agg cs ∧ cs.size = (tt t).sz ∧ ∀ j x, cs[j]? = some x → GRel tt w F ((tt t).ck j) (cellG true g j) x
  | .agg l => ∃ cs, v = .agg cs ∧ cs.size = l.length ∧ ∀ (j : Nat) s x, l[j]? = some s → cs[j]? = some x → SRel tt w F R ρ s x

/-- Of one whose operation hangs on the value of variable d: it is there, if that value is so; else it is none. tm: the variables. -/
def PRel (tt : TT) (w : World) (F : Nat → Prop) (R : Roots) (ρ : Nat → RD) (tm : Array Value) (x : PV) (v : Value) : Prop :=
  match x with
  | .v x => ARel tt w F R ρ x v
  | .tup l => ∃ vs, v = .tuple vs ∧ vs.size = l.length ∧ ∀ (j : Nat) s x, l[j]? = some s → vs[j]? = some x → ARel tt w F R ρ s x
  | .cnd d c x => (tm[d]? = some (.bool c) → ARel tt w F R ρ x v) ∧ (tm[d]? ≠ some (.bool c) → v = undef)

def RootRel (tt : TT) (w : World) (F : Nat → Prop) (rt : Root) (rd : RD) (S : Nat → Prop) : Prop :=
  match rt, rd with
  | .row o e l, .row b cap => RowOwn tt w F o b cap e l S
  | .val e g, .val v => Own tt w F (.slice e) g v S
  | .hole o e l p, .row b cap => ∃ b1 n1 v1, (∀ w', (∀ x, S x → w'.heap[x]? = w.heap[x]?) → placeOf tt w' b e p = some (b1, n1)) ∧ S b1 ∧ w.cell? ⟨b1, n1, none⟩ = some v1 ∧ w.frozen? ⟨b1, n1, none⟩ = false ∧ S b ∧
      okP tt o e l p ∧
      ∀ (w' : World) (F' : Nat → Prop) (g' : GV) (v' : Value) (S' : Nat → Prop), (∀ x, F x → F' x) → (∀ x, F x → w'.heap[x]? = w.heap[x]?) →
        (∀ x, S x → x ≠ b1 → w'.heap[x]? = w.heap[x]?) → w'.heap[b1]? = (w.setCell ⟨b1, n1, none⟩ v').heap[b1]? →
        CellOwn tt w' F' (oP tt o e l p) (kP tt e p) g' v' S' → (∀ x, S' x → ¬ S x) →
        RowOwn tt w' F' o b cap e (setP tt e l p g') (fun x => S x ∨ S' x)
  | _, _ => False

theorem RowOwn.mono {tt : TT} {w w' : World} {F F' : Nat → Prop} {o b cap : Nat} {e : TypeId} {l : List GV} {S : Nat → Prop} (h : RowOwn tt w F o b cap e l S)
    (hF : ∀ b, F b → F' b) (hw : ∀ b, F b → w'.heap[b]? = w.heap[b]?) (hS : ∀ b, S b → w'.heap[b]? = w.heap[b]?) : RowOwn tt w' F' o b cap e l S := by
  obtain ⟨cur, f, Sf, hb, hc, hm, hs, hcur, hr, hnb, hd, rfl⟩ := h.ex
  exact ⟨⟨cur, f, Sf, (hS b (.inl rfl)).trans hb, hc, hm, hs, hcur, fun i j hi hj => (hr i j hi hj).mono hF hw (fun x hx => hS x (.inr ⟨i, j, hi, hj, hx⟩)), hnb, hd, rfl⟩⟩

theorem RowOwn.lt {tt : TT} {w : World} {F : Nat → Prop} {o b cap : Nat} {e : TypeId} {l : List GV} {S : Nat → Prop} (h : RowOwn tt w F o b cap e l S) : ∀ x, S x → x < w.heap.size := by
  obtain ⟨cur, f, Sf, hb, hc, hm, hs, hcur, hr, hnb, hd, rfl⟩ := h.ex
  rintro x (rfl | ⟨i, j, hi, hj, hx⟩)
  · exact (Array.getElem?_eq_some_iff.1 hb).1
  · rcases hr i j hi hj with ⟨_, h⟩ | ⟨_, _, h⟩
    · exact h.lt x hx
    · rw [h] at hx; exact hx.elim

theorem RootRel.mono {tt : TT} {w w' : World} {F F' : Nat → Prop} {rt : Root} {rd : RD} {S : Nat → Prop} (h : RootRel tt w F rt rd S)
    (hF : ∀ b, F b → F' b) (hw : ∀ b, F b → w'.heap[b]? = w.heap[b]?) (hS : ∀ b, S b → w'.heap[b]? = w.heap[b]?) : RootRel tt w' F' rt rd S := by
  cases rt with
  | row o e l =>
    cases rd with
    | row b cap => exact RowOwn.mono h hF hw hS
    | val v => exact h.elim
  | val e g =>
    cases rd with
    | row b cap => exact h.elim
    | val v => exact Own.mono h hF hw hS
  | hole o e l p =>
    cases rd with
    | val v => exact h.elim
    | row b cap =>
      obtain ⟨b1, n1, v1, h1, h2, h3, h4, h5, h6, h7⟩ := h
      refine ⟨b1, n1, v1, ?_, h2, ?_, ?_, h5, h6, ?_⟩
      · exact fun w2 h => h1 w2 (fun x hx => (h x hx).trans (hS x hx))
      · exact (World.cell?_of_block (w := w) (w' := w') (a := ⟨b1, n1, none⟩) (hS b1 h2)).trans h3
      · exact (World.frozen?_of_block (w := w) (w' := w') (a := ⟨b1, n1, none⟩) (hS b1 h2)).trans h4
      · intro w2 F2 g' v' S' hF2 hw2 hS2 hb2 hown hS'
        refine h7 w2 F2 g' v' S' (fun x hx => hF2 x (hF x hx)) (fun x hx => (hw2 x (hF x hx)).trans (hw x hx)) (fun x hx hne => (hS2 x hx hne).trans (hS x hx)) ?_ hown hS'
        rw [hb2]; simp only [World.setCell, Array.getElem?_modify, if_true, hS b1 h2]

end Go.Eng

/- The relation, and how it goes on: memory elsewhere, a variable, a root more, a root less, a root turned. Of no program. -/
namespace Go.Eng
set_option linter.unusedVariables false
set_option linter.unusedSimpArgs false
open Go.RowKit

theorem okP_head {tt : TT} {o : Nat} {e : TypeId} {l : List GV} {p : Path} (h : okP tt o e l p) : (o = 1 ∨ o = 2) ∧ l ≠ [] := by
  match p with
  | [] => exact h.elim
  | [(i, j)] => exact ⟨h.1, fun h' => by have := h.2.1; rw [h'] at this; simp at this⟩
  | (i, j) :: q :: r => exact ⟨.inr h.1, fun h' => by have := h.2.1; rw [h'] at this; simp at this⟩

theorem RootRel.rowOwn {tt : TT} {w : World} {F : Nat → Prop} {rt : Root} {rd : RD} {S : Nat → Prop} {o : Nat} {e : TypeId} {l : List GV} {p : Path}
    (h : RootRel tt w F rt rd S) (hl : rt.lst = some (o, e, l)) (hok : okP tt o e l p) : ∃ b cap, rd.base = some b ∧ RowOwn tt w F o b cap e l S := by
  cases rt with
  | row o' e' l' =>
    simp only [Root.lst, Option.some.injEq, Prod.mk.injEq] at hl
    obtain ⟨rfl, rfl, rfl⟩ := hl
    cases rd with
    | row b cap => exact ⟨b, cap, rfl, h⟩
    | val v => exact h.elim
  | val e' g =>
    simp only [Root.lst, Option.some.injEq, Prod.mk.injEq] at hl
    obtain ⟨rfl, rfl, rfl⟩ := hl
    cases rd with
    | row b cap => exact h.elim
    | val v =>
      have ho := okP_head hok
      rcases Own.row h ho.1 with ⟨_, h2, _⟩ | ⟨b, cap, rfl, h2, _⟩
      · exact absurd h2 ho.2
      · exact ⟨b, cap, rfl, h2⟩
  | hole => simp [Root.lst] at hl

abbrev Agg (tt : TT) : Prop := ∀ e, (tt e).agg = true ∨ (tt e).sz ≤ 1

theorem CRel.mono1 {tt : TT} (hagg : Agg tt) {w w' : World} {F F' : Nat → Prop} {R : Roots} {ρ : Nat → RD} {fp : Nat → Nat → Prop}
    (hR : ∀ r rt, getR R r = some rt → RootRel tt w F rt (ρ r) (fp r))
    (hF : ∀ b, F b → F' b) (hw : ∀ b, F b → w'.heap[b]? = w.heap[b]?) {r : Nat} {c : CV} {v : Value}
    (hS : ∀ rt, getR R r = some rt → ∀ b, fp r b → w'.heap[b]? = w.heap[b]?)
    (h : CRel tt w F R ρ r c v) : CRel tt w' F' R ρ r c v := by
  match c with
  | .g k g => exact GRel.mono h hF hw
  | .ref e p =>
    obtain ⟨rt, o, e0, l, b1, n1, h1, h2, h3, h4, h5, h6⟩ := h
    obtain ⟨b, cap, hb, hrow⟩ := (hR r rt h1).rowOwn h2 h3
    obtain ⟨b2, n2, v2, S2, f1, f2, f3, f4, f5, f6, f7, f8, _⟩ := RowOwn.focus tt hagg w F p o b cap e0 l (fp r) hrow h3
    have hpl : placeR tt w e0 (ρ r) p = some (b2, n2) := by simp only [placeR, hb, Option.bind_some, f7]
    obtain ⟨rfl, rfl⟩ : b1 = b2 ∧ n1 = n2 := by rw [h5] at hpl; simpa using hpl
    refine ⟨rt, o, e0, l, b1, n1, h1, h2, h3, h4, ?_, ?_⟩
    · simp only [placeR, hb, Option.bind_some]
      exact f8 w' (fun x hx _ => hS rt h1 x hx)
    · exact (World.cell?_of_block (w := w) (w' := w') (a := ⟨b1, n1, none⟩) (hS rt h1 b1 f5)).trans h6
theorem CRel.roots {tt : TT} {w : World} {F : Nat → Prop} {R R' : Roots} {ρ ρ' : Nat → RD} {r : Nat} {c : CV} {v : Value}
    (hg : ∀ rt, getR R r = some rt → getR R' r = some rt ∧ ρ' r = ρ r)
    (h : CRel tt w F R ρ r c v) : CRel tt w F R' ρ' r c v := by
  match c with
  | .g k g => exact h
  | .ref e p =>
    obtain ⟨rt, o, e0, l, b1, n1, h1, h2⟩ := h
    obtain ⟨h3, h4⟩ := hg _ h1
    exact ⟨rt, o, e0, l, b1, n1, h3, by rw [h4]; exact h2⟩

theorem SRel.mono1 {tt : TT} (hagg : Agg tt) {w w' : World} {F F' : Nat → Prop} {R : Roots} {ρ : Nat → RD} {fp : Nat → Nat → Prop}
    (hR : ∀ r rt, getR R r = some rt → RootRel tt w F rt (ρ r) (fp r))
    (hF : ∀ b, F b → F' b) (hw : ∀ b, F b → w'.heap[b]? = w.heap[b]?) {x : SV} {v : Value}
    (hS : ∀ r rt, x.root = some r → getR R r = some rt → ∀ b, fp r b → w'.heap[b]? = w.heap[b]?)
    (h : SRel tt w F R ρ x v) : SRel tt w' F' R ρ x v := by
  match x with
  | .dead => trivial
  | .s k g => exact GRel.mono h hF hw
  | .nilS => exact h
  | .ref e r [] => exact h
  | .ref e r (q :: p) =>
    obtain ⟨rt, o, e0, l, b1, n1, h1, h2, h3, h4, h5, h6⟩ := h
    obtain ⟨b, cap, hb, hrow⟩ := (hR r rt h1).rowOwn h2 h3
    obtain ⟨b2, n2, v2, S2, f1, f2, f3, f4, f5, f6, f7, f8, _⟩ := RowOwn.focus tt hagg w F (q :: p) o b cap e0 l (fp r) hrow h3
    have hpl : placeR tt w e0 (ρ r) (q :: p) = some (b2, n2) := by simp only [placeR, hb, Option.bind_some, f7]
    obtain ⟨rfl, rfl⟩ : b1 = b2 ∧ n1 = n2 := by rw [h5] at hpl; simpa using hpl
    refine ⟨rt, o, e0, l, b1, n1, h1, h2, h3, h4, ?_, ?_⟩
    · simp only [placeR, hb, Option.bind_some]
      exact f8 w' (fun x hx _ => hS r rt rfl h1 x hx)
    · exact (World.cell?_of_block (w := w) (w' := w') (a := ⟨b1, n1, none⟩) (hS r rt rfl h1 b1 f5)).trans h6
  | .ptr r [] => obtain ⟨rt, o, e0, l, b1, n1, h1, h2, h3, h5, h6⟩ := h; exact h3.elim
  | .ptr r [(i, j)] => exact h
  | .ptr r (q :: q' :: p) =>
    obtain ⟨rt, o, e0, l, b1, n1, h1, h2, h3, h5, h6⟩ := h
    obtain ⟨b, cap, hb, hrow⟩ := (hR r rt h1).rowOwn h2 h3
    obtain ⟨b2, n2, v2, S2, f1, f2, f3, f4, f5, f6, f7, f8, _⟩ := RowOwn.focus tt hagg w F (q :: q' :: p) o b cap e0 l (fp r) hrow h3
    have hpl : placeR tt w e0 (ρ r) (q :: q' :: p) = some (b2, n2) := by simp only [placeR, hb, Option.bind_some, f7]
    obtain ⟨rfl, rfl⟩ : b1 = b2 ∧ n1 = n2 := by rw [h5] at hpl; simpa using hpl
    refine ⟨rt, o, e0, l, b1, n1, h1, h2, h3, ?_, h6⟩
    simp only [placeR, hb, Option.bind_some]
    exact f8 w' (fun x hx _ => hS r rt rfl h1 x hx)
  | .eptr e g off =>
    obtain ⟨a, f, h1, h2, h3, h4, h5⟩ := h
    exact ⟨a, f, h1, hF _ h2, fun j hj => (World.cell?_of_block (w := w) (w' := w') (a := ⟨a.block, a.off + j, none⟩) (hw _ h2)).trans (h3 j hj), fun j hj => (h4 j hj).mono hF hw, h5⟩
  | .aptr r cs off =>
    obtain ⟨a, f, rt, h0, h1, h2, h3, h4, h5⟩ := h
    exact ⟨a, f, rt, h0, h1, hF _ h2, fun j hj => (World.cell?_of_block (w := w) (w' := w') (a := ⟨a.block, a.off + j, none⟩) (hw _ h2)).trans (h3 j hj), fun j c hj => (h4 j c hj).mono1 hagg hR hF hw (fun rt hrt => hS r rt rfl hrt), h5⟩

section
variable {tt : TT} (hagg : Agg tt) {w w' : World} {F F' : Nat → Prop} {R : Roots} {ρ : Nat → RD} {fp : Nat → Nat → Prop}
  (hR : ∀ r rt, getR R r = some rt → RootRel tt w F rt (ρ r) (fp r))
  (hF : ∀ b, F b → F' b) (hw : ∀ b, F b → w'.heap[b]? = w.heap[b]?)
  (hS : ∀ r rt, getR R r = some rt → ∀ b, fp r b → w'.heap[b]? = w.heap[b]?)
include hagg hR hF hw hS

theorem SRel.mono {x : SV} {v : Value} (h : SRel tt w F R ρ x v) : SRel tt w' F' R ρ x v := SRel.mono1 hagg hR hF hw (fun r rt _ hr => hS r rt hr) h

theorem ARel.mono {x : AV} {v : Value} (h : ARel tt w F R ρ x v) : ARel tt w' F' R ρ x v := by
  cases x with
  | one x => exact SRel.mono hagg hR hF hw hS h
  | a t g =>
    obtain ⟨h1, cs, h2, h3, h4⟩ := h
    exact ⟨h1, cs, h2, h3, fun j x hx => (h4 j x hx).mono hF hw⟩
  | agg l =>
    obtain ⟨cs, h2, h3, h4⟩ := h
    exact ⟨cs, h2, h3, fun j s x hs hx => SRel.mono hagg hR hF hw hS (h4 j s x hs hx)⟩

theorem PRel.mono {tm : Array Value} {x : PV} {v : Value} (h : PRel tt w F R ρ tm x v) : PRel tt w' F' R ρ tm x v := by
  cases x with
  | v x => exact ARel.mono hagg hR hF hw hS h
  | tup l =>
    obtain ⟨vs, h2, h3, h4⟩ := h
    exact ⟨vs, h2, h3, fun j s x hs hx => ARel.mono hagg hR hF hw hS (h4 j s x hs hx)⟩
  | cnd d c x => exact ⟨fun hb => ARel.mono hagg hR hF hw hS (h.1 hb), h.2⟩
end

/-- Whether a reference stays: by root, and how deep it leads. -/
abbrev Keep := Nat → Nat → Bool
def SV.keep (c : Keep) : SV → SV
  | .ref e r p => bif c r (p.length + 1) then .ref e r p else .dead
  | .ptr r p => bif c r p.length then .ptr r p else .dead
  | .aptr r cs off => bif c r 2 then .aptr r cs off else .dead
  | x => x
def AV.keep (c : Keep) : AV → AV
  | .one x => .one (x.keep c)
  | .a t g => .a t g
  | .agg l => .agg (l.map (SV.keep c))
def PV.keep (c : Keep) : PV → PV
  | .v x => .v (x.keep c)
  | .tup l => .tup (l.map (AV.keep c))
  | .cnd d b x => .cnd d b (x.keep c)

section
variable {tt : TT} {w : World} {F : Nat → Prop} {R R' : Roots} {ρ ρ' : Nat → RD} {c : Keep}
/-- A relation that goes on for what is kept. -/
theorem ARel.kept (hk : ∀ x v, SRel tt w F R ρ x v → SRel tt w F R' ρ' (x.keep c) v) {x : AV} {v : Value} (h : ARel tt w F R ρ x v) : ARel tt w F R' ρ' (x.keep c) v := by
  cases x with
  | one x => exact hk x v h
  | a t g => exact h
  | agg l =>
    obtain ⟨cs, h2, h3, h4⟩ := h
    refine ⟨cs, h2, by simpa using h3, fun j s x hs hx => ?_⟩
    simp only [List.getElem?_map, Option.map_eq_some_iff] at hs
    obtain ⟨s0, hs0, rfl⟩ := hs
    exact hk _ _ (h4 j s0 x hs0 hx)
theorem PRel.kept (hk : ∀ x v, SRel tt w F R ρ x v → SRel tt w F R' ρ' (x.keep c) v) {tm : Array Value} {x : PV} {v : Value} (h : PRel tt w F R ρ tm x v) : PRel tt w F R' ρ' tm (x.keep c) v := by
  cases x with
  | v x => exact ARel.kept hk h
  | tup l =>
    obtain ⟨cs, h2, h3, h4⟩ := h
    refine ⟨cs, h2, by simpa using h3, fun j s x hs hx => ?_⟩
    simp only [List.getElem?_map, Option.map_eq_some_iff] at hs
    obtain ⟨s0, hs0, rfl⟩ := hs
    exact ARel.kept hk (h4 j s0 x hs0 hx)
  | cnd d b x => exact ⟨fun hb => ARel.kept hk (h.1 hb), h.2⟩
end

/-- The world when the call began, and the old blocks that are met. -/
structure Base where
  w : World
  F0 : Nat → Prop
abbrev Base.heap (b : Base) : Array Obj := b.w.heap
/-- How a state stands to the machine's variables and memory. W: the world when the call began. -/
structure Rel (tt : TT) (W : Base) (st : St) (a : Act) (w : World) (ρ : Nat → RD) (fp : Nat → Nat → Prop) (F : Nat → Prop) : Prop where
  below : Below W.heap.size W.w w
  old : ∀ b, F b → b < W.heap.size → W.F0 b
  flt : ∀ b, F b → b < w.heap.size
  root : ∀ r rt, getR st.roots r = some rt → RootRel tt w F rt (ρ r) (fp r)
  fpb : ∀ r rt, getR st.roots r = some rt → ∀ b, fp r b → W.heap.size ≤ b ∧ b < w.heap.size ∧ ¬ F b
  disj : ∀ r rt r' rt', getR st.roots r = some rt → getR st.roots r' = some rt' → ∀ b, fp r b → fp r' b → r = r'
  tmps : ∀ i v, a.tmps[i]? = some v → PRel tt w F st.roots ρ a.tmps (st.get i) v
  defers : a.defers = []
  len : st.n ≤ a.tmps.size

theorem Rel.size {tt : TT} {W : Base} {st : St} {a : Act} {w : World} {ρ : Nat → RD} {fp : Nat → Nat → Prop} {F : Nat → Prop} (h : Rel tt W st a w ρ fp F) : W.heap.size ≤ w.heap.size := h.below.size

/-- Memory elsewhere. -/
theorem Rel.frame {tt : TT} (hagg : Agg tt) {W : Base} {st : St} {a : Act} {w w' : World} {ρ : Nat → RD} {fp : Nat → Nat → Prop} {F F' : Nat → Prop} (h : Rel tt W st a w ρ fp F)
    (hb : Below W.heap.size w w') (hF : ∀ b, F b → F' b) (hup : ∀ b, F' b → b < W.heap.size → F b) (hw : ∀ b, F b → w'.heap[b]? = w.heap[b]?)
    (hS : ∀ r rt, getR st.roots r = some rt → ∀ b, fp r b → w'.heap[b]? = w.heap[b]?)
    (hF' : ∀ b, F' b → b < w'.heap.size) (hn : ∀ r rt, getR st.roots r = some rt → ∀ b, fp r b → ¬ F' b) : Rel tt W st a w' ρ fp F' := by
  refine ⟨h.below.trans hb, fun b hb hlt => h.old b (hup b hb hlt) hlt, hF', fun r rt hr => (h.root r rt hr).mono hF hw (hS r rt hr), fun r rt hr b hb' => ?_, h.disj, fun i v hi => ?_, h.defers, h.len⟩
  · exact ⟨(h.fpb r rt hr b hb').1, Nat.lt_of_lt_of_le (h.fpb r rt hr b hb').2.1 hb.size, hn r rt hr b hb'⟩
  · exact PRel.mono hagg h.root hF hw hS (h.tmps i v hi)

/-- One variable takes a value. -/
def St.put (st : St) (d : Option Nat) (x : PV) : St :=
  match d with
  | some d => ⟨st.n, (d, x) :: st.tmps, st.roots⟩
  | none => st
theorem St.get_put (st : St) (d : Nat) (x : PV) (i : Nat) : (st.put (some d) x).get i = if i = d ∧ d < st.n then x else st.get i := by
  simp only [St.get, St.put, getT]
  by_cases h : d = i
  · subst h
    simp only [Nat.beq_refl, cond_true, true_and]
    by_cases h2 : d < st.n
    · have : Nat.blt d st.n = true := Nat.ble_eq_true_of_le h2
      rw [this, if_pos h2]; rfl
    · have : Nat.blt d st.n = false := by cases h' : Nat.blt d st.n; rfl; exact absurd (Nat.le_of_ble_eq_true h') h2
      rw [this, if_neg h2]; rfl
  · rw [beq_ff h, if_neg (fun h' => h h'.1.symm)]; rfl
def mapT (c : Keep) : Tmps → Tmps
  | [] => []
  | (k, x) :: t => (k, x.keep c) :: mapT c t
theorem PV.keep_dead (c : Keep) : PV.dead.keep c = PV.dead := rfl
theorem getT_mapT (c : Keep) (l : Tmps) (i : Nat) : getT (mapT c l) i = (getT l i).keep c := by
  induction l with
  | nil => rfl
  | cons x t ih =>
    obtain ⟨k, x⟩ := x
    simp only [mapT, getT, ih]
    cases Nat.beq k i <;> rfl

theorem PRel_dead {tt : TT} {w : World} {F : Nat → Prop} {R : Roots} {ρ : Nat → RD} {tm : Array Value} {v : Value} : PRel tt w F R ρ tm PV.dead v := trivial

theorem Rel.put {tt : TT} {W : Base} {st : St} {a : Act} {w : World} {ρ : Nat → RD} {fp : Nat → Nat → Prop} {F : Nat → Prop} (h : Rel tt W st a w ρ fp F)
    {d : Option Nat} {x : PV} {v : Value} (hx : PRel tt w F st.roots ρ (a.put d v).tmps x v) (hc : ∀ i d' c y, d = some d' → st.get i ≠ .cnd d' c y) : Rel tt W (st.put d x) (a.put d v) w ρ fp F := by
  cases d with
  | none => exact h
  | some d =>
    refine ⟨h.below, h.old, h.flt, h.root, h.fpb, h.disj, fun i u hi => ?_, h.defers, by simpa [St.put, Act.put] using h.len⟩
    simp only [Act.put, Array.getElem?_setIfInBounds] at hi
    show PRel tt w F st.roots ρ (a.put (some d) v).tmps ((st.put (some d) x).get i) u
    rw [St.get_put]
    by_cases hid : d = i
    · subst hid
      rw [if_pos rfl] at hi
      split at hi
      · simp only [Option.some.injEq] at hi
        subst hi
        by_cases hlt : d < st.n
        · rw [if_pos ⟨rfl, hlt⟩]; exact hx
        · rw [if_neg (fun h => hlt h.2)]
          have : st.get d = PV.dead := by
            unfold St.get
            have : Nat.blt d st.n = false := by cases h' : Nat.blt d st.n; rfl; exact absurd (Nat.le_of_ble_eq_true h') hlt
            rw [this]; rfl
          rw [this]; exact trivial
      · cases hi
    · rw [if_neg hid] at hi
      rw [if_neg (fun h => hid h.1.symm)]
      have h0 := h.tmps i u hi
      have h1 : ∀ c y, st.get i ≠ .cnd d c y := fun c y => hc i d c y rfl
      show PRel tt w F st.roots ρ _ (st.get i) u
      revert h0 h1
      cases st.get i with
      | v y => exact fun h0 _ => h0
      | tup l => exact fun h0 _ => h0
      | cnd d' c y =>
        intro h0 h1
        have hne : d ≠ d' := fun h => h1 c y (by rw [h])
        have : (a.put (some d) v).tmps[d']? = a.tmps[d']? := by simp [Act.put, hne]
        exact ⟨fun hb => h0.1 (this ▸ hb), fun hb => h0.2 (this ▸ hb)⟩

/-- A root turned, made or let go: what is told of variables goes on by 'hk'. -/
theorem Rel.turn {tt : TT} {W : Base} {st : St} {a : Act} {w w' : World} {ρ ρ' : Nat → RD} {fp fp' : Nat → Nat → Prop} {F F' : Nat → Prop} {R' : Roots} {c : Keep}
    (h : Rel tt W st a w ρ fp F) (hb : Below W.heap.size w w') (hF : ∀ b, F b → F' b) (hup : ∀ b, F' b → b < W.heap.size → F b)
    (hF' : ∀ b, F' b → b < w'.heap.size)
    (hroot : ∀ r rt, getR R' r = some rt → RootRel tt w' F' rt (ρ' r) (fp' r))
    (hfpb : ∀ r rt, getR R' r = some rt → ∀ b, fp' r b → W.heap.size ≤ b ∧ b < w'.heap.size ∧ ¬ F' b)
    (hdisj : ∀ r rt r' rt', getR R' r = some rt → getR R' r' = some rt' → ∀ b, fp' r b → fp' r' b → r = r')
    (hk : ∀ x v, SRel tt w F st.roots ρ x v → SRel tt w' F' R' ρ' (x.keep c) v)
    (hG : ∀ k g v, GRel tt w F k g v → GRel tt w' F' k g v) : Rel tt W ⟨st.n, mapT c st.tmps, R'⟩ a w' ρ' fp' F' := by
  have hA : ∀ x v, ARel tt w F st.roots ρ x v → ARel tt w' F' R' ρ' (x.keep c) v := by
    intro x v hx
    cases x with
    | one x => exact hk x v hx
    | a t g =>
      obtain ⟨h1, cs, h2, h3, h4⟩ := hx
      exact ⟨h1, cs, h2, h3, fun j x hx => hG _ _ _ (h4 j x hx)⟩
    | agg l =>
      obtain ⟨cs, h2, h3, h4⟩ := hx
      refine ⟨cs, h2, by simpa using h3, fun j s x hs hx => ?_⟩
      simp only [List.getElem?_map, Option.map_eq_some_iff] at hs
      obtain ⟨s0, hs0, rfl⟩ := hs
      exact hk _ _ (h4 j s0 x hs0 hx)
  refine ⟨h.below.trans hb, fun b hb' hlt => h.old b (hup b hb' hlt) hlt, hF', hroot, hfpb, hdisj, fun i v hi => ?_, h.defers, by simpa using h.len⟩
  have := h.tmps i v hi
  have hm : St.get ⟨st.n, mapT c st.tmps, R'⟩ i = (st.get i).keep c := by
    simp only [St.get, getT_mapT]
    cases Nat.blt i st.n <;> rfl
  rw [hm]
  generalize st.get i = x at this ⊢
  cases x with
  | v x => exact hA x v this
  | tup l =>
    obtain ⟨cs, h2, h3, h4⟩ := this
    refine ⟨cs, h2, by simpa using h3, fun j s x hs hx => ?_⟩
    simp only [List.getElem?_map, Option.map_eq_some_iff] at hs
    obtain ⟨s0, hs0, rfl⟩ := hs
    exact hA _ _ (h4 j s0 x hs0 hx)
  | cnd d b x => exact ⟨fun hb => hA x v (this.1 hb), this.2⟩

def upd {α : Type} (f : Nat → α) (r : Nat) (x : α) : Nat → α := fun r' => if r' = r then x else f r'
theorem upd_same {α : Type} (f : Nat → α) (r : Nat) (x : α) : upd f r x r = x := by simp [upd]
theorem upd_ne {α : Type} (f : Nat → α) (r : Nat) (x : α) {r' : Nat} (h : r' ≠ r) : upd f r x r' = f r' := by simp [upd, h]

theorem SRel.roots {tt : TT} {w : World} {F : Nat → Prop} {R R' : Roots} {ρ ρ' : Nat → RD} {x : SV} {v : Value}
    (hg : ∀ r rt, x.root = some r → getR R r = some rt → getR R' r = some rt ∧ ρ' r = ρ r)
    (h : SRel tt w F R ρ x v) : SRel tt w F R' ρ' x v := by
  match x with
  | .dead => trivial
  | .s k g => exact h
  | .nilS => exact h
  | .ref e r [] =>
    obtain ⟨⟨g, h1⟩, h2⟩ := h
    obtain ⟨h3, h4⟩ := hg r _ rfl h1
    exact ⟨⟨g, h3⟩, h4.trans h2⟩
  | .ref e r (q :: p) =>
    obtain ⟨rt, o, e0, l, b1, n1, h1, h2⟩ := h
    obtain ⟨h3, h4⟩ := hg r _ rfl h1
    exact ⟨rt, o, e0, l, b1, n1, h3, by rw [h4]; exact h2⟩
  | .ptr r [] =>
    obtain ⟨rt, o, e0, l, b1, n1, h1, h2, h3, h5, h6⟩ := h; exact h3.elim
  | .ptr r [(i, j)] =>
    obtain ⟨rt, b, h1, h2⟩ := h
    obtain ⟨h3, h4⟩ := hg r _ rfl h1
    exact ⟨rt, b, h3, by rw [h4]; exact h2⟩
  | .ptr r (q :: q' :: p) =>
    obtain ⟨rt, o, e0, l, b1, n1, h1, h2⟩ := h
    obtain ⟨h3, h4⟩ := hg r _ rfl h1
    exact ⟨rt, o, e0, l, b1, n1, h3, by rw [h4]; exact h2⟩
  | .eptr e g off => exact h
  | .aptr r cs off =>
    obtain ⟨a, f, rt, h0, h1, h2, h3, h4, h5⟩ := h
    exact ⟨a, f, rt, (hg r _ rfl h0).1, h1, h2, h3, fun j c hj => (h4 j c hj).roots (fun rt hrt => hg r rt rfl hrt), h5⟩

/-- Does the relation of a root's own header, or of an address in its row, go on? -/
def Stays (R R' : Roots) (ρ ρ' : Nat → RD) (r : Nat) : Prop :=
  ∀ rt, getR R r = some rt → ∃ rt', getR R' r = some rt' ∧ rt'.shape = rt.shape ∧ (ρ' r).base = (ρ r).base ∧ ∀ e g, rt = .val e g → ρ' r = ρ r ∧ ∃ g', rt' = .val e g'

/-- What is kept when the roots T turn; of those in T1 their headers and first addresses. -/
def keepT (T T1 : Nat → Bool) : Keep := fun r n => bif T r then (bif T1 r then Nat.ble n 1 else false) else true

theorem Rel.turnT {tt : TT} (hagg : Agg tt) {W : Base} {st : St} {a : Act} {w w' : World} {ρ ρ' : Nat → RD} {fp fp' : Nat → Nat → Prop} {F F' : Nat → Prop} {R' : Roots} (T T1 : Nat → Bool)
    (h : Rel tt W st a w ρ fp F) (hb : Below W.heap.size w w') (hF : ∀ b, F b → F' b) (hup : ∀ b, F' b → b < W.heap.size → F b) (hF' : ∀ b, F' b → b < w'.heap.size)
    (hw : ∀ b, F b → w'.heap[b]? = w.heap[b]?)
    (hS : ∀ r rt, T r = false → getR st.roots r = some rt → ∀ b, fp r b → w'.heap[b]? = w.heap[b]?)
    (hsame : ∀ r, T r = false → getR R' r = getR st.roots r ∧ ρ' r = ρ r ∧ fp' r = fp r)
    (hnF : ∀ r rt, T r = false → getR st.roots r = some rt → ∀ b, fp r b → ¬ F' b)
    (hroot : ∀ r rt, T r = true → getR R' r = some rt → RootRel tt w' F' rt (ρ' r) (fp' r))
    (hfpb : ∀ r rt, T r = true → getR R' r = some rt → ∀ b, fp' r b → W.heap.size ≤ b ∧ b < w'.heap.size ∧ ¬ F' b)
    (hdisj : ∀ r rt r' rt', T r = true → getR R' r = some rt → getR R' r' = some rt' → ∀ b, fp' r b → fp' r' b → r = r')
    (hT1 : ∀ r, T r = true → T1 r = true → Stays st.roots R' ρ ρ' r) : Rel tt W ⟨st.n, mapT (keepT T T1) st.tmps, R'⟩ a w' ρ' fp' F' := by
  refine h.turn hb hF hup hF' ?_ ?_ ?_ ?_ (fun k g v hg => hg.mono hF hw)
  · intro r rt hr
    cases hT : T r with
    | true => exact hroot r rt hT hr
    | false =>
      obtain ⟨h1, h2, h3⟩ := hsame r hT
      rw [h1] at hr; rw [h2, h3]
      exact (h.root r rt hr).mono hF hw (hS r rt hT hr)
  · intro r rt hr b hb'
    cases hT : T r with
    | true => exact hfpb r rt hT hr b hb'
    | false =>
      obtain ⟨h1, h2, h3⟩ := hsame r hT
      rw [h1] at hr; rw [h3] at hb'
      have := h.fpb r rt hr b hb'
      exact ⟨this.1, Nat.lt_of_lt_of_le this.2.1 hb.size, hnF r rt hT hr b hb'⟩
  · intro r rt r' rt' hr hr' b h1 h2
    cases hT : T r with
    | true => exact hdisj r rt r' rt' hT hr hr' b h1 h2
    | false =>
      cases hT' : T r' with
      | true => exact (hdisj r' rt' r rt hT' hr' hr b h2 h1).symm
      | false =>
        obtain ⟨g1, g2, g3⟩ := hsame r hT
        obtain ⟨g1', g2', g3'⟩ := hsame r' hT'
        rw [g1] at hr; rw [g1'] at hr'; rw [g3] at h1; rw [g3'] at h2
        exact h.disj r rt r' rt' hr hr' b h1 h2
  · intro x v hx
    have plain : (∀ r, x.root = some r → T r = false) → SRel tt w' F' R' ρ' x v := by
      intro hr
      refine SRel.roots (R := st.roots) (ρ := ρ) (fun r rt hxr hg => ?_) (SRel.mono1 hagg h.root hF hw (fun r rt hxr hg => hS r rt (hr r hxr) hg) hx)
      obtain ⟨h1, h2, _⟩ := hsame r (hr r hxr)
      exact ⟨h1.trans hg, h2⟩
    cases x with
    | dead => trivial
    | s k g => exact plain (fun _ h => by simp [SV.root] at h)
    | nilS => exact plain (fun _ h => by simp [SV.root] at h)
    | eptr e g off => exact plain (fun _ h => by simp [SV.root] at h)
    | aptr r cs off =>
      simp only [SV.keep, keepT]
      cases hT : T r with
      | false => exact plain (fun r' h => by simp only [SV.root, Option.some.injEq] at h; subst h; exact hT)
      | true =>
        cases hT1' : T1 r with
        | false => trivial
        | true =>
          have : Nat.ble 2 1 = false := rfl
          simp only [cond_true, this, cond_false]
          trivial
    | ref e r p =>
      simp only [SV.keep, keepT]
      cases hT : T r with
      | false => exact plain (fun r' h => by simp only [SV.root, Option.some.injEq] at h; subst h; exact hT)
      | true =>
        cases hT1' : T1 r with
        | false => trivial
        | true =>
          cases p with
          | cons q p =>
            have : Nat.ble ((q :: p).length + 1) 1 = false := rfl
            simp only [cond_true, this, cond_false]
            trivial
          | nil =>
            obtain ⟨⟨g, h1⟩, h2⟩ := hx
            obtain ⟨rt', g1, _, _, g4⟩ := hT1 r hT hT1' _ h1
            obtain ⟨g5, g', rfl⟩ := g4 e g rfl
            exact ⟨⟨g', g1⟩, g5.trans h2⟩
    | ptr r p =>
      simp only [SV.keep, keepT]
      cases hT : T r with
      | false => exact plain (fun r' h => by simp only [SV.root, Option.some.injEq] at h; subst h; exact hT)
      | true =>
        cases hT1' : T1 r with
        | false => trivial
        | true =>
          match p with
          | [] => obtain ⟨rt, o, e0, l, b1, n1, h1, h2, h3, h5, h6⟩ := hx; exact h3.elim
          | [(i, j)] =>
            obtain ⟨rt, b, h1, h2, h3, h4, h5, h6⟩ := hx
            obtain ⟨rt', g1, g2, g3, _⟩ := hT1 r hT hT1' _ h1
            exact ⟨rt', b, g1, g3.trans h2, by rw [g2]; exact h3, by rw [g2]; exact h4, by rw [g2]; exact h5, by rw [g2]; exact h6⟩
          | q :: q' :: p =>
            have : Nat.ble ((q :: q' :: p).length) 1 = false := rfl
            simp only [cond_true, this, cond_false]
            trivial

/-- A new root. -/
theorem Rel.add {tt : TT} {W : Base} {st : St} {a : Act} {w : World} {ρ : Nat → RD} {fp : Nat → Nat → Prop} {F : Nat → Prop} (h : Rel tt W st a w ρ fp F)
    {r : Nat} {rt : Root} {rd : RD} {S : Nat → Prop} (hr : getR st.roots r = none) (hroot : RootRel tt w F rt rd S)
    (hS : ∀ b, S b → W.heap.size ≤ b ∧ b < w.heap.size ∧ ¬ F b) (hd : ∀ r' rt' b, getR st.roots r' = some rt' → fp r' b → ¬ S b) :
    Rel tt W { st with roots := setR st.roots r rt } a w (upd ρ r rd) (upd fp r S) F := by
  have hg : ∀ r' rt', getR (setR st.roots r rt) r' = some rt' → (r' = r ∧ rt' = rt) ∨ (r' ≠ r ∧ getR st.roots r' = some rt') := by
    intro r' rt' h'
    rw [getR_setR] at h'
    split at h'
    · rename_i h2; simp only [Option.some.injEq] at h'; exact .inl ⟨h2, h'.symm⟩
    · rename_i h2; exact .inr ⟨h2, h'⟩
  have hx : ∀ x v, SRel tt w F st.roots ρ x v → SRel tt w F (setR st.roots r rt) (upd ρ r rd) x v := by
    intro x v hx
    refine SRel.roots (fun r' rt' _ hr' => ?_) hx
    have hne : r' ≠ r := fun h' => by rw [h', hr] at hr'; cases hr'
    rw [getR_setR, if_neg hne, upd_ne _ _ _ hne]
    exact ⟨hr', rfl⟩
  have hA : ∀ x v, ARel tt w F st.roots ρ x v → ARel tt w F (setR st.roots r rt) (upd ρ r rd) x v := by
    intro x v hx'
    cases x with
    | one x => exact hx x v hx'
    | a t g => exact hx'
    | agg l => obtain ⟨cs, h2, h3, h4⟩ := hx'; exact ⟨cs, h2, h3, fun j s x hs hx'' => hx _ _ (h4 j s x hs hx'')⟩
  refine ⟨h.below, h.old, h.flt, ?_, ?_, ?_, fun i v hi => ?_, h.defers, h.len⟩
  · intro r' rt' h'
    rcases hg r' rt' h' with ⟨rfl, rfl⟩ | ⟨hne, h'⟩
    · rw [upd_same, upd_same]; exact hroot
    · rw [upd_ne _ _ _ hne, upd_ne _ _ _ hne]; exact h.root r' rt' h'
  · intro r' rt' h' b hb
    rcases hg r' rt' h' with ⟨rfl, rfl⟩ | ⟨hne, h'⟩
    · rw [upd_same] at hb; exact hS b hb
    · rw [upd_ne _ _ _ hne] at hb; exact h.fpb r' rt' h' b hb
  · intro r1 rt1 r2 rt2 h1 h2 b hb1 hb2
    rcases hg r1 rt1 h1 with ⟨e1, _⟩ | ⟨hne1, g1⟩ <;> rcases hg r2 rt2 h2 with ⟨e2, _⟩ | ⟨hne2, g2⟩
    · exact e1.trans e2.symm
    · rw [e1, upd_same] at hb1; rw [upd_ne _ _ _ hne2] at hb2; exact absurd hb1 (hd r2 rt2 b g2 hb2)
    · rw [e2, upd_same] at hb2; rw [upd_ne _ _ _ hne1] at hb1; exact absurd hb2 (hd r1 rt1 b g1 hb1)
    · rw [upd_ne _ _ _ hne1] at hb1; rw [upd_ne _ _ _ hne2] at hb2; exact h.disj r1 rt1 r2 rt2 g1 g2 b hb1 hb2
  · have := h.tmps i v hi
    show PRel tt w F _ _ _ (st.get i) v
    generalize st.get i = x at this ⊢
    cases x with
    | v x => exact hA x v this
    | tup l => obtain ⟨cs, h2, h3, h4⟩ := this; exact ⟨cs, h2, h3, fun j s x hs hx'' => hA _ _ (h4 j s x hs hx'')⟩
    | cnd d b x => exact ⟨fun hb => hA x v (this.1 hb), this.2⟩

end Go.Eng

/- The steps: what an operation gives for a state. These are plain functions; that the machine does just this stands in the next texts. Of no program. -/
namespace Go.Eng
set_option linter.unusedVariables false
set_option linter.unusedSimpArgs false

/-- A table of types. -/
abbrev TL := List (Nat × TI)
def look : TL → Nat → Option TI
  | [], _ => none
  | (k, x) :: t, r => bif Nat.beq k r then some x else look t r
def ttOf (tl : TL) : TT := fun t => (look tl t).getD ⟨[], false, 0, .other⟩
def known (tl : TL) (t : TypeId) : Bool := (look tl t).isSome

def inKb (k : IntKind) (n : Int) : Bool := (Lit.int k n).wf
def MAXS : Nat := 140737488351232
def constS : Value → SV
  | .int k n => bif inKb k n then .s (.int k) (.int n) else .dead
  | .bool b => .s .bool (.bool b)
  | .string s => bif Nat.ble s.size MAXS then .s .str (.str s) else .dead
  | .slice none 0 0 => .nilS
  | .nilIface => .s .iface .nil
  | .nilFunc => .s .fn .nil
  | _ => .dead

def evalO (st : St) : Operand → PV
  | .tmp t => st.get t
  | .const v => .v (.one (constS v))
  | .func f => .v (.one (.s .fn (.fn f)))
  | .global _ => PV.dead

/-- The variables on whose values it hangs whether an operation is carried out. -/
abbrev Chain := List (Nat × Bool)
def chainOf (st : St) : Nat → Nat → Bool → Chain
  | 0, _, _ => []
  | n + 1, d, w => (d, w) :: match st.get d with
    | .cnd d1 w1 _ => chainOf st n d1 w1
    | _ => []
def inChain : Chain → Nat → Bool → Bool
  | [], _, _ => false
  | (d, w) :: t, d', w' => bif Nat.beq d d' && (w == w') then true else inChain t d' w'
/-- An operand, where the chain's tests have gone so. -/
def strip (ch : Chain) : PV → AV
  | .v x => x
  | .cnd d w x => bif inChain ch d w then x else .one .dead
  | .tup _ => .one .dead
def boolOf : AV → Option Bool
  | .one (.s .bool g) => some g.asBool
  | _ => none
/-- Have all tests gone so? -/
def met (st : St) : Chain → Option Bool
  | [] => some true
  | (d, w) :: t =>
    match boolOf (strip t (st.get d)) with
    | some b => match t with
      | [] => some (bif w then b else !b)
      | _ :: _ => (met st t).map fun r => r && (bif w then b else !b)
    | none => none

def ok1 (x : SV) : Option (Bool × AV) := some (true, .one x)

def bitI (op : BinOp) (k : IntKind) (x y : Int) : Int :=
  let a := BitVec.ofInt k.bits x
  let b := BitVec.ofInt k.bits y
  match op with
  | .and => k.wrap (a &&& b).toNat
  | .or => k.wrap (a ||| b).toNat
  | .xor => k.wrap (a ^^^ b).toNat
  | _ => k.wrap (a &&& ~~~b).toNat
def shlI (k : IntKind) (x y : Int) : Int := k.wrap (x * 2 ^ min y.toNat k.bits)
def shrI (k : IntKind) (x y : Int) : Int := x.fdiv (2 ^ min y.toNat k.bits)

def binInt (op : BinOp) (k : IntKind) (a b : Int) : Option (Bool × AV) :=
  match op with
  | .add => ok1 (.s (.int k) (.int (k.wrap (a + b))))
  | .sub => ok1 (.s (.int k) (.int (k.wrap (a - b))))
  | .mul => ok1 (.s (.int k) (.int (k.wrap (a * b))))
  | .quo => some (!(b == 0), .one (.s (.int k) (.int (k.wrap (a.tdiv b)))))
  | .rem => some (!(b == 0), .one (.s (.int k) (.int (a.tmod b))))
  | .and | .or | .xor | .andNot => ok1 (.s (.int k) (.int (bitI op k a b)))
  | .eql => ok1 (.s .bool (.bool (a == b)))
  | .neq => ok1 (.s .bool (.bool (a != b)))
  | .lss => ok1 (.s .bool (.bool (decide (a < b))))
  | .leq => ok1 (.s .bool (.bool (decide (a ≤ b))))
  | .gtr => ok1 (.s .bool (.bool (decide (a > b))))
  | .geq => ok1 (.s .bool (.bool (decide (a ≥ b))))
  | _ => none
def strEq (a b : ByteArray) : Bool := a.toList == b.toList
def binStr (op : BinOp) (a b : ByteArray) : Option (Bool × AV) :=
  match op with
  | .add => some (Nat.ble (a.size + b.size) MAXS, .one (.s .str (.str (a ++ b))))
  | .eql => ok1 (.s .bool (.bool (strEq a b)))
  | .neq => ok1 (.s .bool (.bool (!strEq a b)))
  | .lss => ok1 (.s .bool (.bool (Op.bytesLess a.toList b.toList)))
  | .leq => ok1 (.s .bool (.bool (Op.bytesLess a.toList b.toList || strEq a b)))
  | .gtr => ok1 (.s .bool (.bool (!(Op.bytesLess a.toList b.toList || strEq a b))))
  | .geq => ok1 (.s .bool (.bool (!Op.bytesLess a.toList b.toList)))
  | _ => none
def isNilG : GV → Option Bool
  | .nil => some true
  | .iface _ _ => some false
  | .fn _ => some false
  | _ => none
def eqRes (op : BinOp) (c b : Bool) : Option (Bool × AV) :=
  match op with
  | .eql => some (c, .one (.s .bool (.bool b)))
  | .neq => some (c, .one (.s .bool (.bool (!b))))
  | _ => none
def isB (tl : TL) (t : TypeId) : Bool := match (ttOf tl t).desc with | .bool => true | _ => false
def isSl (tl : TL) (t : TypeId) : Bool := match (ttOf tl t).desc with | .slice _ => true | _ => false
def isIf (tl : TL) (t : TypeId) : Bool := match (ttOf tl t).desc with | .iface => true | _ => false
def isConst : Operand → Bool | .const _ => true | _ => false
def binS (tl : TL) (op : BinOp) (t : TypeId) (y : Operand) : SV → SV → Option (Bool × AV)
  | .s (.int k) a, .s (.int k') b =>
    match op with
    | .shl => some (!(decide (b.asInt < 0)), .one (.s (.int k) (.int (shlI k a.asInt b.asInt))))
    | .shr => some (!(decide (b.asInt < 0)), .one (.s (.int k) (.int (shrI k a.asInt b.asInt))))
    | _ => bif decide (k = k') then binInt op k a.asInt b.asInt else none
  | .s .str a, .s .str b => binStr op a.asStr b.asStr
  | .s .bool a, .s .bool b => bif isB tl t then eqRes op true (a.asBool == b.asBool) else none
  | .s (.slice _) a, .nilS => bif isSl tl t then eqRes op a.asZ a.all.isEmpty else none
  | .s .iface a, .s .iface .nil => bif isConst y && isIf tl t then (isNilG a).bind (eqRes op true) else none
  | _, _ => none
/-- The cells of a struct of numbers. -/
def intAt (cells : List CK) : List SV → Nat → Option (List GV)
  | [], _ => some []
  | .s k g :: l, j => bif decide (k = cells.getD j .other) then (intAt cells l (j + 1)).map (g :: ·) else none
  | _ :: _, _ => none
def aggG (tl : TL) (t : TypeId) : AV → Option GV
  | .a t' g => bif Nat.beq t' t then some g else none
  | .agg l => bif Nat.beq l.length (ttOf tl t).sz then (intAt (ttOf tl t).cells l 0).map .agg else none
  | _ => none
def isInt (tl : TL) (t : TypeId) : Bool := match (ttOf tl t).desc with | .int _ => true | _ => false
def fldsOf (tl : TL) (t : TypeId) : Option (List (Nat × TypeId)) := match (ttOf tl t).desc with
  | .struct fs => bif fs.all fun x => isInt tl x.2 then some fs else none
  | _ => none
def eqG (fs : List (Nat × TypeId)) (g g' : GV) : Bool := fs.all fun x => (cellG true g x.1).asInt == (cellG true g' x.1).asInt
def binA (tl : TL) (op : BinOp) (t : TypeId) (y : Operand) : AV → AV → Option (Bool × AV)
  | .one a, .one b => binS tl op t y a b
  | a, b => match fldsOf tl t, aggG tl t a, aggG tl t b with
    | some fs, some g, some g' => eqRes op true (eqG fs g g')
    | _, _, _ => none

def unA (op : UnOp) : AV → Option (Bool × AV)
  | .one (.s .bool g) => match op with | .not => ok1 (.s .bool (.bool (!g.asBool))) | _ => none
  | .one (.s (.int k) g) => match op with
    | .neg => ok1 (.s (.int k) (.int (k.wrap (0 - g.asInt))))
    | .xor => ok1 (.s (.int k) (.int (bitI .xor k (if k.signed then -1 else k.max) g.asInt)))
    | _ => none
  | _ => none

/-- What stands at a reference. -/
def rootLst (st : St) (r : Nat) : Option (Nat × TypeId × List GV) := (getR st.roots r).bind Root.lst
def contentOf (tl : TL) (st : St) (r : Nat) (p : Path) : Option GV :=
  match p with
  | [] => match getR st.roots r with
    | some (.val _ g) => some g
    | _ => none
  | q :: p => match rootLst st r with
    | some (_, e, l) => some (getP (ttOf tl) e l (q :: p))
    | none => none
/-- A slice's elements' type, and what it holds. -/
def sliceG (tl : TL) (st : St) : AV → Option (TypeId × GV)
  | .one (.s (.slice e) g) => some (e, g)
  | .one (.ref e r p) => (contentOf tl st r p).map fun g => (e, g)
  | _ => none
def bytesStr (l : List GV) : ByteArray := strOfNums (l.map GV.asInt)
def convA (tl : TL) (st : St) (src dst : TypeId) (x : AV) : Option (Bool × AV) :=
  match x with
  | .one (.s (.int _) g) => match (ttOf tl dst).desc with
    | .int k' => ok1 (.s (.int k') (.int (k'.wrap g.asInt)))
    | _ => none
  | .one (.s .str g) => match (ttOf tl dst).desc with
    | .str => ok1 (.s .str g)
    | _ => none
  | .one .nilS => match (ttOf tl src).desc, (ttOf tl dst).desc with
    | .slice e, .str => match (ttOf tl e).desc with | .int .u8 => ok1 (.s .str (.str ⟨#[]⟩)) | _ => none
    | _, _ => none
  | x => match sliceG tl st x with
    | some (e, g) => match (ttOf tl src).desc, (ttOf tl dst).desc, (ttOf tl e).desc with
      | .slice e', .str, .int .u8 => bif Nat.beq e e' then some (Nat.ble g.asList.length MAXS, .one (.s .str (.str (bytesStr g.asList)))) else none
      | _, _, _ => none
    | none => none

/-- The type of the rows' elements in which a place lies. -/
def lastE (tt : TT) : TypeId → Path → TypeId
  | e, [] => e
  | e, [_] => e
  | e, (_, j) :: q :: r => match (tt e).ck j with
    | .slice e' => lastE tt e' (q :: r)
    | _ => e
def addOff : Path → Nat → Path
  | [], _ => []
  | [(i, j)], o => [(i, j + o)]
  | x :: q :: r, o => x :: addOff (q :: r) o
def lastOff : Path → Nat
  | [] => 0
  | [(_, j)] => j
  | _ :: q :: r => lastOff (q :: r)

/-- What is read of a place of ours. -/
def cellSV (bx : Bool) (k : CK) (r : Nat) (p : Path) (g : GV) : SV :=
  match k with
  | .slice e => bif bx && Nat.beq g.asOwn 0 then .s (.slice e) g else .ref e r p
  | k => .s k g
/-- A cell of a variable's own row. -/
def boxP (st : St) (r : Nat) (p : Path) : Bool := match p with
  | [_] => (match getR st.roots r with | some (.row _ _ _) => true | _ => false)
  | _ => false
def loadP (tl : TL) (st : St) (t : TypeId) (r : Nat) (p : Path) : Option (Bool × AV) :=
  match rootLst st r with
  | some (o, e, l) =>
    let tt := ttOf tl
    let ti := tt t
    let cell := fun j => let p' := addOff p j; cellSV (boxP st r p) (kP tt e p') r p' (getP tt e l p')
    bif known tl t then
      some (Nat.ble (lastOff p + ti.sz) (tt (lastE tt e p)).sz, bif ti.agg then .agg ((List.range ti.sz).map cell) else .one (cell 0))
    else none
  | none => none
def loadE (tl : TL) (t : TypeId) (e : TypeId) (v : GV) (off : Nat) : Option (Bool × AV) :=
  let tt := ttOf tl
  let ti := tt t
  let te := tt e
  bif known tl t && Nat.ble (off + ti.sz) te.sz then
    bif ti.agg then
      bif Nat.beq off 0 && Nat.beq t e then some (true, .a t v)
      else some (true, .agg ((List.range ti.sz).map fun j => .s (te.ck (off + j)) (cellG te.agg v (off + j))))
    else some (true, .one (.s (te.ck off) (cellG te.agg v off)))
  else none
def loadC (tl : TL) (t : TypeId) (r : Nat) (cs : List CV) (off : Nat) : Option (Bool × AV) :=
  bif known tl t && Nat.ble (off + (ttOf tl t).sz) cs.length then
    bif (ttOf tl t).agg then some (true, .agg ((List.range (ttOf tl t).sz).map fun j => (cs.getD (off + j) default).sv r))
    else some (true, .one ((cs.getD off default).sv r))
  else none
def loadA (tl : TL) (st : St) (t : TypeId) : AV → Option (Bool × AV)
  | .one (.ptr r p) => loadP tl st t r p
  | .one (.eptr e v off) => loadE tl t e v off
  | .one (.aptr r cs off) => loadC tl t r cs off
  | _ => none

def fieldOf (tl : TL) (s : TypeId) (f : Nat) : Option (Nat × TypeId) :=
  match (ttOf tl s).desc with
  | .struct fs => fs[f]?
  | _ => none
def rootShape (st : St) (r : Nat) : Option (Nat × TypeId × Nat) := (getR st.roots r).map Root.shape
def fieldAddrA (tl : TL) (st : St) (s : TypeId) (f : Nat) : AV → Option (Bool × AV)
  | .one (.ptr r [(i, j)]) =>
    match fieldOf tl s f, rootShape st r with
    | some (o, ft), some (_, e, _) => some (Nat.ble 1 (ttOf tl ft).sz && Nat.blt (j + o) (ttOf tl e).sz, .one (.ptr r [(i, j + o)]))
    | _, _ => none
  | .one (.ptr r p) =>
    match fieldOf tl s f, rootLst st r with
    | some (o, ft), some (_, e, _) => some (Nat.ble 1 (ttOf tl ft).sz && Nat.blt (lastOff p + o) (ttOf tl (lastE (ttOf tl) e p)).sz, .one (.ptr r (addOff p o)))
    | _, _ => none
  | .one (.eptr e v off) =>
    match fieldOf tl s f with
    | some (o, ft) => bif Nat.ble 1 (ttOf tl ft).sz then ok1 (.eptr e v (off + o)) else none
    | none => none
  | .one (.aptr r cs off) =>
    match fieldOf tl s f with
    | some (o, ft) => bif Nat.ble 1 (ttOf tl ft).sz then ok1 (.aptr r cs (off + o)) else none
    | none => none
  | _ => none
/-- The cells of an aggregate. -/
def cellsA (tl : TL) : AV → Option (List SV)
  | .agg l => some l
  | .a t v => some ((List.range (ttOf tl t).sz).map fun j => .s ((ttOf tl t).ck j) (cellG true v j))
  | .one _ => none
def partA (tl : TL) (ft : TypeId) (o : Nat) (l : List SV) : Option (Bool × AV) :=
  bif known tl ft && Nat.ble (o + (ttOf tl ft).sz) l.length then
    some (true, bif (ttOf tl ft).agg then .agg ((l.drop o).take (ttOf tl ft).sz) else .one (l.getD o .dead))
  else none
def fieldA (tl : TL) (s : TypeId) (f : Nat) (x : AV) : Option (Bool × AV) :=
  match fieldOf tl s f, cellsA tl x with
  | some (o, ft), some l => partA tl ft o l
  | _, _ => none

def intOf : AV → Option Int
  | .one (.s (.int _) g) => some g.asInt
  | _ => none
def inRange (i : Int) (n : Nat) : Bool := decide (0 ≤ i) && decide (i < n)
def deepP (tl : TL) (st : St) (r : Nat) (p : Path) : Bool :=
  match p with
  | [] => true
  | q :: p => match rootLst st r with
    | some (o, e, l) => Nat.beq (oP (ttOf tl) o e l (q :: p)) 2
    | none => false
def indexAddrA (tl : TL) (st : St) (t : TypeId) (x ix : AV) : Option (Bool × AV) :=
  match intOf ix, (ttOf tl t).desc with
  | some i, .slice e =>
    match x with
    | .one (.s (.slice e') g) => bif Nat.beq e e' then some (inRange i g.asList.length, .one (.eptr e (nth g.all i.toNat) 0)) else none
    | .one (.ref e' r p) => bif Nat.beq e e' then
        match contentOf tl st r p with
        | some g => some (inRange i g.asList.length && (Nat.beq g.asOwn 1 || Nat.beq g.asOwn 2) && Nat.ble 1 (ttOf tl e).sz && deepP tl st r p, .one (.ptr r (p ++ [(i.toNat, 0)])))
        | none => none
      else none
    | _ => none
  | some i, .array n e =>
    match x with
    | .one (.ptr r p) => match rootLst st r with
      | some (_, e0, _) => bif known tl e then
          some (inRange i n && (Nat.ble (lastOff p + n * (ttOf tl e).sz) (ttOf tl (lastE (ttOf tl) e0 p)).sz && Nat.ble 1 (ttOf tl e).sz), .one (.ptr r (addOff p (i.toNat * (ttOf tl e).sz)))) else none
      | none => none
    | _ => none
  | _, _ => none
/-- Ground values of cells of these kinds that lead to no memory. -/
def groundL : List CK → List SV → Option (List GV)
  | [], [] => some []
  | .slice _ :: _, _ => none
  | k :: ks, .s k' g :: t => bif decide (k = k') then (groundL ks t).map fun l => g :: l else none
  | _, _ => none
def bt (s : ByteArray) (i : Nat) : Int := ((s.data[i]?).map fun b => (b.toNat : Int)).getD 0
def indexA (tl : TL) (t : TypeId) (x ix : AV) : Option (Bool × AV) :=
  match intOf ix, (ttOf tl t).desc, x with
  | some i, .str, .one (.s .str g) => some (inRange i g.asStr.size, .one (.s (.int .u8) (.int (bt g.asStr i.toNat))))
  | some i, .array n e, .a t' v => bif Nat.beq t t' && Nat.beq (ttOf tl e).sz 1 && !(ttOf tl e).agg && known tl e then some (inRange i n, .one (.s ((ttOf tl e).ck 0) (cellG true v i.toNat))) else none
  | some i, .array n e, .agg l => bif Nat.beq (ttOf tl e).sz 1 && !(ttOf tl e).agg && known tl e then
      match groundL (List.replicate n ((ttOf tl e).ck 0)) l with
      | some gs => some (inRange i n, .one (.s ((ttOf tl e).ck 0) (nth gs i.toNat)))
      | none => none
    else none
  | _, _, _ => none

def optInt : Option AV → Option (Option Int)
  | none => some none
  | some x => (intOf x).map some
/-- s[lo:hi] of n. -/
def cutOf (n : Nat) (lo hi : Option Int) : Bool × Nat × Nat :=
  match lo, hi with
  | none, none => (true, 0, n)
  | some a, none => (inRange a (n + 1), a.toNat, n)
  | none, some b => (inRange b (n + 1), 0, b.toNat)
  | some a, some b => (inRange b (n + 1) && inRange a (b.toNat + 1), a.toNat, b.toNat)
/-- The front of a list, the rest to spare. -/
def frontOf (g : GV) (n : Nat) : GV := .list 0 false (g.all.take n) (g.all.drop n)
def sliceA (tl : TL) (t : TypeId) (x : AV) (lo hi : Option AV) : Option (Bool × AV) :=
  match optInt lo, optInt hi, (ttOf tl t).desc, x with
  | some lo, some hi, .str, .one (.s .str g) => let c := cutOf g.asStr.size lo hi; some (c.1, .one (.s .str (.str (g.asStr.extract c.2.1 c.2.2))))
  | some lo, some hi, .slice e, .one (.s (.slice e') g) =>
    bif Nat.beq e e' then
      match lo, hi with
      | none, some n => some (inRange n (g.all.length + 1), .one (.s (.slice e) (frontOf g n.toNat)))
      | lo, hi => let c := cutOf g.asList.length lo hi
        some (c.1, .one (.s (.slice e) (.list 0 false ((g.asList.take c.2.2).drop c.2.1) [])))
    else none
  | _, _, _, _ => none

def zeroSV : CK → SV
  | .slice _ => .nilS
  | .other => .dead
  | k => .s k (zeroG k)
def zeroOk (ti : TI) : Bool := ti.cells.all fun k => match k with | .other => false | _ => true
def liveS : SV → Bool | .dead => false | _ => true
/-- The cells of a value. -/
def cells1 (tl : TL) : AV → Option (List SV)
  | .one s => bif liveS s then some [s] else none
  | x => cellsA tl x
/-- Members laid over the zero. -/
def fillS (place : Nat → Option (Nat × Nat)) (tl : TL) : List SV → List (Nat × AV) → Option (List SV)
  | l, [] => some l
  | l, (i, x) :: rest =>
    match place i, cells1 tl x with
    | some (o, n), some cs => bif Nat.beq cs.length n && Nat.ble (o + n) l.length then fillS place tl (l.take o ++ cs ++ l.drop (o + n)) rest else none
    | _, _ => none
def placeOfT (tl : TL) (t : TypeId) (i : Nat) : Option (Nat × Nat) :=
  match (ttOf tl t).desc with
  | .struct fs => (fs[i]?).map fun (o, ft) => (o, (ttOf tl ft).sz)
  | .array n e => bif Nat.blt i n then some (i * (ttOf tl e).sz, (ttOf tl e).sz) else none
  | _ => none
def hasPl : Desc → Bool
  | .struct _ => true
  | .array _ _ => true
  | _ => false
def buildA (tl : TL) (t : TypeId) (parts : List (Nat × AV)) : Option (Bool × AV) :=
  bif known tl t && (ttOf tl t).agg && zeroOk (ttOf tl t) && hasPl (ttOf tl t).desc then
    (fillS (placeOfT tl t) tl ((ttOf tl t).cells.map zeroSV) parts).map fun l => (true, .agg l)
  else none

def notSl : CK → Bool
  | .slice _ => false
  | _ => true
def makeIfaceA (tl : TL) (t : TypeId) (x : AV) : Option (Bool × AV) :=
  let ti := ttOf tl t
  bif known tl t && !(decide (ti.cells = [.iface])) then
    match x with
    | .one s => bif !ti.agg then (groundL ti.cells [s]).bind fun l => match l with | [g] => ok1 (.s .iface (.iface t g)) | _ => none else none
    | .a t' g => bif Nat.beq t t' && ti.agg && ti.cells.all notSl then ok1 (.s .iface (.iface t g)) else none
    | .agg l => bif ti.agg then (groundL ti.cells l).bind fun gs => ok1 (.s .iface (.iface t (.agg gs))) else none
  else none

def lenA (tl : TL) (st : St) (t : TypeId) (x : AV) : Option (Bool × AV) :=
  match x with
  | .one (.s .str g) => match (ttOf tl t).desc with | .str => ok1 (.s (.int .i64) (.int g.asStr.size)) | _ => none
  | .one .nilS => match (ttOf tl t).desc with | .slice _ => ok1 (.s (.int .i64) (.int 0)) | _ => none
  | x => match sliceG tl st x, (ttOf tl t).desc with
    | some (_, g), .slice _ => ok1 (.s (.int .i64) (.int g.asList.length))
    | _, _ => none

def maxI (a b : Int) : Int := if b > a then b else a
def minI (a b : Int) : Int := if b < a then b else a
def foldI (f : Int → Int → Int) (k : IntKind) : Int → List AV → Option Int
  | a, [] => some a
  | a, .one (.s (.int k') g) :: t => bif decide (k = k') then foldI f k (f a g.asInt) t else none
  | _, _ => none

/-- An operation that only computes or reads. -/
def vstep (tl : TL) (st : St) (ch : Chain) : Op → Option (Bool × AV)
  | .move x => some (true, strip ch (evalO st x))
  | .assign x => some (true, strip ch (evalO st x))
  | .pick (.tmp dc) a b =>
    match boolOf (strip ch (st.get dc)), boolOf (strip ((dc, true) :: ch) (evalO st a)), boolOf (strip ((dc, false) :: ch) (evalO st b)) with
    | some c, some a, some b => ok1 (.s .bool (.bool (bif c then a else b)))
    | _, _, _ => none
  | .load t a => loadA tl st t (strip ch (evalO st a))
  | .fieldAddr s x f => fieldAddrA tl st s f (strip ch (evalO st x))
  | .field s x f => fieldA tl s f (strip ch (evalO st x))
  | .indexAddr t x ix => indexAddrA tl st t (strip ch (evalO st x)) (strip ch (evalO st ix))
  | .index t x ix => indexA tl t (strip ch (evalO st x)) (strip ch (evalO st ix))
  | .slice t x lo hi none => sliceA tl t (strip ch (evalO st x)) (lo.map fun o => strip ch (evalO st o)) (hi.map fun o => strip ch (evalO st o))
  | .binOp op t x y _ => binA tl op t y (strip ch (evalO st x)) (strip ch (evalO st y))
  | .unOp op _ x => unA op (strip ch (evalO st x))
  | .convert s d x => bif known tl s then convA tl st s d (strip ch (evalO st x)) else none
  | .nilCheck x => match strip ch (evalO st x) with
    | .one (.ptr r p) => ok1 (.ptr r p)
    | _ => none
  | .build t parts => buildA tl t (parts.toList.map fun (i, o) => (i, strip ch (evalO st o)))
  | .makeInterface t x => makeIfaceA tl t (strip ch (evalO st x))
  | .extract (.tmp d) ix => match st.get d with
    | .tup l => (l[ix]?).map fun x => (true, x)
    | _ => none
  | .call { callee := .builtin .len, args, argTypes } =>
    match args.toList, argTypes.toList with
    | [x], [t] => lenA tl st t (strip ch (evalO st x))
    | _, _ => none
  | .call { callee := .builtin .max, args, .. } =>
    match args.toList.map fun x => strip ch (evalO st x) with
    | .one (.s (.int k) g) :: t => (foldI maxI k g.asInt t).bind fun n => ok1 (.s (.int k) (.int n))
    | _ => none
  | .call { callee := .builtin .min, args, .. } =>
    match args.toList.map fun x => strip ch (evalO st x) with
    | .one (.s (.int k) g) :: t => (foldI minI k g.asInt t).bind fun n => ok1 (.s (.int k) (.int n))
    | _ => none
  | _ => none

end Go.Eng

/- That the machine does what the steps say: operations that only compute or read. Of no program. -/
namespace Go.Eng
set_option linter.unusedVariables false
set_option linter.unusedSimpArgs false
open Go.RowKit

/-- What a table says of a type is so. -/
structure FactT (P : Program) (tl : TL) (t : TypeId) : Prop where
  info : ∃ i, P.info? t = some i ∧ i.size = (ttOf tl t).sz ∧ i.bytes = (ttOf tl t).bytes ∧ (zeroOk (ttOf tl t) = true → i.zero = some (ttOf tl t).zeroV)
  agg : ∃ d, P.underlying t = some d ∧ ((ttOf tl t).agg = true ↔ (∃ fs, d = .struct fs) ∨ ∃ n e, d = .array n e) ∧ ((ttOf tl t).cells ≠ [.iface] → ∀ ms, d ≠ .interface ms)
  one : (ttOf tl t).agg = false → (ttOf tl t).sz = 1
  desc : match (ttOf tl t).desc with
    | .int k => P.underlying t = some (.int k) ∧ (ttOf tl t).cells = [.int k]
    | .bool => P.underlying t = some .bool ∧ (ttOf tl t).cells = [.bool]
    | .str => P.underlying t = some .string ∧ (ttOf tl t).cells = [.str]
    | .slice e => P.underlying t = some (.slice e) ∧ (ttOf tl t).cells = [.slice e] ∧ known tl e = true
    | .struct fs => (ttOf tl t).agg = true ∧ ∃ fields : Array Go.Field, P.underlying t = some (.struct fields) ∧ fields.size = fs.length ∧
        ∀ (f o ft : Nat), fs[f]? = some (o, ft) → ∃ fd : Go.Field, fields[f]? = some fd ∧ fd.offset = o ∧ fd.type = ft ∧ known tl ft = true ∧ o + (ttOf tl ft).sz ≤ (ttOf tl t).sz ∧
          ∀ j, j < (ttOf tl ft).sz → (ttOf tl t).ck (o + j) = (ttOf tl ft).ck j
    | .array n e => (ttOf tl t).agg = true ∧ P.underlying t = some (.array n e) ∧ known tl e = true ∧ (ttOf tl t).sz = n * (ttOf tl e).sz ∧
        ∀ i j, i < n → j < (ttOf tl e).sz → (ttOf tl t).ck (i * (ttOf tl e).sz + j) = (ttOf tl e).ck j
    | .iface => ∃ ms, P.underlying t = some (.interface ms)
    | .other => True
structure Facts (P : Program) (tl : TL) : Prop where
  t : ∀ t, known tl t = true → FactT P tl t
  agg : Agg (ttOf tl)
  mix : P.follows .mixedOrders = true
  eq : ∀ t fs, fldsOf tl t = some fs → P.stoodInHeld t = false ∧ P.eqGuardType P.depth t = false ∧ ∀ fds, P.underlying t = some (.struct fds) → ∀ f ∈ fds.toList, f.name ≠ "_"

theorem known_of_desc {tl : TL} {t : TypeId} (h : (ttOf tl t).desc ≠ .other) : known tl t = true := by
  unfold known ttOf at *
  cases hl : look tl t with
  | none => rw [hl] at h; exact absurd rfl h
  | some x => rfl
theorem Facts.of {P : Program} {tl : TL} (h : Facts P tl) {t : TypeId} {d : Desc} (hd : (ttOf tl t).desc = d) (hn : d ≠ .other) : FactT P tl t := h.t t (known_of_desc (by rw [hd]; exact hn))

/-- The chain's tests have gone so. -/
def ChMet (tm : Array Value) (ch : Chain) : Prop := ∀ d c, inChain ch d c = true → tm[d]? = some (.bool c)

theorem constS_rel {tt : TT} {w : World} {F : Nat → Prop} {R : Roots} {ρ : Nat → RD} (v : Value) : SRel tt w F R ρ (constS v) v := by
  unfold constS
  split
  · rename_i k n
    cases h : inKb k n
    · trivial
    · exact GRel.int h
  · exact GRel.bool
  · rename_i s
    cases h : Nat.ble s.size MAXS
    · trivial
    · exact GRel.str (Nat.le_of_ble_eq_true h)
  · rfl
  · exact GRel.nilIface
  · exact GRel.nilFn
  · trivial

section
variable {P : Program} {tl : TL} {W : Base} {st : St} {a : Act} {w : World} {ρ : Nat → RD} {fp : Nat → Nat → Prop} {F : Nat → Prop} {ch : Chain}

theorem Rel.get (h : Rel (ttOf tl) W st a w ρ fp F) (t : Nat) : PRel (ttOf tl) w F st.roots ρ a.tmps (st.get t) (a.tmps.getD t undef) := by
  cases ht : a.tmps[t]? with
  | some v =>
    have := h.tmps t v ht
    have e : a.tmps.getD t undef = v := by simp [Array.getD_eq_getD_getElem?, ht]
    rw [e]; exact this
  | none =>
    have hs : a.tmps.size ≤ t := Array.getElem?_eq_none_iff.1 ht
    have : st.get t = PV.dead := by
      unfold St.get
      have hl := h.len
      have : Nat.blt t st.n = false := by cases h' : Nat.blt t st.n; rfl; have : t < st.n := Nat.le_of_ble_eq_true h'; omega
      rw [this]; rfl
    rw [this]; trivial

theorem Rel.evalP (h : Rel (ttOf tl) W st a w ρ fp F) (x : Operand) : PRel (ttOf tl) w F st.roots ρ a.tmps (evalO st x) (a.eval x) := by
  cases x with
  | tmp t => exact h.get t
  | const v => exact constS_rel v
  | global g => trivial
  | func f => exact GRel.fn

theorem Rel.evalA (h : Rel (ttOf tl) W st a w ρ fp F) (hch : ChMet a.tmps ch) (x : Operand) : ARel (ttOf tl) w F st.roots ρ (strip ch (evalO st x)) (a.eval x) := by
  have hp := h.evalP x
  revert hp
  cases evalO st x with
  | v y => exact fun hp => hp
  | tup l => exact fun _ => trivial
  | cnd d c y =>
    intro hp
    simp only [strip]
    cases hi : inChain ch d c with
    | false => trivial
    | true => exact hp.1 (hch d c hi)

theorem boolOf_rel {x : AV} {v : Value} {b : Bool} (h : ARel (ttOf tl) w F st.roots ρ x v) (hb : boolOf x = some b) : v = .bool b := by
  match x, hb with
  | .one (.s .bool g), hb =>
    simp only [boolOf, Option.some.injEq] at hb
    subst hb
    have h : GRel _ _ _ _ _ _ := h
    cases h; rfl
theorem intOf_rel {x : AV} {v : Value} {i : Int} (h : ARel (ttOf tl) w F st.roots ρ x v) (hb : intOf x = some i) : ∃ k, v = .int k i ∧ inK k i := by
  match x, hb with
  | .one (.s (.int k) g), hb =>
    simp only [intOf, Option.some.injEq] at hb
    subst hb
    have h : GRel _ _ _ _ _ _ := h
    cases h with
    | int hk => exact ⟨k, rfl, hk⟩

theorem ok1_eq {x : SV} {y : AV} (h : ok1 x = some (true, y)) : y = .one x := by
  simp only [ok1, Option.some.injEq, Prod.mk.injEq, true_and] at h; exact h.symm

theorem inK_wrap (k : IntKind) (n : Int) : inK k (k.wrap n) := Go.wf_wrap k n

theorem ARel.int {k : IntKind} {n : Int} (h : inK k n) : ARel (ttOf tl) w F st.roots ρ (.one (.s (.int k) (.int n))) (.int k n) := GRel.int (g := .int n) h
theorem ARel.bool {b : Bool} : ARel (ttOf tl) w F st.roots ρ (.one (.s .bool (.bool b))) (.bool b) := GRel.bool (g := .bool b)
theorem ARel.str {s : ByteArray} (h : s.size ≤ MAXS) : ARel (ttOf tl) w F st.roots ρ (.one (.s .str (.str s))) (.string s) := GRel.str (g := .str s) h

theorem inK_bounds {k : IntKind} {n : Int} (h : inK k n) : k.min ≤ n ∧ n ≤ k.max := by simpa [inK, Lit.wf] using h
theorem inK_mk {k : IntKind} {n : Int} (h1 : k.min ≤ n) (h2 : n ≤ k.max) : inK k n := by simpa [inK, Lit.wf] using ⟨h1, h2⟩

theorem inK_tmod {k : IntKind} {x y : Int} (hx : inK k x) : inK k (x.tmod y) := by
  obtain ⟨h1, h2⟩ := inK_bounds hx
  have hn : (x.tmod y).natAbs ≤ x.natAbs := by rw [Int.natAbs_tmod]; exact Nat.mod_le _ _
  have h3 : k.min ≤ 0 := by cases k <;> decide
  have h4 : 0 ≤ k.max := by cases k <;> decide
  rcases Int.le_total 0 x with hp | hn'
  · have a := Int.tmod_nonneg y hp
    exact inK_mk (by omega) (by omega)
  · have e : x.tmod y = -((-x).tmod y) := by rw [Int.neg_tmod, Int.neg_neg]
    have a := Int.tmod_nonneg y (show 0 ≤ -x by omega)
    exact inK_mk (by omega) (by omega)

theorem binInt_sound {op : BinOp} {k : IntKind} {x y : Int} {r : AV} (hx : inK k x) (h : binInt op k x y = some (true, r))
    (t : TypeId) : ∃ v, (binOp op t (.int k x) (.int k y)).run P w = .ok v w ∧ ARel (ttOf tl) w F st.roots ρ r v := by
  cases op <;> simp only [binInt, ok1, Option.some.injEq, Prod.mk.injEq, true_and, reduceCtorEq, Bool.not_eq_true', beq_eq_false_iff_ne, ne_eq] at h
  case quo =>
    obtain ⟨hy, rfl⟩ := h
    exact ⟨_, by simp only [binOp, Op.intDiv, hy, if_false, ne_eq, not_true_eq_false]; rfl, ARel.int (inK_wrap _ _)⟩
  case rem =>
    obtain ⟨hy, rfl⟩ := h
    exact ⟨_, by simp only [binOp, Op.intDiv, hy, if_false, ne_eq, not_true_eq_false]; rfl, ARel.int (inK_tmod hx)⟩
  all_goals
    subst h
    refine ⟨_, by simp only [binOp, Op.intArith, Op.intBits, Op.intCmp, ne_eq, not_true_eq_false, if_false]; rfl, ?_⟩
    first | exact ARel.int (inK_wrap _ _) | exact ARel.bool

theorem binStr_sound {op : BinOp} {x y : ByteArray} {r : AV} (h : binStr op x y = some (true, r))
    (t : TypeId) : ∃ v, (binOp op t (.string x) (.string y)).run P w = .ok v w ∧ ARel (ttOf tl) w F st.roots ρ r v := by
  cases op <;> simp only [binStr, ok1, Option.some.injEq, Prod.mk.injEq, true_and, reduceCtorEq] at h
  case add =>
    obtain ⟨hs, rfl⟩ := h
    have hs' := Nat.le_of_ble_eq_true hs
    refine ⟨.string (x ++ y), ?_, ARel.str (by simpa using hs')⟩
    have : ¬ ((x.size + y.size : Nat) : Int) > IntKind.i64.max := by
      have : IntKind.i64.max = 9223372036854775807 := by decide
      rw [this]; unfold MAXS at *; omega
    simp only [binOp, Op.stringOp]
    rw [if_neg this]; rfl
  all_goals
    subst h; exact ⟨_, rfl, ARel.bool⟩

theorem GRel.toInt {k : IntKind} {g : GV} {v : Value} (h : GRel (ttOf tl) w F (.int k) g v) : v = .int k g.asInt ∧ inK k g.asInt := by cases h with | int h => exact ⟨rfl, h⟩
theorem GRel.toBool {g : GV} {v : Value} (h : GRel (ttOf tl) w F .bool g v) : v = .bool g.asBool := by cases h; rfl
theorem GRel.toStr {g : GV} {v : Value} (h : GRel (ttOf tl) w F .str g v) : v = .string g.asStr ∧ g.asStr.size ≤ MAXS := by cases h with | str h => exact ⟨rfl, h⟩
/-- A slice read: nil, or a row. -/
theorem GRel.toSlice {e : TypeId} {g : GV} {v : Value} (h : GRel (ttOf tl) w F (.slice e) g v) :
    (v = .slice none 0 0 ∧ g.all = []) ∨ ∃ (a : Addr) (cap : Nat) (f : Nat → Nat → Value), v = .slice (some a) g.asList.length cap ∧ (g.asZ = true → g.all ≠ []) ∧ (0 < g.all.length → a.spot = none) ∧ (0 < g.all.length → F a.block) ∧ g.all.length ≤ cap ∧ cap ≤ maxLen ∧
      (∀ i j, i < g.all.length → j < (ttOf tl e).sz → w.cell? ⟨a.block, a.off + (i * (ttOf tl e).sz + j), none⟩ = some (f i j)) ∧
      (∀ i j, i < g.all.length → j < (ttOf tl e).sz → GRel (ttOf tl) w F ((ttOf tl e).ck j) (cellG (ttOf tl e).agg (nth g.all i) j) (f i j)) := by
  cases h with
  | nil h => exact .inl ⟨rfl, h⟩
  | slice a cap f hz hs hF hc hm hw hr => exact .inr ⟨a, cap, f, rfl, hz, hs, hF, hc, hm, hw, hr⟩
theorem all_nil_len {g : GV} (h : g.all = []) : g.asList.length = 0 := by
  unfold GV.all at h
  have := List.append_eq_nil_iff.1 h
  rw [this.1]; rfl

theorem run_equalIn_slice_nil {t e : TypeId} (hu : P.underlying t = some (.slice e)) (d : Nat) (b : Option Addr) (n c : Nat) :
    (Op.equalIn (d + 1) t (.slice b n c) (.slice none 0 0)).run P w = .ok b.isNone w := by
  cases b <;> simp [Op.equalIn, run_underlying hu]
theorem run_equal_slice_nil {t e : TypeId} (hu : P.underlying t = some (.slice e)) (b : Option Addr) (n c : Nat) :
    (Op.equal t (.slice b n c) (.slice none 0 0)).run P w = .ok b.isNone w := run_equalIn_slice_nil hu 9999 b n c

theorem eqRes_sound {op : BinOp} {c b : Bool} {r : AV} (h : eqRes op c b = some (true, r)) (hc : c = true → (op = .eql → ∃ v, v = Value.bool b) → True) : c = true ∧
    ((op = .eql ∧ r = .one (.s .bool (.bool b))) ∨ (op = .neq ∧ r = .one (.s .bool (.bool (!b))))) := by
  cases op <;> simp_all [eqRes]

theorem binS_sound (hP : Facts P tl) {op : BinOp} {t : TypeId} {xo yo : Operand} {x y : SV} {vx vy : Value} {r : AV} (hx : SRel (ttOf tl) w F st.roots ρ x vx) (hy : SRel (ttOf tl) w F st.roots ρ y vy)
    (h : binS tl op t yo x y = some (true, r)) :
    ∃ v, (do eqGuard op t xo yo vx vy; binOp op t vx vy : Sem Value).run P w = .ok v w ∧ ARel (ttOf tl) w F st.roots ρ r v := by
  have gInt : ∀ (k k' : IntKind) (n m : Int), (eqGuard op t xo yo (.int k n) (.int k' m)).run P w = .ok () w := by
    intro k k' n m; unfold eqGuard; cases op <;> rfl
  have gStr : ∀ (n m : ByteArray), (eqGuard op t xo yo (.string n) (.string m)).run P w = .ok () w := by
    intro n m; unfold eqGuard; cases op <;> rfl
  have gBool : ∀ (n m : Bool), (eqGuard op t xo yo (.bool n) (.bool m)).run P w = .ok () w := by
    intro n m; unfold eqGuard; cases op <;> rfl
  have gSl : ∀ (n m : Option Addr) (a b c d : Nat), (eqGuard op t xo yo (.slice n a b) (.slice m c d)).run P w = .ok () w := by
    intro n m a b c d; unfold eqGuard; cases op <;> rfl
  match x, y, h with
  | .s (.int k) g, .s (.int k') g', h =>
    obtain ⟨rfl, hkx⟩ := GRel.toInt hx
    obtain ⟨rfl, hky⟩ := GRel.toInt hy
    simp only [Sem.run_bind, gInt, Result.andThen_ok]
    by_cases hs : op = .shl ∨ op = .shr
    · have hb : ¬ (g'.asInt < 0) := by rcases hs with rfl | rfl <;> (simp [binS] at h; omega)
      rcases hs with rfl | rfl <;> simp only [binS, Option.some.injEq, Prod.mk.injEq] at h <;> obtain ⟨_, rfl⟩ := h
      · exact ⟨.int k (shlI k g.asInt g'.asInt), by simp only [binOp, Op.shift, hb, if_false]; rfl, ARel.int (inK_wrap _ _)⟩
      · refine ⟨.int k (shrI k g.asInt g'.asInt), by simp only [binOp, Op.shift, hb, if_false]; rfl, ARel.int ?_⟩
        obtain ⟨h1, h2⟩ := inK_bounds hkx
        have hp : (0 : Int) < 2 ^ min g'.asInt.toNat k.bits := Int.pow_pos (by decide)
        have h3 : k.min ≤ 0 := by cases k <;> decide
        have h4 : 0 ≤ k.max := by cases k <;> decide
        unfold shrI
        refine inK_mk ?_ ?_
        · rcases Int.le_total 0 g.asInt with hg | hg
          · have := Int.fdiv_nonneg hg (Int.le_of_lt hp); omega
          · rw [Int.fdiv_eq_ediv_of_nonneg _ (Int.le_of_lt hp)]
            have := Int.le_ediv_of_mul_le (a := g.asInt) (b := g.asInt) hp (by
              have h5 : (1 : Int) ≤ 2 ^ min g'.asInt.toNat k.bits := by omega
              have := Int.mul_le_mul_of_nonpos_left hg h5
              simpa using this)
            omega
        · rw [Int.fdiv_eq_ediv_of_nonneg _ (Int.le_of_lt hp)]
          rcases Int.le_total 0 g.asInt with hg | hg
          · have := Int.ediv_le_self (2 ^ min g'.asInt.toNat k.bits) hg; omega
          · have := Int.ediv_nonpos_of_nonpos_of_neg hg hp; omega
    · have hb : (bif decide (k = k') then binInt op k g.asInt g'.asInt else none) = some (true, r) := by
        cases op <;> first | exact h | exact absurd (.inl rfl) hs | exact absurd (.inr rfl) hs
      by_cases hk : k = k'
      · subst hk
        simp only [decide_true, cond_true] at hb
        exact binInt_sound hkx hb t
      · simp [hk] at hb
  | .s .str g, .s .str g', h =>
    obtain ⟨rfl, hkx⟩ := GRel.toStr hx
    obtain ⟨rfl, hky⟩ := GRel.toStr hy
    simp only [Sem.run_bind, gStr, Result.andThen_ok]
    exact binStr_sound h t
  | .s .bool g, .s .bool g', h =>
    obtain rfl := GRel.toBool hx
    obtain rfl := GRel.toBool hy
    simp only [Sem.run_bind, gBool, Result.andThen_ok]
    simp only [binS] at h
    cases hB : isB tl t with
    | false => rw [hB] at h; cases h
    | true =>
      rw [hB] at h
      have hu : P.underlying t = some .bool := by
        unfold isB at hB
        split at hB
        · rename_i hd
          have := (hP.of hd (by simp)).desc
          rw [hd] at this; exact this.1
        · cases hB
      obtain ⟨_, ⟨rfl, rfl⟩ | ⟨rfl, rfl⟩⟩ := eqRes_sound h (fun _ _ => trivial)
      · exact ⟨_, run_eql_bool w t _ _ hu, ARel.bool⟩
      · exact ⟨_, run_neq_bool w t _ _ hu, ARel.bool⟩
  | .s (.slice e) g, .nilS, h =>
    have hy : vy = .slice none 0 0 := hy
    subst hy
    simp only [binS] at h
    cases hB : isSl tl t with
    | false => rw [hB] at h; cases h
    | true =>
      rw [hB] at h
      have hu : ∃ e, P.underlying t = some (.slice e) := by
        unfold isSl at hB
        split at hB
        · rename_i e hd
          have := (hP.of hd (by simp)).desc
          rw [hd] at this; exact ⟨e, this.1⟩
        · cases hB
      obtain ⟨e', hu⟩ := hu
      obtain ⟨hz, hr⟩ := eqRes_sound h (fun _ _ => trivial)
      have key : ∃ b n c, vx = .slice b n c ∧ b.isNone = g.all.isEmpty := by
        rcases GRel.toSlice hx with ⟨rfl, hn⟩ | ⟨a, cap, f, rfl, hz', _⟩
        · exact ⟨none, 0, 0, rfl, by simp [hn]⟩
        · refine ⟨_, _, _, rfl, ?_⟩
          have := hz' hz
          cases hg : g.all with
          | nil => exact absurd hg this
          | cons x l => rfl
      obtain ⟨b, n, c, rfl, hbn⟩ := key
      simp only [Sem.run_bind, gSl, Result.andThen_ok]
      rcases hr with ⟨rfl, rfl⟩ | ⟨rfl, rfl⟩
      · refine ⟨.bool b.isNone, ?_, by rw [hbn]; exact ARel.bool⟩
        simp only [binOp, Sem.run_bind, run_equal_slice_nil hu, Result.andThen_ok]; rfl
      · refine ⟨.bool (!b.isNone), ?_, by rw [hbn]; exact ARel.bool⟩
        simp only [binOp, Sem.run_bind, run_equal_slice_nil hu, Result.andThen_ok]; rfl
  | .s .iface g, .s .iface .nil, h =>
    have hy : vy = .nilIface := by have hy : GRel _ _ _ _ _ _ := hy; cases hy; rfl
    subst hy
    have h1 : (bif isConst yo && isIf tl t then (isNilG g).bind (eqRes op true) else none) = some (true, r) := h
    clear h
    cases hB : isConst yo && isIf tl t with
    | false => rw [hB] at h1; cases h1
    | true =>
      rw [hB] at h1
      simp only [Bool.and_eq_true] at hB
      have hu : ∃ ms, P.underlying t = some (.interface ms) := by
        have hB := hB.2
        unfold isIf at hB
        split at hB
        · rename_i hd
          have := (hP.of hd (by simp)).desc
          rw [hd] at this; exact this
        · cases hB
      obtain ⟨ms, hu⟩ := hu
      have gI : ∀ v, (eqGuard op t xo yo v .nilIface).run P w = .ok () w := by
        intro v
        have hB := hB.1
        unfold isConst at hB
        split at hB
        · unfold eqGuard
          cases op <;> try rfl
          all_goals (cases v <;> first | rfl | simp)
        · cases hB
      simp only [Sem.run_bind, gI, Result.andThen_ok]
      have hx : GRel _ _ _ _ _ _ := hx
      have key : ∀ d, (∃ c, isNilG g = some c ∧ (Op.equalIn (d + 1) t vx .nilIface).run P w = .ok c w) := by
        intro d
        cases hx with
        | nilIface => exact ⟨true, rfl, by simp [Op.equalIn, run_underlying hu]⟩
        | ifaceS => exact ⟨false, rfl, by simp [Op.equalIn, run_underlying hu]⟩
        | ifaceA => exact ⟨false, rfl, by simp [Op.equalIn, run_underlying hu]⟩
      obtain ⟨c, hc, hrun⟩ := key 9999
      have hrun : (Op.equal t vx .nilIface).run P w = .ok c w := hrun
      rw [hc] at h1
      simp only [cond_true, Option.bind_some] at h1
      obtain ⟨_, ⟨rfl, rfl⟩ | ⟨rfl, rfl⟩⟩ := eqRes_sound h1 (fun _ _ => trivial)
      · refine ⟨.bool c, ?_, ARel.bool⟩
        have : binOp .eql t vx .nilIface = (do pure (.bool (← Op.equal t vx .nilIface))) := by cases hx <;> rfl
        rw [this]; simp only [Sem.run_bind, hrun, Result.andThen_ok]; rfl
      · refine ⟨.bool !c, ?_, ARel.bool⟩
        have : binOp .neq t vx .nilIface = (do pure (.bool (!(← Op.equal t vx .nilIface)))) := by cases hx <;> rfl
        rw [this]; simp only [Sem.run_bind, hrun, Result.andThen_ok]; rfl

theorem unA_sound {op : UnOp} {x : AV} {vx : Value} {r : AV} (hx : ARel (ttOf tl) w F st.roots ρ x vx) (h : unA op x = some (true, r)) :
    ∃ v, (Op.unary op vx).run P w = .ok v w ∧ ARel (ttOf tl) w F st.roots ρ r v := by
  match x, h with
  | .one (.s .bool g), h =>
    obtain rfl := GRel.toBool hx
    cases op <;> simp only [unA, ok1, Option.some.injEq, Prod.mk.injEq, true_and, reduceCtorEq] at h
    subst h; exact ⟨_, rfl, ARel.bool⟩
  | .one (.s (.int k) g), h =>
    obtain ⟨rfl, hk⟩ := GRel.toInt hx
    cases op <;> simp only [unA, ok1, Option.some.injEq, Prod.mk.injEq, true_and, reduceCtorEq] at h
    all_goals subst h; exact ⟨_, rfl, ARel.int (inK_wrap _ _)⟩

end
end Go.Eng

/- That the machine does what the steps say: reading memory. Of no program. -/
namespace Go.Eng
set_option linter.unusedVariables false
set_option linter.unusedSimpArgs false
open Go.RowKit

theorem add_plain (b n j : Nat) : (⟨b, n, none⟩ : Addr).add j = ⟨b, n + j, none⟩ := by
  unfold Addr.add; split
  · rename_i h; subst h; rfl
  · rfl

theorem okP_addOff {tt : TT} {o : Nat} {e : TypeId} {l : List GV} {p : Path} {j : Nat} (h : okP tt o e l p) (hj : lastOff p + j < (tt (lastE tt e p)).sz) : okP tt o e l (addOff p j) := by
  match p with
  | [] => exact h.elim
  | [(i, j0)] => exact ⟨h.1, h.2.1, hj⟩
  | (i, j0) :: q :: r =>
    obtain ⟨h1, h2, h3, h4⟩ := h
    have : ∃ q' r', addOff (q :: r) j = q' :: r' := by
      cases r with
      | nil => obtain ⟨a, b⟩ := q; exact ⟨_, _, rfl⟩
      | cons x y => exact ⟨_, _, rfl⟩
    obtain ⟨q', r', hq⟩ := this
    show okP tt o e l ((i, j0) :: addOff (q :: r) j)
    rw [hq]
    refine ⟨h1, h2, h3, ?_⟩
    cases hk : (tt e).ck j0 with
    | slice e' =>
      rw [hk] at h4
      dsimp only at h4 ⊢
      rw [← hq]
      refine okP_addOff h4 ?_
      simp only [lastE, hk, lastOff] at hj; exact hj
    | _ => rw [hk] at h4; exact h4.elim

theorem placeOf_addOff {tt : TT} {w : World} {p : Path} {j : Nat} : ∀ {b : Nat} {e : TypeId} {b1 n1 : Nat}, placeOf tt w b e p = some (b1, n1) → placeOf tt w b e (addOff p j) = some (b1, n1 + j) := by
  match p with
  | [] => intro b e b1 n1 h; simp [placeOf] at h
  | [(i, j0)] =>
    intro b e b1 n1 h
    simp only [placeOf, Option.some.injEq, Prod.mk.injEq] at h
    obtain ⟨rfl, rfl⟩ := h
    simp only [addOff, placeOf, Nat.add_assoc]
  | (i, j0) :: q :: r =>
    intro b e b1 n1 h
    have : ∃ q' r', addOff (q :: r) j = q' :: r' := by
      cases r with
      | nil => obtain ⟨a, b⟩ := q; exact ⟨_, _, rfl⟩
      | cons x y => exact ⟨_, _, rfl⟩
    obtain ⟨q', r', hq⟩ := this
    show placeOf tt w b e ((i, j0) :: addOff (q :: r) j) = _
    rw [hq]
    simp only [placeOf] at h ⊢
    split at h
    · rw [← hq]; exact placeOf_addOff h
    · cases h

theorem addOff_ne {p : Path} {j : Nat} (h : p ≠ []) : ∃ q r, addOff p j = q :: r := by
  match p with
  | [] => exact absurd rfl h
  | [(i, j0)] => exact ⟨_, _, rfl⟩
  | x :: q :: r => exact ⟨_, _, rfl⟩

theorem okP_ne {tt : TT} {o : Nat} {e : TypeId} {l : List GV} {p : Path} (h : okP tt o e l p) : p ≠ [] := by
  rintro rfl; exact h

section
variable {P : Program} {tl : TL} {W : Base} {st : St} {a : Act} {w : World} {ρ : Nat → RD} {fp : Nat → Nat → Prop} {F : Nat → Prop} {ch : Chain}

theorem rootLst_eq {r o : Nat} {e : TypeId} {l : List GV} (h : rootLst st r = some (o, e, l)) : ∃ rt, getR st.roots r = some rt ∧ rt.lst = some (o, e, l) := by
  unfold rootLst at h
  cases hg : getR st.roots r with
  | none => rw [hg] at h; cases h
  | some rt => rw [hg] at h; exact ⟨rt, rfl, h⟩

/-- An address of ours: where it leads. -/
theorem ptr_place {r o : Nat} {e : TypeId} {l : List GV} {p : Path} {v : Value} (hx : SRel (ttOf tl) w F st.roots ρ (.ptr r p) v) (hl : rootLst st r = some (o, e, l)) :
    ∃ rt b1 n1, getR st.roots r = some rt ∧ rt.lst = some (o, e, l) ∧ okP (ttOf tl) o e l p ∧ placeR (ttOf tl) w e (ρ r) p = some (b1, n1) ∧ v = .pointer (some ⟨b1, n1, none⟩) := by
  obtain ⟨rt, hg, hlst⟩ := rootLst_eq hl
  match p with
  | [] => obtain ⟨rt, o, e0, l, b1, n1, h1, h2, h3, h5, h6⟩ := hx; exact h3.elim
  | [(i, j)] =>
    obtain ⟨rt', b, h1, h2, h3, h4, h5, h6⟩ := hx
    obtain rfl : rt' = rt := by rw [hg] at h1; exact (Option.some.inj h1).symm
    have hs := Root.shape_lst hlst
    rw [hs] at h3 h4 h5 h6
    exact ⟨rt', b, _, hg, hlst, ⟨h3, h4, h5⟩, by simp [placeR, h2, placeOf], h6⟩
  | q :: q' :: p =>
    obtain ⟨rt', o', e', l', b1, n1, h1, h2, h3, h5, h6⟩ := hx
    obtain rfl : rt' = rt := by rw [hg] at h1; exact (Option.some.inj h1).symm
    rw [hlst] at h2
    simp only [Option.some.injEq, Prod.mk.injEq] at h2
    obtain ⟨rfl, rfl, rfl⟩ := h2
    exact ⟨rt', b1, n1, hg, hlst, h3, h5, h6⟩

theorem CellOwn.plainG {tt : TT} {w : World} {F : Nat → Prop} {o : Nat} {k : CK} {g : GV} {v : Value} {S : Nat → Prop} (h : CellOwn tt w F o k g v S) (hk : ∀ e, k ≠ .slice e) : GRel tt w F k g v := by
  rcases h with ⟨_, h⟩ | ⟨_, h, _⟩
  · cases h with
    | plain h _ => exact h
    | nil => exact absurd rfl (hk _)
    | shallow => exact absurd rfl (hk _)
    | deep => exact absurd rfl (hk _)
  · exact h

/-- A place of ours, read. -/
theorem place_cell (hP : Facts P tl) (h : Rel (ttOf tl) W st a w ρ fp F) {r o : Nat} {e : TypeId} {l : List GV} {p : Path} {rt : Root} {b1 n1 : Nat}
    (hg : getR st.roots r = some rt) (hlst : rt.lst = some (o, e, l)) (hok : okP (ttOf tl) o e l p) (hpl : placeR (ttOf tl) w e (ρ r) p = some (b1, n1)) :
    ∃ v1, w.cell? ⟨b1, n1, none⟩ = some v1 ∧ ∀ bx, SRel (ttOf tl) w F st.roots ρ (cellSV bx (kP (ttOf tl) e p) r p (getP (ttOf tl) e l p)) v1 := by
  obtain ⟨b, cap, hb, hrow⟩ := (h.root r rt hg).rowOwn hlst hok
  obtain ⟨b2, n2, v1, S1, f1, f2, f3, f4, f5, f6, f7, f8, _⟩ := RowOwn.focus (ttOf tl) hP.agg w F p o b cap e l (fp r) hrow hok
  have hpl' : placeR (ttOf tl) w e (ρ r) p = some (b2, n2) := by simp only [placeR, hb, Option.bind_some, f7]
  obtain ⟨rfl, rfl⟩ : b1 = b2 ∧ n1 = n2 := by rw [hpl] at hpl'; simpa using hpl'
  refine ⟨v1, f1, fun bx => ?_⟩
  unfold cellSV
  cases hk : kP (ttOf tl) e p with
  | slice e' =>
    cases p with
    | nil => exact hok.elim
    | cons q p =>
      simp only []
      cases hz : bx && Nat.beq (getP (ttOf tl) e l (q :: p)).asOwn 0 with
      | false => exact ⟨rt, o, e, l, b1, n1, hg, hlst, hok, hk, hpl, f1⟩
      | true =>
        rw [Bool.and_eq_true] at hz
        have hz := Nat.eq_of_beq_eq_true hz.2
        rw [hk] at f3
        have : GRel (ttOf tl) w F (.slice e') (getP (ttOf tl) e l (q :: p)) v1 := by
          rcases f3 with ⟨_, f3⟩ | ⟨_, f3, _⟩
          · cases f3 with
            | plain h _ => exact h
            | nil h => exact .nil h
            | shallow b cap cur f hz' ho => omega
            | deep b cap cur f Sf hz' ho => omega
          · exact f3
        exact this
  | _ => rw [hk] at f3; exact f3.plainG (by simp)

theorem run_isAgg (hP : Facts P tl) {t : TypeId} (ht : known tl t = true) : (isAgg t).run P w = .ok (ttOf tl t).agg w := by
  obtain ⟨d, hd, hiff, _⟩ := (hP.t t ht).agg
  unfold isAgg
  simp only [Sem.run_bind, run_underlying hd, Result.andThen_ok]
  cases hag : (ttOf tl t).agg with
  | true =>
    rcases hiff.1 hag with ⟨fs, rfl⟩ | ⟨n, e, rfl⟩ <;> rfl
  | false =>
    have : ¬ ((∃ fs, d = .struct fs) ∨ ∃ n e, d = .array n e) := fun h => by rw [hiff.2 h] at hag; cases hag
    cases d <;> first | rfl | exact absurd (.inl ⟨_, rfl⟩) this | exact absurd (.inr ⟨_, _, rfl⟩) this

theorem run_sizeOf' (hP : Facts P tl) {t : TypeId} (ht : known tl t = true) : (sizeOf t).run P w = .ok (ttOf tl t).sz w := by
  obtain ⟨i, hi, hs, _⟩ := (hP.t t ht).info
  simp [sizeOf, typeInfo, hi, hs]

theorem run_loadVar' (hP : Facts P tl) {t : TypeId} (ht : known tl t = true) (b n : Nat) (f : Nat → Value) (hf : ∀ j, j < (ttOf tl t).sz → w.cell? ⟨b, n + j, none⟩ = some (f j)) :
    (loadVar t ⟨b, n, none⟩).run P w = .ok (bif (ttOf tl t).agg then .agg ((List.range (ttOf tl t).sz).map f).toArray else f 0) w := by
  unfold loadVar
  simp only [Sem.run_bind, run_isAgg hP ht, Result.andThen_ok]
  cases hag : (ttOf tl t).agg with
  | true =>
    have := run_loadCells (P := P) w ⟨b, n, none⟩ (ttOf tl t).sz f (fun j hj => by rw [add_plain]; exact hf j hj)
    simp only [if_true, Sem.run_bind, run_sizeOf' hP ht, Result.andThen_ok, this, cond_true]
    rfl
  | false =>
    have h1 := (hP.t t ht).one hag
    have := hf 0 (by omega)
    simp only [Nat.add_zero] at this
    simp [this]

theorem getElem?_rangeMap {α : Type} (n : Nat) (f : Nat → α) (j : Nat) : ((List.range n).map f)[j]? = if j < n then some (f j) else none := by
  rw [List.getElem?_map]
  by_cases h : j < n
  · simp [h]
  · simp [h]

theorem loadP_sound (hP : Facts P tl) (h : Rel (ttOf tl) W st a w ρ fp F) {t : TypeId} {r : Nat} {p : Path} {v : Value} {x : AV} (hx : SRel (ttOf tl) w F st.roots ρ (.ptr r p) v)
    (hl : loadP tl st t r p = some (true, x)) : ∃ u, (Instr.loadAt t v).run P w = .ok u w ∧ ARel (ttOf tl) w F st.roots ρ x u := by
  unfold loadP at hl
  cases hr : rootLst st r with
  | none => rw [hr] at hl; cases hl
  | some q =>
    obtain ⟨o, e, l⟩ := q
    rw [hr] at hl
    dsimp only at hl
    obtain ⟨rt, b1, n1, hg, hlst, hok, hpl, rfl⟩ := ptr_place hx hr
    cases ht : known tl t with
    | false => rw [ht] at hl; cases hl
    | true =>
      rw [ht] at hl
      simp only [cond_true, Option.some.injEq, Prod.mk.injEq] at hl
      obtain ⟨hsz, hl⟩ := hl
      have hsz := Nat.le_of_ble_eq_true hsz
      obtain ⟨b, cap, hb, _⟩ := (h.root r rt hg).rowOwn hlst hok
      have hpo : placeOf (ttOf tl) w b e p = some (b1, n1) := by simpa [placeR, hb] using hpl
      have hcell : ∀ j, ∃ v1, j < (ttOf tl t).sz → w.cell? ⟨b1, n1 + j, none⟩ = some v1 ∧
          SRel (ttOf tl) w F st.roots ρ (cellSV (boxP st r p) (kP (ttOf tl) e (addOff p j)) r (addOff p j) (getP (ttOf tl) e l (addOff p j))) v1 := by
        intro j
        by_cases hj : j < (ttOf tl t).sz
        · have hok' := okP_addOff hok (j := j) (by omega)
          obtain ⟨v1, g1, g2⟩ := place_cell hP h hg hlst hok' (by simp only [placeR, hb, Option.bind_some]; exact placeOf_addOff hpo)
          exact ⟨v1, fun _ => ⟨g1, g2 _⟩⟩
        · exact ⟨default, fun h => absurd h hj⟩
      obtain ⟨f, hf⟩ := Classical.axiomOfChoice hcell
      refine ⟨_, by simp only [Instr.loadAt, Instr.sureAddr, Sem.run_bind, Sem.run_pure, Result.andThen_ok]; exact run_loadVar' hP ht b1 n1 f (fun j hj => (hf j hj).1), ?_⟩
      subst hl
      cases hag : (ttOf tl t).agg with
      | true =>
        refine ⟨_, rfl, by simp, fun j s u hs hu => ?_⟩
        rw [getElem?_rangeMap] at hs
        simp only [List.getElem?_toArray, getElem?_rangeMap] at hu
        split at hs
        · rename_i hj
          rw [if_pos hj] at hu
          simp only [Option.some.injEq] at hs hu
          subst hs; subst hu
          exact (hf j hj).2
        · cases hs
      | false =>
        have := (hP.t t ht).one hag
        exact (hf 0 (by omega)).2

theorem loadE_sound (hP : Facts P tl) {t e : TypeId} {g : GV} {off : Nat} {v : Value} {x : AV} (hx : SRel (ttOf tl) w F st.roots ρ (.eptr e g off) v)
    (hl : loadE tl t e g off = some (true, x)) : ∃ u, (Instr.loadAt t v).run P w = .ok u w ∧ ARel (ttOf tl) w F st.roots ρ x u := by
  unfold loadE at hl
  dsimp only at hl
  cases hc : known tl t && Nat.ble (off + (ttOf tl t).sz) (ttOf tl e).sz with
  | false => rw [hc] at hl; cases hl
  | true =>
    rw [hc] at hl
    simp only [Bool.and_eq_true] at hc
    obtain ⟨ht, hsz⟩ := hc
    have hsz := Nat.le_of_ble_eq_true hsz
    obtain ⟨ad, f, hsp, hF, hcell, hg, rfl⟩ := hx
    refine ⟨_, by
      simp only [Instr.loadAt, Instr.sureAddr, Sem.run_bind, Sem.run_pure, Result.andThen_ok]
      exact run_loadVar' hP ht ad.block (ad.off + off) (fun j => f (off + j)) (fun j hj => by rw [Nat.add_assoc]; exact hcell (off + j) (by omega)), ?_⟩
    simp only [cond_true] at hl
    cases hag : (ttOf tl t).agg with
    | true =>
      rw [hag] at hl
      simp only [cond_true] at hl
      cases h0 : Nat.beq off 0 && Nat.beq t e with
      | true =>
        rw [h0] at hl
        simp only [Bool.and_eq_true] at h0
        have e1 := Nat.eq_of_beq_eq_true h0.1
        have e2 := Nat.eq_of_beq_eq_true h0.2
        subst e1; subst e2
        simp only [cond_true, Option.some.injEq, Prod.mk.injEq, true_and] at hl
        subst hl
        refine ⟨hag, _, rfl, by simp, fun j u hu => ?_⟩
        simp only [List.getElem?_toArray, getElem?_rangeMap] at hu
        split at hu
        · rename_i hj
          simp only [Option.some.injEq, Nat.zero_add] at hu
          subst hu
          have := hg j hj
          rw [hag] at this; exact this
        · cases hu
      | false =>
        rw [h0] at hl
        simp only [cond_false, Option.some.injEq, Prod.mk.injEq, true_and] at hl
        subst hl
        refine ⟨_, rfl, by simp, fun j s u hs hu => ?_⟩
        rw [getElem?_rangeMap] at hs
        simp only [List.getElem?_toArray, getElem?_rangeMap] at hu
        split at hs
        · rename_i hj
          rw [if_pos hj] at hu
          simp only [Option.some.injEq] at hs hu
          subst hs; subst hu
          exact hg (off + j) (by omega)
        · cases hs
    | false =>
      rw [hag] at hl
      simp only [cond_false, Option.some.injEq, Prod.mk.injEq, true_and] at hl
      subst hl
      have h1 := (hP.t t ht).one hag
      exact hg off (by omega)

theorem loadC_sound (hP : Facts P tl) {t : TypeId} {r : Nat} {cs : List CV} {off : Nat} {v : Value} {x : AV} (hx : SRel (ttOf tl) w F st.roots ρ (.aptr r cs off) v)
    (hl : loadC tl t r cs off = some (true, x)) : ∃ u, (Instr.loadAt t v).run P w = .ok u w ∧ ARel (ttOf tl) w F st.roots ρ x u := by
  unfold loadC at hl
  cases hc : known tl t && Nat.ble (off + (ttOf tl t).sz) cs.length with
  | false => rw [hc] at hl; cases hl
  | true =>
    rw [hc] at hl
    simp only [Bool.and_eq_true] at hc
    obtain ⟨ht, hsz⟩ := hc
    have hsz := Nat.le_of_ble_eq_true hsz
    obtain ⟨ad, f, rt, hrt, hsp, hF, hcell, hg, rfl⟩ := hx
    have hat : ∀ j, j < cs.length → SRel (ttOf tl) w F st.roots ρ ((cs.getD j default).sv r) (f j) := by
      intro j hj
      have := (hg j (cs.getD j default) (by rw [List.getD_eq_getElem?_getD, List.getElem?_eq_getElem hj]; rfl)).sv
      exact this
    refine ⟨_, by
      simp only [Instr.loadAt, Instr.sureAddr, Sem.run_bind, Sem.run_pure, Result.andThen_ok]
      exact run_loadVar' hP ht ad.block (ad.off + off) (fun j => f (off + j)) (fun j hj => by rw [Nat.add_assoc]; exact hcell (off + j) (by omega)), ?_⟩
    simp only [cond_true] at hl
    cases hag : (ttOf tl t).agg with
    | true =>
      rw [hag] at hl
      simp only [cond_true, Option.some.injEq, Prod.mk.injEq, true_and] at hl
      subst hl
      refine ⟨_, rfl, by simp, fun j s u hs hu => ?_⟩
      rw [getElem?_rangeMap] at hs
      simp only [List.getElem?_toArray, getElem?_rangeMap] at hu
      split at hs
      · rename_i hj
        rw [if_pos hj] at hu
        simp only [Option.some.injEq] at hs hu
        subst hs; subst hu
        exact hat (off + j) (by omega)
      · cases hs
    | false =>
      rw [hag] at hl
      simp only [cond_false, Option.some.injEq, Prod.mk.injEq, true_and] at hl
      subst hl
      have h1 := (hP.t t ht).one hag
      exact hat off (by omega)

theorem loadA_sound (hP : Facts P tl) (h : Rel (ttOf tl) W st a w ρ fp F) {t : TypeId} {y x : AV} {v : Value} (hx : ARel (ttOf tl) w F st.roots ρ y v)
    (hl : loadA tl st t y = some (true, x)) : ∃ u, (Instr.loadAt t v).run P w = .ok u w ∧ ARel (ttOf tl) w F st.roots ρ x u := by
  match y, hl with
  | .one (.ptr r p), hl => exact loadP_sound hP h hx hl
  | .one (.eptr e g off), hl => exact loadE_sound hP hx hl
  | .one (.aptr r cs off), hl => exact loadC_sound hP hx hl

theorem fieldOf_fact (hP : Facts P tl) {s : TypeId} {f o : Nat} {ft : TypeId} (h : fieldOf tl s f = some (o, ft)) : (ttOf tl s).agg = true ∧ known tl s = true ∧ ∃ (fields : Array Go.Field) (fd : Go.Field),
    P.underlying s = some (.struct fields) ∧ fields[f]? = some fd ∧ fd.offset = o ∧ fd.type = ft ∧ known tl ft = true ∧ o + (ttOf tl ft).sz ≤ (ttOf tl s).sz ∧
    ∀ j, j < (ttOf tl ft).sz → (ttOf tl s).ck (o + j) = (ttOf tl ft).ck j := by
  unfold fieldOf at h
  split at h
  · rename_i fs hd
    have hf := hP.of hd (by simp)
    have := hf.desc
    rw [hd] at this
    obtain ⟨h1, fields, h2, _, h3⟩ := this
    obtain ⟨fd, h4, h5⟩ := h3 f o ft h
    exact ⟨h1, known_of_desc (by rw [hd]; simp), fields, fd, h2, h4, h5⟩
  · cases h

theorem run_fieldAt (hP : Facts P tl) {s : TypeId} {f o : Nat} {ft : TypeId} (h : fieldOf tl s f = some (o, ft)) (hz : 1 ≤ (ttOf tl ft).sz) (b n : Nat) :
    (Instr.fieldAt s (.pointer (some ⟨b, n, none⟩)) f).run P w = .ok (.pointer (some ⟨b, n + o, none⟩)) w := by
  obtain ⟨_, _, fields, fd, h2, h4, h5, h6, h7, _⟩ := fieldOf_fact hP h
  subst h5; subst h6
  have hne : ¬ (ttOf tl fd.type).sz = 0 := by omega
  simp [Instr.fieldAt, run_underlying h2, h4, Instr.sureAddr, fieldPlace, run_sizeOf' hP h7, hne, add_plain]

/-- An address further on in the same element. -/
theorem ptr_further {r : Nat} {p : Path} {v : Value} {o : Nat} {e : TypeId} {l : List GV} {oo : Nat} {b1 n1 : Nat} {rt : Root}
    (hg : getR st.roots r = some rt) (hlst : rt.lst = some (oo, e, l)) (hok : okP (ttOf tl) oo e l p) (hpl : placeR (ttOf tl) w e (ρ r) p = some (b1, n1))
    (hlt : lastOff p + o < (ttOf tl (lastE (ttOf tl) e p)).sz) (hv : v = .pointer (some ⟨b1, n1 + o, none⟩)) : SRel (ttOf tl) w F st.roots ρ (.ptr r (addOff p o)) v := by
  have hok' := okP_addOff hok hlt
  have hpl' : placeR (ttOf tl) w e (ρ r) (addOff p o) = some (b1, n1 + o) := by
    unfold placeR at *
    cases hb : (ρ r).base with
    | none => rw [hb] at hpl; cases hpl
    | some b => rw [hb] at hpl; exact placeOf_addOff hpl
  match p, hok with
  | [], hok => exact hok.elim
  | [(i, j)], hok =>
    have hs := Root.shape_lst hlst
    simp only [addOff] at hpl' hok' ⊢
    obtain ⟨b, hb⟩ : ∃ b, (ρ r).base = some b := by
      unfold placeR at hpl'
      cases hb : (ρ r).base with
      | none => rw [hb] at hpl'; cases hpl'
      | some b => exact ⟨b, rfl⟩
    simp only [placeR, hb, Option.bind_some, placeOf, Option.some.injEq, Prod.mk.injEq] at hpl'
    obtain ⟨rfl, hn⟩ := hpl'
    refine ⟨rt, b, hg, hb, ?_, ?_, ?_, ?_⟩
    · rw [hs]; exact hok'.1
    · rw [hs]; exact hok'.2.1
    · rw [hs]; exact hok'.2.2
    · rw [hs, hv, hn]
  | q :: q' :: p, hok =>
    obtain ⟨q2, r2, hq⟩ := addOff_ne (p := q' :: p) (j := o) (by simp)
    have hadd : addOff (q :: q' :: p) o = q :: q2 :: r2 := by show q :: addOff (q' :: p) o = _; rw [hq]
    rw [hadd] at hok' hpl' ⊢
    exact ⟨rt, oo, e, l, b1, n1 + o, hg, hlst, hok', hpl', hv⟩

theorem fieldAddrA_sound (hP : Facts P tl) {s : TypeId} {f : Nat} {y x : AV} {v : Value} (hx : ARel (ttOf tl) w F st.roots ρ y v)
    (hl : fieldAddrA tl st s f y = some (true, x)) : ∃ u, (Instr.fieldAt s v f).run P w = .ok u w ∧ ARel (ttOf tl) w F st.roots ρ x u := by
  match y, hl with
  | .one (.ptr r [(i, j)]), hl =>
    unfold fieldAddrA at hl
    cases hf : fieldOf tl s f with
    | none => simp [hf] at hl
    | some q =>
      obtain ⟨o, ft⟩ := q
      obtain ⟨rt, b, h1, h2, h3, h4, h5, rfl⟩ := hx
      have hsh : rootShape st r = some rt.shape := by simp [rootShape, h1]
      simp only [hf, hsh] at hl
      generalize hrs : rt.shape = sh at hl h3 h4 h5
      obtain ⟨oo, e, n⟩ := sh
      simp only [Option.some.injEq, Prod.mk.injEq, Bool.and_eq_true] at hl
      obtain ⟨⟨hz, hlt⟩, rfl⟩ := hl
      have hz := Nat.le_of_ble_eq_true hz
      have hlt : j + o < (ttOf tl e).sz := Nat.le_of_ble_eq_true hlt
      exact ⟨_, run_fieldAt hP hf hz b _, rt, b, h1, h2, by rw [hrs]; exact h3, by rw [hrs]; exact h4, by rw [hrs]; exact hlt, by rw [hrs]; simp [Nat.add_assoc]⟩
  | .one (.ptr r []), hl => obtain ⟨rt, o, e0, l, b1, n1, h1, h2, h3, h5, h6⟩ := hx; exact h3.elim
  | .one (.ptr r (q1 :: q2 :: p)), hl =>
    have hx : SRel (ttOf tl) w F st.roots ρ (.ptr r (q1 :: q2 :: p)) v := hx
    unfold fieldAddrA at hl
    cases hf : fieldOf tl s f with
    | none => simp [hf] at hl
    | some q =>
      obtain ⟨o, ft⟩ := q
      cases hr : rootLst st r with
      | none => simp [hf, hr] at hl
      | some q =>
        obtain ⟨oo, e, l⟩ := q
        simp only [hf, hr] at hl
        obtain ⟨rt, b1, n1, hg, hlst, hok, hpl, rfl⟩ := ptr_place hx hr
        simp only [Option.some.injEq, Prod.mk.injEq, Bool.and_eq_true] at hl
        obtain ⟨⟨h1, h2⟩, rfl⟩ := hl
        have h1 := Nat.le_of_ble_eq_true h1
        have h2 : lastOff (q1 :: q2 :: p) + o < (ttOf tl (lastE (ttOf tl) e (q1 :: q2 :: p))).sz := Nat.le_of_ble_eq_true h2
        exact ⟨_, run_fieldAt hP hf h1 b1 n1, ptr_further hg hlst hok hpl h2 rfl⟩
  | .one (.eptr e g off), hl =>
    unfold fieldAddrA at hl
    cases hf : fieldOf tl s f with
    | none => simp [hf] at hl
    | some q =>
      obtain ⟨o, ft⟩ := q
      simp only [hf] at hl
      cases hc : Nat.ble 1 (ttOf tl ft).sz with
      | false => rw [hc] at hl; cases hl
      | true =>
        rw [hc] at hl
        simp only [cond_true, ok1, Option.some.injEq, Prod.mk.injEq, true_and] at hl
        subst hl
        obtain ⟨ad, ff, hsp, hF, hcell, hg, rfl⟩ := hx
        exact ⟨_, run_fieldAt hP hf (Nat.le_of_ble_eq_true hc) _ _, ad, ff, hsp, hF, hcell, hg, by simp [Nat.add_assoc]⟩
  | .one (.aptr r cs off), hl =>
    unfold fieldAddrA at hl
    cases hf : fieldOf tl s f with
    | none => simp [hf] at hl
    | some q =>
      obtain ⟨o, ft⟩ := q
      simp only [hf] at hl
      cases hc : Nat.ble 1 (ttOf tl ft).sz with
      | false => rw [hc] at hl; cases hl
      | true =>
        rw [hc] at hl
        simp only [cond_true, ok1, Option.some.injEq, Prod.mk.injEq, true_and] at hl
        subst hl
        obtain ⟨ad, ff, rt, hrt, hsp, hF, hcell, hg, rfl⟩ := hx
        exact ⟨_, run_fieldAt hP hf (Nat.le_of_ble_eq_true hc) _ _, ad, ff, rt, hrt, hsp, hF, hcell, hg, by simp [Nat.add_assoc]⟩

theorem cellsA_rel {x : AV} {l : List SV} {v : Value} (hx : ARel (ttOf tl) w F st.roots ρ x v) (h : cellsA tl x = some l) :
    ∃ cs : Array Value, v = .agg cs ∧ cs.size = l.length ∧ ∀ (j : Nat) s u, l[j]? = some s → cs[j]? = some u → SRel (ttOf tl) w F st.roots ρ s u := by
  match x, h with
  | .agg l', h => simp only [cellsA, Option.some.injEq] at h; subst h; exact hx
  | .a t g, h =>
    simp only [cellsA, Option.some.injEq] at h; subst h
    obtain ⟨_, cs, rfl, hs, hr⟩ := hx
    refine ⟨cs, rfl, by simpa using hs, fun j s u hsj hu => ?_⟩
    rw [getElem?_rangeMap] at hsj
    split at hsj
    · simp only [Option.some.injEq] at hsj; subst hsj; exact hr j u hu
    · cases hsj

theorem run_part (hP : Facts P tl) {t : TypeId} (ht : known tl t = true) (cs : Array Value) (o : Nat) (ho : o + (ttOf tl t).sz ≤ cs.size) :
    ∃ u, (part t cs o).run P w = .ok u w ∧ (((ttOf tl t).agg = true ∧ u = .agg (cs.extract o (o + (ttOf tl t).sz))) ∨ ((ttOf tl t).agg = false ∧ cs[o]? = some u)) := by
  unfold part
  simp only [Sem.run_bind, run_isAgg hP ht, Result.andThen_ok]
  cases hag : (ttOf tl t).agg with
  | true => exact ⟨_, by simp [run_sizeOf' hP ht], .inl ⟨rfl, rfl⟩⟩
  | false =>
    have h1 := (hP.t t ht).one hag
    have : o < cs.size := by omega
    refine ⟨cs[o], ?_, .inr ⟨rfl, by simp [this]⟩⟩
    simp [this]

theorem intAt_spec {cells : List CK} : ∀ {l : List SV} {j : Nat} {gs : List GV}, intAt cells l j = some gs → gs.length = l.length ∧ ∀ (i : Nat) s, l[i]? = some s → s = .s (cells.getD (j + i) .other) (gs.getD i .moved) := by
  intro l
  induction l with
  | nil =>
    intro j gs h
    simp only [intAt, Option.some.injEq] at h
    subst h
    exact ⟨rfl, fun i s h => by simp at h⟩
  | cons x l ih =>
    intro j gs h
    cases x with
    | s k g =>
      simp only [intAt] at h
      by_cases hk : k = cells.getD j .other
      · rw [decide_eq_true hk] at h
        simp only [cond_true, Option.map_eq_some_iff] at h
        obtain ⟨gs', h', rfl⟩ := h
        obtain ⟨i1, i2⟩ := ih h'
        refine ⟨by simp [i1], fun i s hs => ?_⟩
        cases i with
        | zero => simp only [List.getElem?_cons_zero, Option.some.injEq] at hs; subst hs; rw [Nat.add_zero, ← hk]; rfl
        | succ i =>
          have := i2 i s (by simpa using hs)
          rw [show j + (i + 1) = j + 1 + i by omega]; exact this
      · rw [decide_eq_false hk] at h; cases h
    | _ => simp [intAt] at h
theorem aggG_rel {t : TypeId} {x : AV} {vx : Value} {g : GV} (hx : ARel (ttOf tl) w F st.roots ρ x vx) (h : aggG tl t x = some g) :
    ∃ cs, vx = .agg cs ∧ cs.size = (ttOf tl t).sz ∧ ∀ j u, cs[j]? = some u → GRel (ttOf tl) w F ((ttOf tl t).ck j) (cellG true g j) u := by
  cases x with
  | one => simp [aggG] at h
  | a t' g' =>
    simp only [aggG] at h
    cases hb : Nat.beq t' t with
    | false => rw [hb] at h; cases h
    | true =>
      rw [hb] at h
      simp only [cond_true, Option.some.injEq] at h
      subst h
      obtain rfl := Nat.eq_of_beq_eq_true hb
      obtain ⟨_, cs, rfl, hs, hr⟩ := hx
      exact ⟨cs, rfl, hs, hr⟩
  | agg l =>
    simp only [aggG] at h
    cases hb : Nat.beq l.length (ttOf tl t).sz with
    | false => rw [hb] at h; cases h
    | true =>
      rw [hb] at h
      simp only [cond_true, Option.map_eq_some_iff] at h
      obtain ⟨gs, hi, rfl⟩ := h
      obtain ⟨i1, i2⟩ := intAt_spec hi
      have hl := Nat.eq_of_beq_eq_true hb
      obtain ⟨cs, rfl, hs, hr⟩ := hx
      refine ⟨cs, rfl, by omega, fun j u hu => ?_⟩
      have hj : j < l.length := by have := (Array.getElem?_eq_some_iff.1 hu).1; omega
      have hlj : l[j]? = some l[j] := List.getElem?_eq_getElem hj
      have h1 := hr j _ u hlj hu
      rw [i2 j _ hlj, Nat.zero_add] at h1
      exact h1
theorem eqFields_run (hP : Facts P tl) {t : TypeId} {g g' : GV} {xs ys : Array Value} (hx : ∀ j u, xs[j]? = some u → GRel (ttOf tl) w F ((ttOf tl t).ck j) (cellG true g j) u) (hy : ∀ j u, ys[j]? = some u → GRel (ttOf tl) w F ((ttOf tl t).ck j) (cellG true g' j) u)
    (d : Nat) : ∀ (fs : List (Nat × TypeId)) (fds : List Go.Field), fds.length = fs.length → (fs.all fun x => isInt tl x.2) = true → (∀ f ∈ fds, f.name ≠ "_") →
      (∀ (f o ft : Nat), fs[f]? = some (o, ft) → ∃ fd : Go.Field, fds[f]? = some fd ∧ fd.offset = o ∧ fd.type = ft ∧ known tl ft = true ∧ o < xs.size ∧ o < ys.size ∧ (ttOf tl t).ck o = (ttOf tl ft).ck 0) →
      (Op.eqFields (d + 1) xs ys fds).run P w = .ok (eqG fs g g') w := by
  intro fs
  induction fs with
  | nil => intro fds hl _ _ _; cases fds with
    | nil => rfl
    | cons => simp at hl
  | cons x fs ih =>
    intro fds hl hall hn hf
    obtain ⟨o, ft⟩ := x
    cases fds with
    | nil => simp at hl
    | cons fd fds =>
      obtain ⟨fd', h1, h2, h3, h4, h5, h6, h7⟩ := hf 0 o ft rfl
      simp only [List.getElem?_cons_zero, Option.some.injEq] at h1
      subst h1
      simp only [List.all_cons, Bool.and_eq_true] at hall
      have hi := hall.1
      unfold isInt at hi
      split at hi
      · rename_i k hd
        have hft := hP.of hd (by simp)
        have hdd := hft.desc
        rw [hd] at hdd
        obtain ⟨hu, hc⟩ := hdd
        have hag : (ttOf tl ft).agg = false := by
          cases hq : (ttOf tl ft).agg with
          | false => rfl
          | true =>
            obtain ⟨d', g1, g2, _⟩ := hft.agg
            rw [hu] at g1
            simp only [Option.some.injEq] at g1
            subst g1
            rcases g2.1 hq with ⟨_, h⟩ | ⟨_, _, h⟩ <;> cases h
        have hck : (ttOf tl t).ck o = .int k := by rw [h7]; unfold TI.ck; rw [hc]; rfl
        have hpx : ∃ n, (part ft xs o).run P w = .ok (.int k n) w ∧ n = (cellG true g o).asInt := by
          have e : xs[o]? = some xs[o] := Array.getElem?_eq_getElem h5
          have := hx o _ e
          rw [hck] at this
          generalize hv : xs[o] = u at this e
          cases this with
          | int _ => exact ⟨_, by unfold part; simp only [Sem.run_bind, run_isAgg hP h4, hag, Result.andThen_ok, e]; rfl, rfl⟩
        have hpy : ∃ n, (part ft ys o).run P w = .ok (.int k n) w ∧ n = (cellG true g' o).asInt := by
          have e : ys[o]? = some ys[o] := Array.getElem?_eq_getElem h6
          have := hy o _ e
          rw [hck] at this
          generalize hv : ys[o] = u at this e
          cases this with
          | int _ => exact ⟨_, by unfold part; simp only [Sem.run_bind, run_isAgg hP h4, hag, Result.andThen_ok, e]; rfl, rfl⟩
        obtain ⟨n, a1, rfl⟩ := hpx
        obtain ⟨m, b1, rfl⟩ := hpy
        have hname : fd.name ≠ "_" := hn fd (List.mem_cons_self ..)
        have ih := ih fds (by simpa using hl) hall.2 (fun f hf' => hn f (List.mem_cons_of_mem _ hf')) (fun f o' ft' hh => hf (f + 1) o' ft' hh)
        rw [Op.eqFields, if_pos hname, h2, h3]
        simp only [Sem.run_bind, a1, b1, Result.andThen_ok, run_equalIn_int w d ft k k _ _ hu]
        unfold eqG at *
        simp only [List.all_cons]
        cases (cellG true g o).asInt == (cellG true g' o).asInt with
        | false => rfl
        | true => simpa using ih
      · cases hi
theorem binA_sound (hP : Facts P tl) {op : BinOp} {t : TypeId} {xo yo : Operand} {x y : AV} {vx vy : Value} {r : AV} (hx : ARel (ttOf tl) w F st.roots ρ x vx) (hy : ARel (ttOf tl) w F st.roots ρ y vy)
    (h : binA tl op t yo x y = some (true, r)) :
    ∃ v, (do eqGuard op t xo yo vx vy; binOp op t vx vy : Sem Value).run P w = .ok v w ∧ ARel (ttOf tl) w F st.roots ρ r v := by
  have key : (match fldsOf tl t, aggG tl t x, aggG tl t y with | some fs, some g, some g' => eqRes op true (eqG fs g g') | _, _, _ => none) = some (true, r) → ∃ v, (do eqGuard op t xo yo vx vy; binOp op t vx vy : Sem Value).run P w = .ok v w ∧ ARel (ttOf tl) w F st.roots ρ r v := by
    intro h
    split at h
    · rename_i fs g g' hfs hg hg'
      obtain ⟨xs, rfl, hxs, hxr⟩ := aggG_rel hx hg
      obtain ⟨ys, rfl, hys, hyr⟩ := aggG_rel hy hg'
      obtain ⟨q1, q2, q3⟩ := hP.eq t fs hfs
      unfold fldsOf at hfs
      split at hfs
      · rename_i fs0 hd
        cases hall : fs0.all fun x => isInt tl x.2 with
        | false => rw [hall] at hfs; cases hfs
        | true =>
          rw [hall] at hfs
          simp only [cond_true, Option.some.injEq] at hfs
          subst hfs
          have hdd := (hP.of hd (by simp)).desc
          rw [hd] at hdd
          obtain ⟨_, fields, hu, hsz, hcell⟩ := hdd
          have hfo : P.fieldsOf t = fields := by simp [Program.fieldsOf, hu]
          have hrun := eqFields_run hP hxr hyr 9998 fs0 fields.toList (by simpa using hsz) hall (q3 fields hu) (fun f o ft hh => by
            obtain ⟨fd, c1, c2, c3, c4, c5, c6⟩ := hcell f o ft hh
            have h1 : (ttOf tl ft).sz = 1 := by
              have := List.all_eq_true.1 hall _ (List.mem_of_getElem? hh)
              unfold isInt at this
              split at this
              · rename_i k hk
                have hk' := (hP.of hk (by simp)).desc
                rw [hk] at hk'
                unfold TI.sz; rw [hk'.2]; rfl
              · cases this
            exact ⟨fd, by simpa using c1, c2, c3, c4, by omega, by omega, by have := c6 0 (by omega); rw [Nat.add_zero] at this; exact this⟩)
          have hE : (Op.equalIn 10000 t (.agg xs) (.agg ys)).run P w = .ok (eqG fs0 g g') w := by
            rw [run_equalIn_struct w 9999 t xs ys (by rw [hfo]; exact hu) q1, hfo]; exact hrun
          have hG : (eqGuard op t xo yo (.agg xs) (.agg ys)).run P w = .ok () w := run_eqGuard_agg w op t xo yo xs ys q2
          obtain ⟨_, ⟨rfl, rfl⟩ | ⟨rfl, rfl⟩⟩ := eqRes_sound h (fun _ _ => trivial)
          · exact ⟨.bool (eqG fs0 g g'), by simp only [Sem.run_bind, hG, Result.andThen_ok, run_eql_struct, hE], ARel.bool⟩
          · exact ⟨.bool (!eqG fs0 g g'), by simp only [Sem.run_bind, hG, Result.andThen_ok, run_neq_struct, hE], ARel.bool⟩
      · cases hfs
    · cases h
  match x, y, h with
  | .one x, .one y, h => exact binS_sound hP hx hy h
  | .one _, .a _ _, h => exact key h
  | .one _, .agg _, h => exact key h
  | .a _ _, .one _, h => exact key h
  | .a _ _, .a _ _, h => exact key h
  | .a _ _, .agg _, h => exact key h
  | .agg _, .one _, h => exact key h
  | .agg _, .a _ _, h => exact key h
  | .agg _, .agg _, h => exact key h

theorem partA_sound (hP : Facts P tl) {ft : TypeId} {o : Nat} {l : List SV} {x : AV} {cs : Array Value} (hs : cs.size = l.length)
    (hr : ∀ (j : Nat) s u, l[j]? = some s → cs[j]? = some u → SRel (ttOf tl) w F st.roots ρ s u) (h : partA tl ft o l = some (true, x)) :
    ∃ u, (part ft cs o).run P w = .ok u w ∧ ARel (ttOf tl) w F st.roots ρ x u := by
  unfold partA at h
  cases hc : known tl ft && Nat.ble (o + (ttOf tl ft).sz) l.length with
  | false => rw [hc] at h; cases h
  | true =>
    rw [hc] at h
    simp only [Bool.and_eq_true] at hc
    have hle := Nat.le_of_ble_eq_true hc.2
    simp only [cond_true, Option.some.injEq, Prod.mk.injEq, true_and] at h
    obtain ⟨u, hu, hcase⟩ := run_part hP (w := w) hc.1 cs o (by omega)
    refine ⟨u, hu, ?_⟩
    rcases hcase with ⟨hag, rfl⟩ | ⟨hag, hu'⟩
    · rw [hag] at h; subst h
      refine ⟨_, rfl, by simp; omega, fun j s u hsj hu => ?_⟩
      simp only [List.getElem?_take, List.getElem?_drop] at hsj
      simp only [Array.getElem?_extract] at hu
      split at hsj
      · split at hu
        · exact hr _ _ _ hsj hu
        · cases hu
      · cases hsj
    · rw [hag] at h; subst h
      have h1 := (hP.t ft hc.1).one hag
      have hlt : o < l.length := by omega
      have : l.getD o .dead = l[o] := by simp [List.getD_eq_getElem?_getD, hlt]
      show SRel (ttOf tl) w F st.roots ρ (l.getD o .dead) u
      rw [this]
      exact hr o _ _ (by simp [hlt]) hu'

theorem fieldA_sound (hP : Facts P tl) {s : TypeId} {f : Nat} {y x : AV} {v : Value} (hx : ARel (ttOf tl) w F st.roots ρ y v)
    (hl : fieldA tl s f y = some (true, x)) : ∃ u, (Instr.field s v f).run P w = .ok u w ∧ ARel (ttOf tl) w F st.roots ρ x u := by
  unfold fieldA at hl
  cases hf : fieldOf tl s f with
  | none => simp [hf] at hl
  | some q =>
    obtain ⟨o, ft⟩ := q
    cases hc : cellsA tl y with
    | none => simp [hf, hc] at hl
    | some l =>
      simp only [hf, hc] at hl
      obtain ⟨cs, rfl, hs, hr⟩ := cellsA_rel hx hc
      obtain ⟨u, hu, hux⟩ := partA_sound hP hs hr hl
      obtain ⟨_, _, fields, fd, h2, h4, h5, h6, h7, _⟩ := fieldOf_fact hP hf
      refine ⟨u, ?_, hux⟩
      subst h5; subst h6
      simp [Instr.field, run_underlying h2, h4, asAgg, hu]

end
end Go.Eng

/- That the machine does what the steps say: indexes, slices, aggregates, and all operations that only compute or read. Of no program. -/
namespace Go.Eng
set_option linter.unusedVariables false
set_option linter.unusedSimpArgs false
open Go.RowKit

theorem okP_snoc {tt : TT} {p : Path} : ∀ {o : Nat} {e : TypeId} {l : List GV} {e' : TypeId} {i : Nat}, okP tt o e l p → oP tt o e l p = 2 → kP tt e p = .slice e' →
    ((getP tt e l p).asOwn = 1 ∨ (getP tt e l p).asOwn = 2) → i < (getP tt e l p).all.length → 0 < (tt e').sz → okP tt o e l (p ++ [(i, 0)]) := by
  match p with
  | [] => intro o e l e' i h; exact h.elim
  | [(i0, j0)] =>
    intro o e l e' i h ho hk hc hi hz
    simp only [oP, kP, getP] at ho hk hc hi
    show okP tt o e l [(i0, j0), (i, 0)]
    refine ⟨ho, h.2.1, h.2.2, ?_⟩
    rw [hk]; exact ⟨hc, hi, hz⟩
  | (i0, j0) :: q :: r =>
    intro o e l e' i h ho hk hc hi hz
    obtain ⟨h1, h2, h3, h4⟩ := h
    show okP tt o e l ((i0, j0) :: (q :: r) ++ [(i, 0)])
    refine ⟨h1, h2, h3, ?_⟩
    cases hk' : (tt e).ck j0 with
    | slice e1 =>
      rw [hk'] at h4
      simp only [oP, kP, getP, hk'] at ho hk hc hi
      exact okP_snoc (p := q :: r) h4 ho hk hc hi hz
    | _ => rw [hk'] at h4; exact h4.elim

theorem placeOf_snoc {tt : TT} {w : World} {p : Path} : ∀ {b : Nat} {e : TypeId} {b1 n1 : Nat} {e' : TypeId} {i : Nat} {ad : Addr} {n c : Nat}, placeOf tt w b e p = some (b1, n1) → kP tt e p = .slice e' →
    w.cell? ⟨b1, n1, none⟩ = some (.slice (some ad) n c) → placeOf tt w b e (p ++ [(i, 0)]) = some (ad.block, i * (tt e').sz) := by
  match p with
  | [] => intro b e b1 n1 e' i ad n c h; simp [placeOf] at h
  | [(i0, j0)] =>
    intro b e b1 n1 e' i ad n c h hk hc
    simp only [placeOf, Option.some.injEq, Prod.mk.injEq] at h
    obtain ⟨rfl, rfl⟩ := h
    simp only [kP] at hk
    simp [placeOf, hk, hc]
  | (i0, j0) :: q :: r =>
    intro b e b1 n1 e' i ad n c h hk hc
    simp only [placeOf] at h
    split at h
    · rename_i e1 a1 _ _ hk1 hc1
      simp only [kP, hk1] at hk
      show placeOf tt w b e ((i0, j0) :: q :: (r ++ [(i, 0)])) = _
      simp only [placeOf, hk1, hc1]
      exact placeOf_snoc (p := q :: r) h hk hc
    · cases h

theorem CellOwn.len {tt : TT} {w : World} {F : Nat → Prop} {o : Nat} {e : TypeId} {g : GV} {v : Value} {S : Nat → Prop} (h : CellOwn tt w F o (.slice e) g v S) :
    ∃ A c, v = .slice A g.asList.length c := by
  have hg : ∀ {v}, GRel tt w F (.slice e) g v → ∃ A c, v = .slice A g.asList.length c := by
    intro v h
    cases h with
    | nil h => exact ⟨none, 0, by rw [all_nil_len h]⟩
    | slice a cap => exact ⟨some a, cap, rfl⟩
  rcases h with ⟨_, h⟩ | ⟨_, h, _⟩
  · cases h with
    | plain h _ => exact hg h
    | nil h => exact ⟨none, 0, by rw [all_nil_len h]⟩
    | shallow b cap => exact ⟨_, cap, rfl⟩
    | deep b cap => exact ⟨_, cap, rfl⟩
  · exact hg h

theorem inRange_iff {i : Int} {n : Nat} (h : inRange i n = true) : 0 ≤ i ∧ i < n := by
  simpa [inRange] using h

section
variable {P : Program} {tl : TL} {W : Base} {st : St} {a : Act} {w : World} {ρ : Nat → RD} {fp : Nat → Nat → Prop} {F : Nat → Prop} {ch : Chain}

/-- What stands at a reference, as it is owned. -/
theorem ref_cell (hP : Facts P tl) (h : Rel (ttOf tl) W st a w ρ fp F) {e : TypeId} {r : Nat} {p : Path} {v : Value} {g : GV} (hx : SRel (ttOf tl) w F st.roots ρ (.ref e r p) v)
    (hc : contentOf tl st r p = some g) : ∃ o S, CellOwn (ttOf tl) w F o (.slice e) g v S ∧ (deepP tl st r p = true → o = 2) := by
  match p with
  | [] =>
    obtain ⟨⟨g', hg⟩, hv⟩ := hx
    simp only [contentOf, hg, Option.some.injEq] at hc
    subst hc
    have := h.root r _ hg
    rw [hv] at this
    exact ⟨2, _, .inl ⟨rfl, this⟩, fun _ => rfl⟩
  | q :: p =>
    obtain ⟨rt, o, e0, l, b1, n1, hg, hlst, hok, hk, hpl, hcell⟩ := hx
    have hr : rootLst st r = some (o, e0, l) := by simp [rootLst, hg, hlst]
    simp only [contentOf, hr, Option.some.injEq] at hc
    subst hc
    obtain ⟨b, cap, hb, hrow⟩ := (h.root r rt hg).rowOwn hlst hok
    obtain ⟨b2, n2, v1, S1, f1, f2, f3, f4, f5, f6, f7, f8, _⟩ := RowOwn.focus (ttOf tl) hP.agg w F (q :: p) o b cap e0 l (fp r) hrow hok
    have hpl' : placeR (ttOf tl) w e0 (ρ r) (q :: p) = some (b2, n2) := by simp only [placeR, hb, Option.bind_some, f7]
    obtain ⟨rfl, rfl⟩ : b1 = b2 ∧ n1 = n2 := by rw [hpl] at hpl'; simpa using hpl'
    obtain rfl : v = v1 := by rw [hcell] at f1; exact Option.some.inj f1
    rw [hk] at f3
    refine ⟨_, S1, f3, fun hd => ?_⟩
    simp only [deepP, hr] at hd
    exact Nat.eq_of_beq_eq_true hd

theorem run_indexAt_slice (hP : Facts P tl) {t e : TypeId} (hd : (ttOf tl t).desc = .slice e) {k : IntKind} {i : Int} {ad : Addr} {n c : Nat} (h0 : 0 ≤ i) (h1 : i < n) :
    (Instr.indexAt t (.slice (some ad) n c) (.int k i)).run P w = .ok (.pointer (some (ad.add (i.toNat * (ttOf tl e).sz)))) w := by
  have hf := (hP.of hd (by simp)).desc
  rw [hd] at hf
  simp [Instr.indexAt, asIntOf, run_underlying hf.1, run_sizeOf' hP hf.2.2, h0, h1]

theorem indexAddrA_sound (hP : Facts P tl) (h : Rel (ttOf tl) W st a w ρ fp F) {t : TypeId} {y ix x : AV} {v vi : Value} (hx : ARel (ttOf tl) w F st.roots ρ y v) (hi : ARel (ttOf tl) w F st.roots ρ ix vi)
    (hl : indexAddrA tl st t y ix = some (true, x)) : ∃ u, (Instr.indexAt t v vi).run P w = .ok u w ∧ ARel (ttOf tl) w F st.roots ρ x u := by
  unfold indexAddrA at hl
  split at hl
  · rename_i i e hii hd
    obtain ⟨k, rfl, _⟩ := intOf_rel hi hii
    split at hl
    · rename_i e' g
      cases hb : Nat.beq e e' with
      | false => rw [hb] at hl; cases hl
      | true =>
        rw [hb] at hl
        obtain rfl := Nat.eq_of_beq_eq_true hb
        simp only [cond_true, Option.some.injEq, Prod.mk.injEq] at hl
        obtain ⟨hr, rfl⟩ := hl
        obtain ⟨h0, h1⟩ := inRange_iff hr
        rcases GRel.toSlice hx with ⟨_, hn⟩ | ⟨ad, cap, f, rfl, _, hs, hF, hlc, hm, hw, hg⟩
        · have := all_nil_len hn; omega
        · refine ⟨_, run_indexAt_slice hP hd h0 h1, ?_⟩
          have hlt : i.toNat < g.all.length := by have : g.asList.length ≤ g.all.length := by simp [GV.all]
                                                  omega
          have hF := hF (by omega)
          have hs := hs (by omega)
          refine ⟨⟨ad.block, ad.off + i.toNat * (ttOf tl e).sz, none⟩, f i.toNat, rfl, hF, fun j hj => ?_, fun j hj => hg _ j hlt hj, ?_⟩
          · have := hw i.toNat j hlt hj
            rw [← Nat.add_assoc] at this; exact this
          · obtain ⟨ab, ao, as⟩ := ad
            simp only at hs; subst hs
            rw [add_plain, Nat.add_zero]
    · rename_i e' r p
      cases hb : Nat.beq e e' with
      | false => rw [hb] at hl; cases hl
      | true =>
        rw [hb] at hl
        obtain rfl := Nat.eq_of_beq_eq_true hb
        simp only [cond_true] at hl
        split at hl
        · rename_i g hcont
          simp only [Option.some.injEq, Prod.mk.injEq, Bool.and_eq_true, Bool.or_eq_true] at hl
          obtain ⟨⟨⟨⟨hr, ho⟩, hz⟩, hdp⟩, rfl⟩ := hl
          obtain ⟨h0, h1⟩ := inRange_iff hr
          have hz := Nat.le_of_ble_eq_true hz
          have ho : g.asOwn = 1 ∨ g.asOwn = 2 := ho.imp Nat.eq_of_beq_eq_true Nat.eq_of_beq_eq_true
          obtain ⟨oo, S, hown, hdeep⟩ := ref_cell hP h hx hcont
          obtain rfl := hdeep hdp
          rcases hown with ⟨_, hown⟩ | ⟨h, _⟩
          case inr => omega
          have hlt : i.toNat < g.all.length := by have : g.asList.length ≤ g.all.length := by simp [GV.all]
                                                  omega
          rcases hown.row ho with ⟨_, hn, _⟩ | ⟨b, cap, rfl, hrow, _⟩
          · have := all_nil_len hn; omega
          refine ⟨_, run_indexAt_slice hP hd h0 h1, ?_⟩
          rw [add_plain, Nat.zero_add]
          match p, hx, hcont with
          | [], hx, hcont =>
            obtain ⟨⟨g', hg⟩, hv⟩ := hx
            simp only [contentOf, hg, Option.some.injEq] at hcont
            subst hcont
            exact ⟨_, b, hg, by rw [hv]; rfl, ho, hlt, hz, by simp [Root.shape]⟩
          | q :: p, hx, hcont =>
            obtain ⟨rt, o, e0, l, b1, n1, hg, hlst, hok, hk, hpl, hcell⟩ := hx
            have hr' : rootLst st r = some (o, e0, l) := by simp [rootLst, hg, hlst]
            simp only [contentOf, hr', Option.some.injEq] at hcont
            subst hcont
            have hd2 := hdp
            simp only [deepP, hr'] at hd2
            have hok' := okP_snoc hok (Nat.eq_of_beq_eq_true hd2) hk ho hlt hz
            have hpl' : placeR (ttOf tl) w e0 (ρ r) (q :: p ++ [(i.toNat, 0)]) = some (b, i.toNat * (ttOf tl e).sz) := by
              unfold placeR at *
              cases hbs : (ρ r).base with
              | none => rw [hbs] at hpl; cases hpl
              | some bb => rw [hbs] at hpl; exact placeOf_snoc hpl hk hcell
            cases p with
            | nil => exact ⟨rt, o, e0, l, b, _, hg, hlst, hok', hpl', rfl⟩
            | cons q2 p2 => exact ⟨rt, o, e0, l, b, _, hg, hlst, hok', hpl', rfl⟩
        · cases hl
    · cases hl
  · rename_i i n e hii hd
    obtain ⟨k, rfl, _⟩ := intOf_rel hi hii
    split at hl
    · rename_i r p
      cases hr : rootLst st r with
      | none => simp [hr] at hl
      | some q =>
        obtain ⟨oo, e0, l⟩ := q
        simp only [hr] at hl
        obtain ⟨rt, b1, n1, hg, hlst, hok, hpl, rfl⟩ := ptr_place hx hr
        cases hke : known tl e with
        | false => rw [hke] at hl; cases hl
        | true =>
          rw [hke] at hl
          simp only [cond_true, Option.some.injEq, Prod.mk.injEq, Bool.and_eq_true] at hl
          obtain ⟨⟨hrg, h2, h3⟩, rfl⟩ := hl
          have h2 := Nat.le_of_ble_eq_true h2
          have h3 := Nat.le_of_ble_eq_true h3
          obtain ⟨h0, h1⟩ := inRange_iff hrg
          have hf := (hP.of hd (by simp)).desc
          rw [hd] at hf
          have hin : i.toNat * (ttOf tl e).sz + (ttOf tl e).sz ≤ n * (ttOf tl e).sz := by
            rw [← Nat.succ_mul]; exact Nat.mul_le_mul_right _ (by omega)
          refine ⟨.pointer (some ⟨b1, n1 + i.toNat * (ttOf tl e).sz, none⟩), ?_, ptr_further hg hlst hok hpl (by omega) rfl⟩
          simp [Instr.indexAt, asIntOf, run_underlying hf.2.1, Instr.sureAddr, run_sizeOf' hP hke, h0, h1, add_plain]
    · cases hl
  · cases hl

theorem bt_get {s : ByteArray} {i : Nat} (h : i < s.size) : ∃ b : UInt8, s[i]? = some b ∧ bt s i = (b.toNat : Int) := by
  have h1 : s[i]? = some s[i] := by simp [h]
  refine ⟨_, h1, ?_⟩
  have : s.data[i]? = some s[i] := by
    have hl : i < s.data.size := h
    rw [Array.getElem?_eq_getElem hl]; rfl
  simp [bt, this]

theorem groundL_rel {w : World} {F : Nat → Prop} : ∀ (ks : List CK) (l : List SV) (gs : List GV) (cs : List Value), l.length = cs.length → (∀ (j : Nat) s u, l[j]? = some s → cs[j]? = some u → SRel (ttOf tl) w F st.roots ρ s u) →
    groundL ks l = some gs → ks.length = cs.length ∧ ∀ j, j < ks.length → ∃ u, cs[j]? = some u ∧ GRel (ttOf tl) w F (ks.getD j .other) (gs.getD j .moved) u := by
  intro ks
  induction ks with
  | nil =>
    intro l gs cs hlen hr hg
    cases l with
    | nil => exact ⟨by simpa using hlen, fun j hj => by simp at hj⟩
    | cons => simp [groundL] at hg
  | cons k ks ih =>
    intro l gs cs hlen hr hg
    cases l with
    | nil => cases k <;> simp [groundL] at hg
    | cons s l =>
      cases cs with
      | nil => cases hlen
      | cons u cs =>
        have h0 := hr 0 s u rfl rfl
        have key : ∃ g gs', s = .s k g ∧ groundL ks l = some gs' ∧ gs = g :: gs' := by
          cases k with
          | slice e => simp [groundL] at hg
          | _ =>
            cases s <;> simp only [groundL, reduceCtorEq] at hg
            rename_i k' g
            cases hdk : decide (_ = k') with
            | false => rw [hdk] at hg; cases hg
            | true =>
              rw [hdk] at hg
              simp only [cond_true, Option.map_eq_some_iff] at hg
              obtain ⟨gs', h1, h2⟩ := hg
              obtain rfl := of_decide_eq_true hdk
              exact ⟨g, gs', rfl, h1, h2.symm⟩
        obtain ⟨g, gs', rfl, hg', rfl⟩ := key
        obtain ⟨h1, h2⟩ := ih l gs' cs (by simpa using hlen) (fun j s u hs hu => hr (j + 1) s u hs hu) hg'
        refine ⟨by simp [h1], fun j hj => ?_⟩
        cases j with
        | zero => exact ⟨u, rfl, h0⟩
        | succ j => exact h2 j (by simpa using hj)

theorem indexA_sound (hP : Facts P tl) {t : TypeId} {y ix x : AV} {v vi : Value} (hx : ARel (ttOf tl) w F st.roots ρ y v) (hi : ARel (ttOf tl) w F st.roots ρ ix vi)
    (hl : indexA tl t y ix = some (true, x)) : ∃ u, (Instr.index t v vi).run P w = .ok u w ∧ ARel (ttOf tl) w F st.roots ρ x u := by
  unfold indexA at hl
  split at hl
  · rename_i i g hii hd
    obtain ⟨k, rfl, _⟩ := intOf_rel hi hii
    obtain ⟨rfl, hsz⟩ := GRel.toStr hx
    simp only [Option.some.injEq, Prod.mk.injEq] at hl
    obtain ⟨hr, rfl⟩ := hl
    obtain ⟨h0, h1⟩ := inRange_iff hr
    have hf := (hP.of hd (by simp)).desc
    rw [hd] at hf
    obtain ⟨b, hb, hbt⟩ := bt_get (s := g.asStr) (i := i.toNat) (by omega)
    refine ⟨.int .u8 b.toNat, by simp [Instr.index, asIntOf, run_underlying hf.1, h0, hb], ?_⟩
    rw [hbt]
    refine ARel.int (inK_mk ?_ ?_)
    · show (0 : Int) ≤ _; omega
    · have := b.toNat_lt; show (b.toNat : Int) ≤ 255; omega
  · rename_i i n e t' g hii hd
    obtain ⟨k, rfl, _⟩ := intOf_rel hi hii
    cases hc : Nat.beq t t' && Nat.beq (ttOf tl e).sz 1 && !(ttOf tl e).agg && known tl e with
    | false => rw [hc] at hl; cases hl
    | true =>
      rw [hc] at hl
      simp only [Bool.and_eq_true, Bool.not_eq_true'] at hc
      obtain ⟨⟨⟨h1, h2⟩, h3⟩, h4⟩ := hc
      obtain rfl := Nat.eq_of_beq_eq_true h1
      have h2 := Nat.eq_of_beq_eq_true h2
      simp only [cond_true, Option.some.injEq, Prod.mk.injEq] at hl
      obtain ⟨hr, rfl⟩ := hl
      obtain ⟨h0, hlt⟩ := inRange_iff hr
      have hf := (hP.of hd (by simp)).desc
      rw [hd] at hf
      obtain ⟨hag, hu, _, hsz, hck⟩ := hf
      obtain ⟨_, cs, rfl, hcs, hg⟩ := hx
      rw [h2, Nat.mul_one] at hsz
      obtain ⟨u, hu', hcase⟩ := run_part hP (w := w) h4 cs i.toNat (by omega)
      refine ⟨u, by simp [Instr.index, asIntOf, run_underlying hu, h0, hlt, run_sizeOf' hP h4, h2, hu'], ?_⟩
      rcases hcase with ⟨hx, _⟩ | ⟨_, hcu⟩
      · rw [hx] at h3; cases h3
      · have := hg _ _ hcu
        have hk := hck i.toNat 0 (by omega) (by omega)
        rw [h2, Nat.mul_one, Nat.add_zero] at hk
        rw [hk] at this; exact this
  · rename_i i n e l hii hd
    obtain ⟨k, rfl, _⟩ := intOf_rel hi hii
    cases hc : Nat.beq (ttOf tl e).sz 1 && !(ttOf tl e).agg && known tl e with
    | false => rw [hc] at hl; cases hl
    | true =>
      rw [hc] at hl
      simp only [Bool.and_eq_true, Bool.not_eq_true'] at hc
      obtain ⟨⟨h2, h3⟩, h4⟩ := hc
      have h2 := Nat.eq_of_beq_eq_true h2
      simp only [cond_true] at hl
      split at hl
      · rename_i gs hgs
        simp only [Option.some.injEq, Prod.mk.injEq] at hl
        obtain ⟨hr, rfl⟩ := hl
        obtain ⟨h0, hlt⟩ := inRange_iff hr
        have hf := (hP.of hd (by simp)).desc
        rw [hd] at hf
        obtain ⟨hag, hu, _, hsz, hck⟩ := hf
        obtain ⟨cs, rfl, hcs, hg⟩ := hx
        obtain ⟨hlen, hgr⟩ := groundL_rel (st := st) (ρ := ρ) (F := F) (w := w) _ l gs cs.toList (by simp [hcs]) (fun j s u h1 h2 => hg j s u h1 (by simpa using h2)) hgs
        simp only [List.length_replicate, Array.length_toList] at hlen hgr
        obtain ⟨u, hu', hcase⟩ := run_part hP (w := w) h4 cs i.toNat (by omega)
        refine ⟨u, by simp [Instr.index, asIntOf, run_underlying hu, h0, hlt, run_sizeOf' hP h4, h2, hu'], ?_⟩
        rcases hcase with ⟨hx, _⟩ | ⟨_, hcu⟩
        · rw [hx] at h3; cases h3
        · obtain ⟨u2, hu2, hg2⟩ := hgr i.toNat (by omega)
          simp only [Array.getElem?_toList] at hu2
          rw [hcu] at hu2
          obtain rfl := Option.some.inj hu2
          have e1 : (List.replicate n ((ttOf tl e).ck 0)).getD i.toNat .other = (ttOf tl e).ck 0 := by
            rw [List.getD_eq_getElem?_getD, List.getElem?_replicate, if_pos (by omega)]; rfl
          rw [e1] at hg2
          exact hg2
      · cases hl
  · cases hl

theorem sliceG_rel (hP : Facts P tl) (h : Rel (ttOf tl) W st a w ρ fp F) {x : AV} {v : Value} {e : TypeId} {g : GV} (hx : ARel (ttOf tl) w F st.roots ρ x v) (hs : sliceG tl st x = some (e, g)) :
    GRel (ttOf tl) w (fun _ => True) (.slice e) g v := by
  unfold sliceG at hs
  split at hs
  · simp only [Option.some.injEq, Prod.mk.injEq] at hs
    obtain ⟨rfl, rfl⟩ := hs
    exact GRel.mono hx (fun _ _ => trivial) (fun _ _ => rfl)
  · rename_i e' r p
    cases hc : contentOf tl st r p with
    | none => rw [hc] at hs; cases hs
    | some g' =>
      rw [hc] at hs
      simp only [Option.map_some, Option.some.injEq, Prod.mk.injEq] at hs
      obtain ⟨rfl, rfl⟩ := hs
      obtain ⟨o, S, hown, _⟩ := ref_cell hP h hx hc
      rcases hown with ⟨_, h⟩ | ⟨_, h, _⟩
      · exact h.toG (fun _ _ => trivial) (fun _ _ => trivial)
      · exact h.mono (fun _ _ => trivial) (fun _ _ => rfl)
  · cases hs

theorem GRel.lenS {tt : TT} {w : World} {F : Nat → Prop} {e : TypeId} {g : GV} {v : Value} (h : GRel tt w F (.slice e) g v) : ∃ A c, v = .slice A g.asList.length c ∧ c ≤ maxLen ∧ g.asList.length ≤ c := by
  cases h with
  | nil h => exact ⟨none, 0, by rw [all_nil_len h], by simp, by rw [all_nil_len h]; simp⟩
  | slice a cap f hz hs hF hc hm =>
    refine ⟨some a, cap, rfl, hm, Nat.le_trans ?_ hc⟩
    simp [GV.all]

theorem run_bytes_none {src dst e : TypeId} {ad : Addr} {cap : Nat} (hs : P.underlying src = some (.slice e)) (he : P.underlying e = some (.int .u8)) (hd : P.underlying dst = some .string) :
    (convert src dst (.slice (some ad) ([] : List GV).length cap)).run P w = .ok (.string (bytesStr [])) w := by
  have hl : (loadCells ad 0).run P w = .ok #[] w := by simpa using run_loadCells_list (P := P) w ad [] (fun j v hj => by simp at hj)
  show (convert src dst (.slice (some ad) 0 cap)).run P w = _
  rw [run_convert_bytes_string w src dst e _ 0 cap hs he hd]
  simp [Conv.bytesToString, hl]
  rfl

theorem run_bytes (hP : Facts P tl) {src dst e : TypeId} {g : GV} {v : Value} (hd1 : (ttOf tl src).desc = .slice e) (hd2 : (ttOf tl dst).desc = .str) (hd3 : (ttOf tl e).desc = .int .u8)
    (h : GRel (ttOf tl) w (fun _ => True) (.slice e) g v) : (convert src dst v).run P w = .ok (.string (bytesStr g.asList)) w := by
  have hs := (hP.of hd1 (by simp)).desc
  have hd := (hP.of hd2 (by simp)).desc
  have he := (hP.of hd3 (by simp)).desc
  rw [hd1] at hs; rw [hd2] at hd; rw [hd3] at he
  have hag : (ttOf tl e).agg = false := by
    obtain ⟨d, h1, h2, _⟩ := (hP.of hd3 (by simp)).agg
    rw [he.1] at h1
    obtain rfl := Option.some.inj h1
    cases hag : (ttOf tl e).agg with
    | false => rfl
    | true => rcases h2.1 hag with ⟨_, h⟩ | ⟨_, _, h⟩ <;> cases h
  have hsz : (ttOf tl e).sz = 1 := by unfold TI.sz; rw [he.2]; rfl
  have hck : (ttOf tl e).ck 0 = .int .u8 := by unfold TI.ck; rw [he.2]; rfl
  rcases GRel.toSlice h with ⟨rfl, hn⟩ | ⟨ad, cap, f, rfl, _, hsp, _, hlc, hm, hw, hg⟩
  · have : g.asList = [] := List.eq_nil_of_length_eq_zero (all_nil_len hn)
    rw [run_convert_bytes_nil w src e hs.1 he.1 0 0 dst hd.1, this]
    rfl
  · have hle : g.asList.length ≤ g.all.length := by simp [GV.all]
    by_cases hne : 0 < g.all.length
    case neg =>
      have : g.asList = [] := List.eq_nil_of_length_eq_zero (by omega)
      rw [this]
      exact run_bytes_none hs.1 he.1 hd.1
    have hsp := hsp hne
    obtain ⟨ab, ao, asp⟩ := ad
    simp only at hsp; subst hsp
    refine run_convert_bytes_arg w src e hs.1 he.1 ab ao g.asList.length cap (g.asList.map GV.asInt) (by simp) (fun i hi => ?_) dst hd.1
    have h1 := hw i 0 (by omega) (by omega)
    rw [hsz, Nat.mul_one, Nat.add_zero] at h1
    rw [h1]
    have h2 := hg i 0 (by omega) (by omega)
    rw [hck, hag] at h2
    obtain ⟨h3, _⟩ := GRel.toInt h2
    rw [h3]
    have : nth g.all i = g.asList[i] := by
      simp [nth, GV.all, List.getD_eq_getElem?_getD, List.getElem?_append, hi]
    simp only [cellG, cond_false, this]
    simp [List.getD_eq_getElem?_getD, hi]

theorem convA_sound (hP : Facts P tl) (h : Rel (ttOf tl) W st a w ρ fp F) {src dst : TypeId} {y x : AV} {v : Value} (hk : known tl src = true) (hx : ARel (ttOf tl) w F st.roots ρ y v)
    (hl : convA tl st src dst y = some (true, x)) : ∃ u, (convert src dst v).run P w = .ok u w ∧ ARel (ttOf tl) w F st.roots ρ x u := by
  obtain ⟨d, hd, _⟩ := (hP.t src hk).agg
  unfold convA at hl
  split at hl
  · rename_i k g
    split at hl
    · rename_i k' hd'
      have hf := (hP.of hd' (by simp)).desc
      rw [hd'] at hf
      obtain ⟨rfl, _⟩ := GRel.toInt hx
      simp only [ok1, Option.some.injEq, Prod.mk.injEq, true_and] at hl
      subst hl
      exact ⟨_, by simp [convert, run_underlying hd, run_underlying hf.1, Conv.intToInt], ARel.int (inK_wrap _ _)⟩
    · cases hl
  · rename_i g
    split at hl
    · rename_i hd'
      have hf := (hP.of hd' (by simp)).desc
      rw [hd'] at hf
      obtain ⟨rfl, hs⟩ := GRel.toStr hx
      simp only [ok1, Option.some.injEq, Prod.mk.injEq, true_and] at hl
      subst hl
      refine ⟨.string g.asStr, ?_, GRel.str hs⟩
      cases d <;> simp [convert, run_underlying hd, run_underlying hf.1]
    · cases hl
  · split at hl
    · rename_i e hd1 hd2
      split at hl
      · rename_i hd3
        have hx : v = .slice none 0 0 := hx
        subst hx
        simp only [ok1, Option.some.injEq, Prod.mk.injEq, true_and] at hl
        subst hl
        exact ⟨_, run_bytes (g := .list 0 false [] []) hP hd1 hd2 hd3 (.nil rfl), ARel.str (by simp [MAXS, bytesStr, strOfNums, GV.asList, ByteArray.size])⟩
      · cases hl
    · cases hl
  · split at hl
    · rename_i e g hs
      split at hl
      · rename_i e' hd1 hd2 hd3
        cases hb : Nat.beq e e' with
        | false => rw [hb] at hl; cases hl
        | true =>
          rw [hb] at hl
          obtain rfl := Nat.eq_of_beq_eq_true hb
          simp only [cond_true, Option.some.injEq, Prod.mk.injEq] at hl
          obtain ⟨hle, rfl⟩ := hl
          refine ⟨_, run_bytes hP hd1 hd2 hd3 (sliceG_rel hP h hx hs), ARel.str ?_⟩
          have := Nat.le_of_ble_eq_true hle
          simpa [bytesStr, strOfNums_size] using this
      · cases hl
    · cases hl

theorem optInt_rel {lo : Option AV} {vlo : Option Value} {i : Option Int} (hx : ∀ x v, lo = some x → vlo = some v → ARel (ttOf tl) w F st.roots ρ x v) (hn : lo.isSome = vlo.isSome) (h : optInt lo = some i) :
    (i = none ∧ vlo = none) ∨ ∃ k n, i = some n ∧ vlo = some (.int k n) := by
  cases lo with
  | none =>
    simp only [optInt, Option.some.injEq] at h
    cases vlo with
    | none => exact .inl ⟨h.symm, rfl⟩
    | some v => cases hn
  | some x =>
    cases vlo with
    | none => cases hn
    | some v =>
      simp only [optInt, Option.map_eq_some_iff] at h
      obtain ⟨n, hi, rfl⟩ := h
      obtain ⟨k, rfl, _⟩ := intOf_rel (hx x v rfl rfl) hi
      exact .inr ⟨k, n, rfl, rfl⟩

theorem run_cut {isSlice : Bool} {n cap : Nat} {lo hi : Option Int} {vlo vhi : Option Value} (hlo : (lo = none ∧ vlo = none) ∨ ∃ k m, lo = some m ∧ vlo = some (.int k m))
    (hhi : (hi = none ∧ vhi = none) ∨ ∃ k m, hi = some m ∧ vhi = some (.int k m)) (hnc : n ≤ cap) (hc : (cutOf n lo hi).1 = true) :
    (Instr.sliceBounds isSlice n cap vlo vhi none).run P w = .ok ((cutOf n lo hi).2.1, (cutOf n lo hi).2.2, cap) w ∧ (cutOf n lo hi).2.1 ≤ (cutOf n lo hi).2.2 ∧ (cutOf n lo hi).2.2 ≤ n := by
  have hb : ∀ (k : IntKind) (i : Int) (y : Nat) (code : BoundsCode), 0 ≤ i → i ≤ y → (Instr.sliceBound (.int k i) y code).run P w = .ok i.toNat w := by
    intro k i y code h0 h1
    simp [Instr.sliceBound, asIntOf, h0, h1]
  rcases hlo with ⟨rfl, rfl⟩ | ⟨k, m, rfl, rfl⟩ <;> rcases hhi with ⟨rfl, rfl⟩ | ⟨k', m', rfl, rfl⟩
  · simp [Instr.sliceBounds, cutOf]
  · obtain ⟨h0, h1⟩ := inRange_iff hc
    refine ⟨?_, by simp [cutOf], by simp [cutOf]; omega⟩
    simp [Instr.sliceBounds, cutOf, hb k' m' cap _ h0 (by omega)]
  · obtain ⟨h0, h1⟩ := inRange_iff hc
    refine ⟨?_, by simp [cutOf]; omega, by simp [cutOf]⟩
    simp [Instr.sliceBounds, cutOf, hb k m n _ h0 (by omega)]
  · simp only [cutOf, Bool.and_eq_true] at hc
    obtain ⟨h0, h1⟩ := inRange_iff hc.1
    obtain ⟨h2, h3⟩ := inRange_iff hc.2
    refine ⟨?_, by simp [cutOf]; omega, by simp [cutOf]; omega⟩
    simp [Instr.sliceBounds, cutOf, hb k' m' cap _ h0 (by omega), hb k m m'.toNat _ h2 (by omega)]

theorem run_front {n cap : Nat} {k : IntKind} {m : Int} (h0 : 0 ≤ m) (h1 : m ≤ cap) : (Instr.sliceBounds true n cap none (some (.int k m)) none).run P w = .ok (0, m.toNat, cap) w := by
  simp [Instr.sliceBounds, Instr.sliceBound, asIntOf, h0, h1]
theorem nth_take_drop (l : List GV) (lo hi i : Nat) (hh : hi ≤ l.length) (hi' : i < hi - lo) : nth ((l.take hi).drop lo) i = nth l (lo + i) := by
  unfold nth
  simp only [List.getD_eq_getElem?_getD, List.getElem?_drop, List.getElem?_take]
  rw [if_pos (by omega)]

theorem sliceA_sound (hP : Facts P tl) {t : TypeId} {y x : AV} {v : Value} {lo hi : Option AV} {vlo vhi : Option Value} (hx : ARel (ttOf tl) w F st.roots ρ y v)
    (hlo : ∀ x v, lo = some x → vlo = some v → ARel (ttOf tl) w F st.roots ρ x v) (hlo' : lo.isSome = vlo.isSome)
    (hhi : ∀ x v, hi = some x → vhi = some v → ARel (ttOf tl) w F st.roots ρ x v) (hhi' : hi.isSome = vhi.isSome)
    (hl : sliceA tl t y lo hi = some (true, x)) : ∃ u, (Instr.sliceAt t v vlo vhi none).run P w = .ok u w ∧ ARel (ttOf tl) w F st.roots ρ x u := by
  unfold sliceA at hl
  split at hl
  · rename_i lo' hi' g hol hoh hd
    have hf := (hP.of hd (by simp)).desc
    rw [hd] at hf
    obtain ⟨rfl, hsz⟩ := GRel.toStr hx
    simp only [Option.some.injEq, Prod.mk.injEq] at hl
    obtain ⟨hc, rfl⟩ := hl
    obtain ⟨h1, h2, h3⟩ := run_cut (P := P) (w := w) (isSlice := false) (optInt_rel hlo hlo' hol) (optInt_rel hhi hhi' hoh) (Nat.le_refl _) hc
    refine ⟨_, by simp [Instr.sliceAt, Instr.slice, run_underlying hf.1, h1], ARel.str ?_⟩
    simp only [ByteArray.size_extract]
    omega
  · rename_i lo' hi' e e' g hol hoh hd
    have hf := (hP.of hd (by simp)).desc
    rw [hd] at hf
    cases hb : Nat.beq e e' with
    | false => rw [hb] at hl; cases hl
    | true =>
      rw [hb] at hl
      obtain rfl := Nat.eq_of_beq_eq_true hb
      simp only [cond_true] at hl
      split at hl
      · rename_i n
        simp only [Option.some.injEq, Prod.mk.injEq] at hl
        obtain ⟨hc, rfl⟩ := hl
        obtain ⟨h0, h1⟩ := inRange_iff hc
        obtain ⟨k, m, he, rfl⟩ : ∃ k m, some n = some m ∧ vhi = some (.int k m) := (optInt_rel hhi hhi' hoh).resolve_left (fun h => by cases h.1)
        simp only [Option.some.injEq] at he
        subst he
        obtain ⟨_, rfl⟩ : (none : Option Int) = none ∧ vlo = none := (optInt_rel hlo hlo' hol).resolve_right (fun ⟨_, _, h, _⟩ => by cases h)
        rcases GRel.toSlice hx with ⟨rfl, hn⟩ | ⟨ad, cap, f, rfl, hz, hsp, hF, hlc, hm, hw, hg⟩
        · rw [hn] at h1
          obtain rfl : n = 0 := by simp at h1; omega
          refine ⟨.slice none 0 0, by simp [Instr.sliceAt, Instr.slice, run_underlying hf.1, run_front (P := P) (w := w) (n := 0) (cap := 0) (k := k) (m := 0) (Int.le_refl _) (Int.le_refl _), run_sizeOf' hP hf.2.2], ?_⟩
          refine GRel.nil ?_
          show g.all.take 0 ++ g.all.drop 0 = []
          rw [hn]; rfl
        · have hall : (frontOf g n.toNat).all = g.all := by
            show (g.all.take n.toNat) ++ (g.all.drop n.toNat) = _
            rw [List.take_append_drop]
          have hlen : (frontOf g n.toNat).asList.length = n.toNat := by
            show (g.all.take n.toNat).length = _
            rw [List.length_take]; omega
          by_cases hne : 0 < g.all.length
          case neg =>
            have hn0 : n = 0 := by omega
            subst hn0
            refine ⟨.slice (some ad) 0 cap, ?_, ?_⟩
            · simp only [Instr.sliceAt, Sem.run_bind, run_underlying hf.1, Result.andThen_ok, Instr.slice, run_front (P := P) (w := w) (n := g.asList.length) (cap := cap) (k := k) (m := 0) h0 (by omega), run_sizeOf' hP hf.2.2]
              split <;> simp [Addr.add]
            · suffices key : GRel (ttOf tl) w F (.slice e) (frontOf g 0) (.slice (some ad) (frontOf g 0).asList.length cap) by
                have hlen : (frontOf g 0).asList.length = 0 := hlen
                rw [hlen] at key; exact key
              have hall : (frontOf g 0).all = g.all := hall
              refine GRel.slice (tt := ttOf tl) (w := w) (F := F) (e := e) (g := frontOf g 0) ad cap f (fun h => Bool.noConfusion (show false = true from h)) (fun h0 => absurd (by rw [← hall]; exact h0) hne) (fun h0 => absurd (by rw [← hall]; exact h0) hne) (by rw [hall]; exact hlc) hm (fun i j hi hj => ?_) (fun i j hi hj => ?_)
              · rw [hall] at hi; exact hw i j hi hj
              · rw [hall] at hi ⊢; exact hg i j hi hj
          obtain ⟨ab, ao, asp⟩ := ad
          replace hsp := hsp hne
          replace hF := hF hne
          simp only at hsp hF; subst hsp
          refine ⟨.slice (some ⟨ab, ao, none⟩) n.toNat cap, ?_, ?_⟩
          · simp only [Instr.sliceAt, Sem.run_bind, run_underlying hf.1, Result.andThen_ok, Instr.slice, run_front (P := P) (w := w) (n := g.asList.length) (cap := cap) (k := k) (m := n) h0 (by omega), run_sizeOf' hP hf.2.2]
            split <;> simp [add_plain]
          · suffices key : GRel (ttOf tl) w F (.slice e) (frontOf g n.toNat) (.slice (some ⟨ab, ao, none⟩) (frontOf g n.toNat).asList.length cap) by
              rw [hlen] at key; exact key
            refine GRel.slice (tt := ttOf tl) (w := w) (F := F) (e := e) (g := frontOf g n.toNat) ⟨ab, ao, none⟩ cap f (fun h => Bool.noConfusion (show false = true from h)) (fun _ => rfl) (fun _ => hF) (by rw [hall]; exact hlc) hm (fun i j hi hj => ?_) (fun i j hi hj => ?_)
            · rw [hall] at hi; exact hw i j hi hj
            · rw [hall] at hi ⊢; exact hg i j hi hj
      simp only [Option.some.injEq, Prod.mk.injEq] at hl
      obtain ⟨hc, rfl⟩ := hl
      rcases GRel.toSlice hx with ⟨rfl, hn⟩ | ⟨ad, cap, f, rfl, _, hsp, hF, hlc, hm, hw, hg⟩
      · have hlen := all_nil_len hn
        rw [hlen] at hc
        obtain ⟨h1, h2, h3⟩ := run_cut (P := P) (w := w) (isSlice := true) (optInt_rel hlo hlo' hol) (optInt_rel hhi hhi' hoh) (Nat.le_refl 0) hc
        have e1 : (cutOf 0 lo' hi').2.1 = 0 := by omega
        have e2 : (cutOf 0 lo' hi').2.2 = 0 := by omega
        refine ⟨.slice none 0 0, by simp [Instr.sliceAt, Instr.slice, run_underlying hf.1, h1, e1, e2, run_sizeOf' hP hf.2.2], ?_⟩
        refine GRel.nil ?_
        have : g.asList = [] := List.eq_nil_of_length_eq_zero hlen
        show List.drop _ (List.take _ g.asList) ++ [] = []
        rw [this]; simp
      · have hle : g.asList.length ≤ g.all.length := by simp [GV.all]
        obtain ⟨h1, h2, h3⟩ := run_cut (P := P) (w := w) (isSlice := true) (optInt_rel hlo hlo' hol) (optInt_rel hhi hhi' hoh) (show g.asList.length ≤ cap by omega) hc
        generalize (cutOf g.asList.length lo' hi').2.1 = l at h1 h2 ⊢
        generalize (cutOf g.asList.length lo' hi').2.2 = hh at h1 h2 h3 ⊢
        refine ⟨.slice (some (if cap = l then ad else ad.add (l * (ttOf tl e).sz))) (hh - l) (cap - l), ?_, ?_⟩
        · simp only [Instr.sliceAt, Sem.run_bind, run_underlying hf.1, Result.andThen_ok, Instr.slice, h1, run_sizeOf' hP hf.2.2]
          split <;> rfl
        · have hRn : ∀ i, i < hh - l → nth ((g.asList.take hh).drop l) i = nth g.all (l + i) := by
            intro i hi
            rw [nth_take_drop _ _ _ _ h3 hi]
            simp only [nth, List.getD_eq_getElem?_getD, GV.all]
            rw [List.getElem?_append_left (by omega)]
          have hRl : ((g.asList.take hh).drop l).length = hh - l := by rw [List.length_drop, List.length_take]; omega
          generalize (g.asList.take hh).drop l = R at hRn hRl ⊢
          have hall : (GV.list 0 false R []).all = R := by simp [GV.all, GV.asList, GV.asSp]
          have hlen : (GV.list 0 false R []).asList.length = hh - l := hRl
          rw [← hlen]
          by_cases hne : 0 < g.all.length
          case neg =>
            have hR0 : R = [] := List.eq_nil_of_length_eq_zero (by omega)
            subst hR0
            exact GRel.slice _ (cap - l) (fun _ _ => default) (by simp [GV.asZ]) (fun h => by rw [hall] at h; simp at h) (fun h => by rw [hall] at h; simp at h) (by rw [hall]; simp) (by omega) (fun i j hi => by rw [hall] at hi; simp at hi) (fun i j hi => by rw [hall] at hi; simp at hi)
          replace hsp := hsp hne
          replace hF := hF hne
          obtain ⟨ab, ao, asp⟩ := ad
          simp only at hsp hF; subst hsp
          refine GRel.slice _ (cap - l) (fun i j => f (l + i) j) (by simp [GV.asZ]) ?_ ?_ ?_ (by omega) ?_ ?_
          · intro _; split <;> simp [add_plain]
          · intro _; split <;> simpa [add_plain] using hF
          · rw [hall]; omega
          · intro i j hi hj
            rw [hall] at hi
            rw [if_neg (by omega), add_plain]
            have := hw (l + i) j (by omega) hj
            rw [← this]; congr 2; simp only [Nat.add_mul]; omega
          · intro i j hi hj
            rw [hall] at hi ⊢
            have := hg (l + i) j (by omega) hj
            rw [hRn i (by omega)]; exact this
  · cases hl

theorem lenA_sound (hP : Facts P tl) (h : Rel (ttOf tl) W st a w ρ fp F) {t : TypeId} {y x : AV} {v : Value} {ty : TypeId} (hx : ARel (ttOf tl) w F st.roots ρ y v)
    (hl : lenA tl st t y = some (true, x)) : ∃ u, (Builtin.len_ #[t] ty #[v]).run P w = .ok u w ∧ ARel (ttOf tl) w F st.roots ρ x u := by
  have hi : ∀ (n : Nat), n ≤ maxLen → ARel (ttOf tl) w F st.roots ρ (.one (.s (.int .i64) (.int n))) (goInt n) := by
    intro n hn
    refine ARel.int (inK_mk ?_ ?_)
    · show (-9223372036854775808 : Int) ≤ _; omega
    · show (n : Int) ≤ 9223372036854775807; unfold maxLen at hn; omega
  unfold lenA at hl
  split at hl
  · rename_i g
    split at hl
    · rename_i hd
      have hf := (hP.of hd (by simp)).desc
      rw [hd] at hf
      obtain ⟨rfl, hsz⟩ := GRel.toStr hx
      simp only [ok1, Option.some.injEq, Prod.mk.injEq, true_and] at hl
      subst hl
      exact ⟨_, by simp [Builtin.len_, run_underlying hf.1], hi _ (by unfold MAXS at hsz; unfold maxLen; omega)⟩
    · cases hl
  · split at hl
    · rename_i hd
      have hf := (hP.of hd (by simp)).desc
      rw [hd] at hf
      have hx : v = .slice none 0 0 := hx
      subst hx
      simp only [ok1, Option.some.injEq, Prod.mk.injEq, true_and] at hl
      subst hl
      exact ⟨_, by simp [Builtin.len_, run_underlying hf.1], hi 0 (by simp)⟩
    · cases hl
  · split at hl
    · rename_i e g e' hs hd
      have hf := (hP.of hd (by simp)).desc
      rw [hd] at hf
      obtain ⟨A, c, rfl, hm, hc⟩ := (sliceG_rel hP h hx hs).lenS
      simp only [ok1, Option.some.injEq, Prod.mk.injEq, true_and] at hl
      subst hl
      exact ⟨_, by simp [Builtin.len_, run_underlying hf.1], hi _ (Nat.le_trans hc hm)⟩
    · cases hl

end
end Go.Eng

/- That the machine does what the steps say: all operations that only compute or read. Of no program. -/
namespace Go.Eng
set_option linter.unusedVariables false
set_option linter.unusedSimpArgs false
open Go.RowKit

theorem SRel.oneCell {tt : TT} {w : World} {F : Nat → Prop} {R : Roots} {ρ : Nat → RD} {x : SV} {v : Value} (h : SRel tt w F R ρ x v) (hx : liveS x = true)
    (hroot : ∀ e r, x = .ref e r [] → v.oneCell' = true) (hcell : ∀ b n, w.cell? ⟨b, n, none⟩ = some v → v.oneCell' = true) : v.oneCell' = true := by
  match x with
  | .dead => cases hx
  | .s k g => exact GRel.oneCell h
  | .nilS => have h : v = _ := h; subst h; rfl
  | .ref e r [] => exact hroot e r rfl
  | .ref e r (q :: p) => obtain ⟨rt, o, e0, l, b1, n1, h1, h2, h3, h4, h5, h6⟩ := h; exact hcell _ _ h6
  | .ptr r [] => obtain ⟨rt, o, e0, l, b1, n1, h1, h2, h3, h5, rfl⟩ := h; rfl
  | .ptr r [(i, j)] => obtain ⟨rt, b, h1, h2, h3, h4, h5, rfl⟩ := h; rfl
  | .ptr r (q :: q' :: p) => obtain ⟨rt, o, e0, l, b1, n1, h1, h2, h3, h5, rfl⟩ := h; rfl
  | .eptr e g off => obtain ⟨a, f, _, _, _, _, rfl⟩ := h; rfl
  | .aptr r cs off => obtain ⟨a, f, _, _, _, _, _, _, rfl⟩ := h; rfl

section
variable {P : Program} {tl : TL} {W : Base} {st : St} {a : Act} {w : World} {ρ : Nat → RD} {fp : Nat → Nat → Prop} {F : Nat → Prop} {ch : Chain}

theorem Rel.oneCell (hP : Facts P tl) (h : Rel (ttOf tl) W st a w ρ fp F) {x : SV} {v : Value} (hx : SRel (ttOf tl) w F st.roots ρ x v) (hl : liveS x = true) : v.oneCell' = true := by
  match x with
  | .dead => cases hl
  | .s k g => exact GRel.oneCell hx
  | .nilS => have h : v = _ := hx; subst h; rfl
  | .ref e r [] =>
    obtain ⟨⟨g, hg⟩, hv⟩ := hx
    have := h.root r _ hg
    rw [hv] at this
    exact Own.oneCell this
  | .ref e r (q :: p) =>
    obtain ⟨rt, o, e0, l, b1, n1, hg, hlst, hok, hk, hpl, hcell⟩ := hx
    obtain ⟨o2, S, hown, _⟩ := ref_cell hP h (p := q :: p) (g := getP (ttOf tl) e0 l (q :: p)) ⟨rt, o, e0, l, b1, n1, hg, hlst, hok, hk, hpl, hcell⟩ (by simp [contentOf, rootLst, hg, hlst])
    exact hown.oneCell
  | .ptr r [] => obtain ⟨rt, o, e0, l, b1, n1, h1, h2, h3, h5, rfl⟩ := hx; rfl
  | .ptr r [(i, j)] => obtain ⟨rt, b, h1, h2, h3, h4, h5, rfl⟩ := hx; rfl
  | .ptr r (q :: q' :: p) => obtain ⟨rt, o, e0, l, b1, n1, h1, h2, h3, h5, rfl⟩ := hx; rfl
  | .eptr e g off => obtain ⟨a, f, _, _, _, _, rfl⟩ := hx; rfl
  | .aptr r cs off => obtain ⟨a, f, _, _, _, _, _, _, rfl⟩ := hx; rfl

theorem cells_one {v : Value} (h : v.oneCell' = true) : v.cells = #[v] := by
  cases v <;> first | rfl | simp [Value.oneCell'] at h

/-- Cells, one by one. -/
def LRel (tt : TT) (w : World) (F : Nat → Prop) (R : Roots) (ρ : Nat → RD) (l : List SV) (cs : Array Value) : Prop :=
  cs.size = l.length ∧ ∀ (j : Nat) s u, l[j]? = some s → cs[j]? = some u → SRel tt w F R ρ s u

theorem cells1_rel (hP : Facts P tl) (h : Rel (ttOf tl) W st a w ρ fp F) {x : AV} {v : Value} {l : List SV} (hx : ARel (ttOf tl) w F st.roots ρ x v) (hl : cells1 tl x = some l) :
    LRel (ttOf tl) w F st.roots ρ l v.cells := by
  cases x with
  | one s =>
    simp only [cells1] at hl
    cases hs : liveS s with
    | false => rw [hs] at hl; cases hl
    | true =>
      rw [hs] at hl
      simp only [cond_true, Option.some.injEq] at hl
      subst hl
      rw [cells_one (h.oneCell hP hx hs)]
      refine ⟨rfl, fun j s' u h1 h2 => ?_⟩
      cases j with
      | zero => simp only [List.getElem?_cons_zero, Option.some.injEq] at h1; simp at h2; subst h1; subst h2; exact hx
      | succ j => simp at h1
  | a t g => obtain ⟨cs, rfl, h1, h2⟩ := cellsA_rel hx hl; exact ⟨h1, h2⟩
  | agg l' => obtain ⟨cs, rfl, h1, h2⟩ := cellsA_rel hx hl; exact ⟨h1, h2⟩

theorem foldl_set (vs : List Value) : ∀ (off k : Nat) (cs : Array Value), off + k + vs.length ≤ cs.size →
    (((vs.zipIdx k).foldl (fun cs (c, j) => cs.setIfInBounds (off + j) c) cs).size = cs.size ∧
    ∀ i, ((vs.zipIdx k).foldl (fun cs (c, j) => cs.setIfInBounds (off + j) c) cs)[i]? = if off + k ≤ i ∧ i < off + k + vs.length then vs[i - (off + k)]? else cs[i]?) := by
  induction vs with
  | nil => intro off k cs h; refine ⟨rfl, fun i => ?_⟩; simp; intro h1 h2; omega
  | cons v vs ih =>
    intro off k cs h
    simp only [List.zipIdx_cons, List.foldl_cons]
    have := ih off (k + 1) (cs.setIfInBounds (off + k) v) (by simp at h ⊢; omega)
    refine ⟨by rw [this.1]; simp, fun i => ?_⟩
    rw [this.2 i]
    simp only [List.length_cons] at h ⊢
    by_cases h1 : off + (k + 1) ≤ i ∧ i < off + (k + 1) + vs.length
    · rw [if_pos h1, if_pos (by omega)]
      rw [show i - (off + k) = (i - (off + (k + 1))) + 1 by omega, List.getElem?_cons_succ]
    · rw [if_neg h1]
      by_cases h2 : i = off + k
      · subst h2
        rw [if_pos (by omega), Nat.sub_self, List.getElem?_cons_zero, Array.getElem?_setIfInBounds_self_of_lt (by omega)]
      · rw [if_neg (by omega), Array.getElem?_setIfInBounds_ne (by omega)]

theorem fill_sound (hP : Facts P tl) (h : Rel (ttOf tl) W st a w ρ fp F) {place place' : Nat → Option (Nat × Nat)} (hpp : ∀ i x, place i = some x → place' i = some x) : ∀ (parts : List (Nat × AV)) (vs : List (Nat × Value)) (l l' : List SV) (cs : Array Value),
    LRel (ttOf tl) w F st.roots ρ l cs → parts.length = vs.length → (∀ (j i i' : Nat) (x : AV) (v : Value), parts[j]? = some (i, x) → vs[j]? = some (i', v) → i = i' ∧ ARel (ttOf tl) w F st.roots ρ x v) →
    fillS place tl l parts = some l' → ∃ cs', Instr.fill place' cs vs = some cs' ∧ LRel (ttOf tl) w F st.roots ρ l' cs' := by
  intro parts
  induction parts with
  | nil =>
    intro vs l l' cs hL hlen _ hf
    cases vs with
    | nil => simp only [fillS, Option.some.injEq] at hf; subst hf; exact ⟨cs, rfl, hL⟩
    | cons => cases hlen
  | cons px parts ih =>
    intro vs l l' cs hL hlen hr hf
    obtain ⟨i, x⟩ := px
    cases vs with
    | nil => cases hlen
    | cons pv vs =>
      obtain ⟨i', v⟩ := pv
      obtain ⟨rfl, hx⟩ := hr 0 i i' x v rfl rfl
      simp only [fillS] at hf
      split at hf
      · rename_i o n xs hpl hxs
        cases hc : Nat.beq xs.length n && Nat.ble (o + n) l.length with
        | false => rw [hc] at hf; cases hf
        | true =>
          rw [hc] at hf
          simp only [Bool.and_eq_true] at hc
          have h1 := Nat.eq_of_beq_eq_true hc.1
          have h2 := Nat.le_of_ble_eq_true hc.2
          simp only [cond_true] at hf
          have hxc := cells1_rel hP h hx hxs
          have hvs : v.cells.size = n := by rw [hxc.1, h1]
          have hcs : o + n ≤ cs.size := by rw [hL.1]; exact h2
          simp only [Instr.fill, hpp _ _ hpl]
          rw [if_neg (by rw [hvs]; simp; omega)]
          have hfold := foldl_set v.cells.toList o 0 cs (by simp [hvs]; omega)
          have hz : v.cells.zipIdx.foldl (fun cs (c, j) => cs.setIfInBounds (o + j) c) cs = (v.cells.toList.zipIdx 0).foldl (fun cs (c, j) => cs.setIfInBounds (o + j) c) cs := by
            rw [← Array.foldl_toList, Array.toList_zipIdx]
          rw [hz]
          refine ih vs _ l' _ ?_ (by simpa using hlen) (fun j i i' x v h1 h2 => hr (j + 1) i i' x v h1 h2) hf
          refine ⟨?_, fun j s u hs hu => ?_⟩
          · rw [hfold.1, hL.1]; simp [h1]; omega
          · rw [hfold.2 j] at hu
            simp only [Nat.add_zero, Array.length_toList, hvs] at hu
            have hto : (l.take o).length = o := by rw [List.length_take]; omega
            by_cases hin : o ≤ j ∧ j < o + n
            · rw [if_pos hin] at hu
              rw [List.append_assoc, List.getElem?_append_right (by omega), hto, List.getElem?_append_left (by omega)] at hs
              exact hxc.2 _ _ _ hs (by simpa using hu)
            · rw [if_neg hin] at hu
              by_cases hlt : j < o
              · rw [List.append_assoc, List.getElem?_append_left (by omega), List.getElem?_take, if_pos hlt] at hs
                exact hL.2 _ _ _ hs hu
              · rw [List.getElem?_append_right (by simp [hto, h1]; omega), List.getElem?_drop] at hs
                simp only [List.length_append, hto, h1] at hs
                rw [show o + n + (j - (o + n)) = j by omega] at hs
                exact hL.2 _ _ _ hs hu
      · cases hf

theorem zeroSV_rel {k : CK} (hk : k ≠ .other) : SRel (ttOf tl) w F st.roots ρ (zeroSV k) (zeroV k) := by
  cases k with
  | int k => exact GRel.int (g := .int 0) (by cases k <;> rfl)
  | bool => exact GRel.bool (g := .bool false)
  | str => exact GRel.str (g := .str ⟨#[]⟩) (by simp [GV.asStr, ByteArray.size])
  | slice e => rfl
  | fn => exact GRel.nilFn
  | iface => exact GRel.nilIface
  | other => exact absurd rfl hk

theorem run_mapM_places (hP : Facts P tl) (l : List Go.Field) (h : ∀ fd ∈ l, known tl fd.type = true) :
    (l.mapM fun f => do pure (f.offset, ← sizeOf f.type) : Sem (List (Nat × Nat))).run P w = .ok (l.map fun f => (f.offset, (ttOf tl f.type).sz)) w := by
  induction l with
  | nil => rfl
  | cons fd l ih =>
    have h1 := ih (fun x hx => h x (List.mem_cons_of_mem _ hx))
    have h2 := run_sizeOf' (P := P) (w := w) hP (h fd (List.mem_cons_self ..))
    simp only [List.mapM_cons, Sem.run_bind, h2, Result.andThen_ok, Sem.run_pure, h1, List.map_cons]

theorem buildA_sound (hP : Facts P tl) (h : Rel (ttOf tl) W st a w ρ fp F) {t : TypeId} {parts : List (Nat × AV)} {vs : List (Nat × Value)} {x : AV} (hlen : parts.length = vs.length)
    (hr : ∀ (j i i' : Nat) (x : AV) (v : Value), parts[j]? = some (i, x) → vs[j]? = some (i', v) → i = i' ∧ ARel (ttOf tl) w F st.roots ρ x v)
    (hl : buildA tl t parts = some (true, x)) : ∃ u, (Instr.build t vs.toArray).run P w = .ok u w ∧ ARel (ttOf tl) w F st.roots ρ x u := by
  unfold buildA at hl
  cases hc : known tl t && (ttOf tl t).agg && zeroOk (ttOf tl t) && hasPl (ttOf tl t).desc with
  | false => rw [hc] at hl; cases hl
  | true =>
    rw [hc] at hl
    simp only [Bool.and_eq_true] at hc
    obtain ⟨⟨⟨hk, hag⟩, hz⟩, hd0⟩ := hc
    simp only [cond_true, Option.map_eq_some_iff, Prod.mk.injEq, true_and] at hl
    obtain ⟨l', hf, rfl⟩ := hl
    obtain ⟨i, hi, hsz, hby, hzero⟩ := (hP.t t hk).info
    have hzero := hzero hz
    have hzv : (ttOf tl t).zeroV.cells = ((ttOf tl t).cells.map zeroV).toArray := by unfold TI.zeroV; rw [hag]; rfl
    have hL0 : LRel (ttOf tl) w F st.roots ρ ((ttOf tl t).cells.map zeroSV) (ttOf tl t).zeroV.cells := by
      rw [hzv]
      refine ⟨by simp, fun j s u hs hu => ?_⟩
      simp only [List.getElem?_map, List.getElem?_toArray, Option.map_eq_some_iff] at hs hu
      obtain ⟨k, hk1, rfl⟩ := hs
      obtain ⟨k2, hk2, rfl⟩ := hu
      obtain rfl : k = k2 := by rw [hk1] at hk2; exact Option.some.inj hk2
      refine zeroSV_rel ?_
      rintro rfl
      unfold zeroOk at hz
      have := List.all_eq_true.1 hz _ (List.mem_of_getElem? hk1)
      cases this
    have hdesc := (hP.t t hk).desc
    unfold hasPl at hd0
    split at hd0
    · rename_i fs hd
      rw [hd] at hdesc
      obtain ⟨_, fields, hu, hsize, hfs⟩ := hdesc
      have hfk : ∀ fd ∈ fields.toList, known tl fd.type = true := by
        intro fd hfd
        obtain ⟨i, hi, rfl⟩ := List.mem_iff_getElem.1 hfd
        have hi' : i < fs.length := by rw [← hsize]; simpa using hi
        obtain ⟨fd', h1, h2, h3, h4, _⟩ := hfs i fs[i].1 fs[i].2 (by simp [hi'])
        have : fields.toList[i] = fd' := by
          have h5 : fields[i]? = some fields.toList[i] := by simp at hi; simp [hi]
          rw [h1] at h5; exact (Option.some.inj h5).symm
        rw [this, h3]; exact h4
      have hplace : ∀ i, ((fields.toList.map fun f => (f.offset, (ttOf tl f.type).sz)).toArray[i]? : Option (Nat × Nat)) = placeOfT tl t i := by
        intro i
        unfold placeOfT
        rw [hd]
        simp only [List.getElem?_toArray, List.getElem?_map, Array.getElem?_toList]
        cases hfi : fs[i]? with
        | none =>
          have : fields[i]? = none := by
            rw [Array.getElem?_eq_none_iff]; rw [List.getElem?_eq_none_iff] at hfi; omega
          rw [this]; rfl
        | some q =>
          obtain ⟨o, ft⟩ := q
          obtain ⟨fd, h1, h2, h3, _⟩ := hfs i o ft hfi
          rw [h1]; simp [h2, h3]
      obtain ⟨cs', hfill, hL⟩ := fill_sound hP h (place := placeOfT tl t) (place' := fun i => (fields.toList.map fun f => (f.offset, (ttOf tl f.type).sz)).toArray[i]?) (fun i x hx => (hplace i).trans hx) parts vs _ l' _ hL0 hlen hr hf
      refine ⟨.agg cs', ?_, cs', rfl, hL⟩
      have hm := run_mapM_places (P := P) (w := w) hP fields.toList hfk
      have hm' : (fields.mapM fun f => do pure (f.offset, ← sizeOf f.type) : Sem (Array (Nat × Nat))).run P w = .ok (fields.toList.map fun f => (f.offset, (ttOf tl f.type).sz)).toArray w := by
        rw [Array.mapM_eq_mapM_toList]
        simp only [Sem.run_map, hm, Result.andThen_ok]
      unfold Instr.build
      simp only [Sem.run_bind, zeroValue, typeInfo, run_program, hi, Result.andThen_ok, Sem.run_pure, hzero, run_underlying hu, hm', hfill]
    · rename_i n e hd
      rw [hd] at hdesc
      obtain ⟨_, hu, hke, _⟩ := hdesc
      obtain ⟨cs', hfill, hL⟩ := fill_sound hP h (place := placeOfT tl t) (place' := fun i => some (i * (ttOf tl e).sz, (ttOf tl e).sz)) (fun i x hx => by
        unfold placeOfT at hx; rw [hd] at hx; dsimp only at hx
        cases hb : Nat.blt i n with
        | false => rw [hb] at hx; cases hx
        | true => rw [hb] at hx; exact hx) parts vs _ l' _ hL0 hlen hr hf
      refine ⟨.agg cs', ?_, cs', rfl, hL⟩
      unfold Instr.build
      simp only [Sem.run_bind, zeroValue, typeInfo, run_program, hi, Result.andThen_ok, Sem.run_pure, hzero, run_underlying hu, run_sizeOf' hP hke, hfill]
    · cases hd0

theorem makeIfaceA_sound (hP : Facts P tl) (h : Rel (ttOf tl) W st a w ρ fp F) {t : TypeId} {y x : AV} {v : Value} (hx : ARel (ttOf tl) w F st.roots ρ y v)
    (hl : makeIfaceA tl t y = some (true, x)) : ∃ u, (Instr.makeInterface t v).run P w = .ok u w ∧ ARel (ttOf tl) w F st.roots ρ x u := by
  unfold makeIfaceA at hl
  dsimp only at hl
  cases hc : known tl t && !(decide ((ttOf tl t).cells = [.iface])) with
  | false => rw [hc] at hl; cases hl
  | true =>
    rw [hc] at hl
    simp only [Bool.and_eq_true, Bool.not_eq_true', decide_eq_false_iff_not] at hc
    obtain ⟨hk, hni⟩ := hc
    obtain ⟨d, hd, hiff, hnot⟩ := (hP.t t hk).agg
    have hnot := hnot hni
    have hrun : (Instr.makeInterface t v).run P w = .ok (.iface t v) w := by
      unfold Instr.makeInterface
      simp only [Sem.run_bind, run_underlying hd, Result.andThen_ok]
      cases d <;> first | rfl | exact absurd rfl (hnot _)
    refine ⟨_, hrun, ?_⟩
    simp only [cond_true] at hl
    split at hl
    · rename_i s
      cases hag : (ttOf tl t).agg with
      | true => rw [hag] at hl; cases hl
      | false =>
        rw [hag] at hl
        simp only [Bool.not_false, cond_true, Option.bind_eq_some_iff] at hl
        obtain ⟨gs, hg, hl⟩ := hl
        have h1 := (hP.t t hk).one hag
        obtain ⟨hlen, hgr⟩ := groundL_rel (st := st) (ρ := ρ) (F := F) (w := w) (ttOf tl t).cells [s] gs [v] rfl (fun j s' u h1 h2 => by
          cases j with
          | zero => simp only [List.getElem?_cons_zero, Option.some.injEq] at h1 h2; subst h1; subst h2; exact hx
          | succ j => simp at h1) hg
        obtain ⟨u, hu, hgu⟩ := hgr 0 (by unfold TI.sz at h1; omega)
        simp only [List.getElem?_cons_zero, Option.some.injEq] at hu
        subst hu
        match gs, hl with
        | [g], hl =>
          simp only [ok1, Option.some.injEq, Prod.mk.injEq, true_and] at hl
          subst hl
          exact GRel.ifaceS hag hgu
    · rename_i t' g
      cases hb : Nat.beq t t' && (ttOf tl t).agg && (ttOf tl t).cells.all notSl with
      | false => rw [hb] at hl; cases hl
      | true =>
        rw [hb] at hl
        simp only [Bool.and_eq_true] at hb
        obtain rfl := Nat.eq_of_beq_eq_true hb.1.1
        simp only [cond_true, ok1, Option.some.injEq, Prod.mk.injEq, true_and] at hl
        subst hl
        obtain ⟨hag, cs, rfl, hs, hg⟩ := hx
        have hex : ∀ j, ∃ u, j < (ttOf tl t).sz → cs[j]? = some u := by
          intro j
          by_cases hj : j < (ttOf tl t).sz
          · exact ⟨cs[j]'(by omega), fun _ => by simp [show j < cs.size by omega]⟩
          · exact ⟨default, fun h => absurd h hj⟩
        obtain ⟨f, hf⟩ := Classical.axiomOfChoice hex
        exact GRel.ifaceA cs f hag hs hf (fun j hj => hg j _ (hf j hj))
    · rename_i l
      cases hag : (ttOf tl t).agg with
      | false => rw [hag] at hl; cases hl
      | true =>
        rw [hag] at hl
        simp only [cond_true, Option.bind_eq_some_iff] at hl
        obtain ⟨gs, hg, hl⟩ := hl
        simp only [ok1, Option.some.injEq, Prod.mk.injEq, true_and] at hl
        subst hl
        obtain ⟨cs, rfl, hs, hr⟩ := hx
        obtain ⟨hlen, hgr⟩ := groundL_rel (st := st) (ρ := ρ) (F := F) (w := w) (ttOf tl t).cells l gs cs.toList (by simp [hs]) (fun j s u h1 h2 => hr j s u h1 (by simpa using h2)) hg
        have hex : ∀ j, ∃ u, j < (ttOf tl t).sz → cs[j]? = some u ∧ GRel (ttOf tl) w F ((ttOf tl t).cells.getD j .other) (gs.getD j .moved) u := by
          intro j
          by_cases hj : j < (ttOf tl t).sz
          · obtain ⟨u, hu, hg⟩ := hgr j hj; exact ⟨u, fun _ => ⟨by simpa using hu, hg⟩⟩
          · exact ⟨default, fun h => absurd h hj⟩
        obtain ⟨f, hf⟩ := Classical.axiomOfChoice hex
        exact GRel.ifaceA cs f hag (by unfold TI.sz; rw [hlen]; simp) (fun j hj => (hf j hj).1) (fun j hj => (hf j hj).2)

theorem inK_maxI {k : IntKind} {x y : Int} (hx : inK k x) (hy : inK k y) : inK k (maxI x y) := by unfold maxI; split <;> assumption
theorem inK_minI {k : IntKind} {x y : Int} (hx : inK k x) (hy : inK k y) : inK k (minI x y) := by unfold minI; split <;> assumption

theorem foldI_sound {f : Int → Int → Int} {g : Value → Value → Sem Value} {k : IntKind} (hfg : ∀ x y, (g (.int k x) (.int k y)).run P w = .ok (.int k (f x y)) w) (hk : ∀ x y, inK k x → inK k y → inK k (f x y)) :
    ∀ (l : List AV) (vs : List Value) (x n : Int), l.length = vs.length → (∀ (j : Nat) s u, l[j]? = some s → vs[j]? = some u → ARel (ttOf tl) w F st.roots ρ s u) → inK k x → foldI f k x l = some n →
    (vs.foldlM g (.int k x)).run P w = .ok (.int k n) w ∧ inK k n := by
  intro l
  induction l with
  | nil =>
    intro vs x n hlen _ hx h
    cases vs with
    | nil => simp only [foldI, Option.some.injEq] at h; subst h; exact ⟨rfl, hx⟩
    | cons => cases hlen
  | cons s l ih =>
    intro vs x n hlen hr hx h
    cases vs with
    | nil => cases hlen
    | cons u vs =>
      have h0 := hr 0 s u rfl rfl
      match s, h, h0 with
      | .one (.s (.int k') gg), h, h0 =>
        simp only [foldI] at h
        by_cases hkk : k = k'
        · subst hkk
          simp only [decide_true, cond_true] at h
          obtain ⟨rfl, hu⟩ := GRel.toInt h0
          have := ih vs (f x gg.asInt) n (by simpa using hlen) (fun j s u h1 h2 => hr (j + 1) s u h1 h2) (hk _ _ hx hu) h
          simp only [List.foldlM_cons, Sem.run_bind, hfg, Result.andThen_ok]
          exact this
        · simp [hkk] at h

theorem chMet_cons {tm : Array Value} {d : Nat} {c : Bool} (hch : ChMet tm ch) (hd : tm[d]? = some (.bool c)) : ChMet tm ((d, c) :: ch) := by
  intro d' c' h
  simp only [inChain] at h
  cases hb : Nat.beq d d' && (c == c') with
  | true =>
    simp only [Bool.and_eq_true, beq_iff_eq] at hb
    obtain rfl := Nat.eq_of_beq_eq_true hb.1
    rw [← hb.2]; exact hd
  | false => rw [hb] at h; exact hch d' c' h

theorem vstep_sound (hP : Facts P tl) (h : Rel (ttOf tl) W st a w ρ fp F) (hch : ChMet a.tmps ch) {o : Oper} {x : AV} (hl : vstep tl st ch o.op = some (true, x)) :
    ∃ v, (execOp a.eval o).run P w = .ok (.value v) w ∧ ARel (ttOf tl) w F st.roots ρ x v := by
  have lift : ∀ {s : Sem Value} {v : Value}, s.run P w = .ok v w → (do pure (.value (← s)) : Sem Next).run P w = .ok (.value v) w := by
    intro s v hs; simp [hs]
  have hE := fun x => h.evalA hch x
  unfold execOp
  match hop : o.op with
  | .move y =>
    rw [hop] at hl; simp only [vstep, Option.some.injEq, Prod.mk.injEq, true_and] at hl; subst hl
    exact ⟨_, rfl, hE y⟩
  | .assign y =>
    rw [hop] at hl; simp only [vstep, Option.some.injEq, Prod.mk.injEq, true_and] at hl; subst hl
    exact ⟨_, rfl, hE y⟩
  | .load t y =>
    rw [hop] at hl; obtain ⟨u, hu, hx⟩ := loadA_sound hP h (hE y) hl
    exact ⟨u, lift hu, hx⟩
  | .fieldAddr s y f =>
    rw [hop] at hl; obtain ⟨u, hu, hx⟩ := fieldAddrA_sound hP (hE y) hl
    exact ⟨u, lift hu, hx⟩
  | .field s y f =>
    rw [hop] at hl; obtain ⟨u, hu, hx⟩ := fieldA_sound hP (hE y) hl
    exact ⟨u, lift hu, hx⟩
  | .indexAddr t y ix =>
    rw [hop] at hl; obtain ⟨u, hu, hx⟩ := indexAddrA_sound hP h (hE y) (hE ix) hl
    exact ⟨u, lift hu, hx⟩
  | .index t y ix =>
    rw [hop] at hl; obtain ⟨u, hu, hx⟩ := indexA_sound hP (hE y) (hE ix) hl
    exact ⟨u, lift hu, hx⟩
  | .binOp op t y z zt =>
    rw [hop] at hl; obtain ⟨u, hu, hx⟩ := binA_sound (xo := y) hP (hE y) (hE z) hl
    exact ⟨u, lift hu, hx⟩
  | .unOp op t y =>
    rw [hop] at hl; obtain ⟨u, hu, hx⟩ := unA_sound (hE y) hl
    exact ⟨u, lift hu, hx⟩
  | .convert s d y =>
    rw [hop] at hl; simp only [vstep] at hl
    cases hk : known tl s with
    | false => rw [hk] at hl; cases hl
    | true =>
      rw [hk] at hl
      obtain ⟨u, hu, hx⟩ := convA_sound hP h hk (hE y) hl
      exact ⟨u, lift hu, hx⟩
  | .makeInterface t y =>
    rw [hop] at hl; obtain ⟨u, hu, hx⟩ := makeIfaceA_sound hP h (hE y) hl
    exact ⟨u, lift hu, hx⟩
  | .pick (.tmp dc) y z =>
    rw [hop] at hl; simp only [vstep] at hl
    split at hl
    · rename_i c b1 b2 hc h1 h2
      have h0 := boolOf_rel (hE (.tmp dc)) hc
      have h0' : a.tmps[dc]? = some (.bool c) := by
        have : a.tmps.getD dc undef = .bool c := h0
        rw [Array.getD_eq_getD_getElem?] at this
        cases ht : a.tmps[dc]? with
        | none => rw [ht] at this; cases this
        | some v => rw [ht] at this; simp at this; rw [this]
      obtain rfl := ok1_eq hl
      cases c with
      | true =>
        have := boolOf_rel (h.evalA (chMet_cons hch h0') y) h1
        exact ⟨.bool b1, by simp only [h0]; simp [asBool, this], ARel.bool⟩
      | false =>
        have := boolOf_rel (h.evalA (chMet_cons hch h0') z) h2
        exact ⟨.bool b2, by simp only [h0]; simp [asBool, this], ARel.bool⟩
    · cases hl
  | .slice t y lo hi none =>
    rw [hop] at hl
    have e1 : ∀ (q : Option Operand), ∀ x v, (q.map fun o => strip ch (evalO st o)) = some x → q.map a.eval = some v → ARel (ttOf tl) w F st.roots ρ x v := by
      intro q x v h1 h2
      cases q with
      | none => cases h1
      | some q => simp only [Option.map_some, Option.some.injEq] at h1 h2; subst h1; subst h2; exact hE q
    obtain ⟨u, hu, hx⟩ := sliceA_sound hP (hE y) (e1 lo) (by cases lo <;> rfl) (e1 hi) (by cases hi <;> rfl) hl
    exact ⟨u, lift hu, hx⟩
  | .nilCheck y =>
    rw [hop] at hl; simp only [vstep] at hl
    split at hl
    · rename_i r p hy
      obtain rfl := ok1_eq hl
      have := hE y
      rw [hy] at this
      have h0 : ∃ ad, a.eval y = .pointer (some ad) := by
        match p, this with
        | [], ⟨rt, o, e0, l, b1, n1, h1, h2, h3, h5, h6⟩ => exact h3.elim
        | [(i, j)], ⟨rt, b, h1, h2, h3, h4, h5, h6⟩ => exact ⟨_, h6⟩
        | q :: q' :: p, ⟨rt, o, e0, l, b1, n1, h1, h2, h3, h5, h6⟩ => exact ⟨_, h6⟩
      obtain ⟨ad, had⟩ := h0
      refine ⟨a.eval y, ?_, this⟩
      dsimp only
      rw [had]; rfl
    · cases hl
  | .build t parts =>
    rw [hop] at hl
    obtain ⟨u, hu, hx⟩ := buildA_sound hP h (vs := (parts.map fun (i, x) => (i, a.eval x)).toList) (by simp) (by
      intro j i i' x v h1 h2
      simp only [List.getElem?_map, Array.toList_map, Option.map_eq_some_iff, Prod.mk.injEq, Prod.exists] at h1 h2
      obtain ⟨i1, o1, h1, rfl, rfl⟩ := h1
      obtain ⟨i2, o2, h2, rfl, rfl⟩ := h2
      rw [h1] at h2
      simp only [Option.some.injEq, Prod.mk.injEq] at h2
      obtain ⟨rfl, rfl⟩ := h2
      exact ⟨rfl, hE o1⟩) hl
    refine ⟨u, lift ?_, hx⟩
    have e : ∀ (f : Nat × Operand → Nat × Value), (parts.map f).toList.toArray = parts.map f := fun f => Array.toArray_toList
    rw [e] at hu; exact hu
  | .extract (.tmp d) ix =>
    rw [hop] at hl; simp only [vstep] at hl
    split at hl
    · rename_i l hd
      simp only [Option.map_eq_some_iff, Prod.mk.injEq, true_and] at hl
      obtain ⟨x', hl, rfl⟩ := hl
      have := h.evalP (.tmp d)
      simp only [evalO] at this
      rw [hd] at this
      obtain ⟨vs, hv, hs, hr⟩ := this
      have hix : ix < vs.size := by rw [hs]; exact (List.getElem?_eq_some_iff.1 hl).1
      refine ⟨vs[ix], ?_, hr ix _ _ hl (by simp [hix])⟩
      dsimp only
      rw [hv]
      refine lift ?_
      simp [Instr.extract, hix]
    · cases hl
  | .call c =>
    rw [hop] at hl
    obtain ⟨callee, args, ats⟩ := c
    match callee with
    | .builtin .len =>
      simp only [vstep] at hl
      split at hl
      · rename_i y t ha ht
        obtain ⟨u, hu, hx⟩ := lenA_sound (ty := o.type) hP h (hE y) hl
        refine ⟨u, ?_, hx⟩
        obtain rfl : args = #[y] := by rw [← Array.toArray_toList (xs := args), ha]
        obtain rfl : ats = #[t] := by rw [← Array.toArray_toList (xs := ats), ht]
        simp only [resolve, Sem.run_bind, Sem.run_pure, Result.andThen_ok, invoke, builtin]
        have e : Array.map a.eval #[y] = #[a.eval y] := by simp
        rw [e]; simp only [hu, Result.andThen_ok]
      · cases hl
    | .builtin .max =>
      simp only [vstep] at hl
      split at hl
      · rename_i k g t ha
        simp only [Option.bind_eq_some_iff] at hl
        obtain ⟨n, hn, hl⟩ := hl
        obtain rfl := ok1_eq hl
        obtain ⟨al⟩ := args
        cases al with
        | nil => simp at ha
        | cons y ys =>
          simp only [List.map_cons, List.cons.injEq] at ha
          obtain ⟨hy, rfl⟩ := ha
          have h0 := hE y
          rw [hy] at h0
          obtain ⟨hv, hk⟩ := GRel.toInt h0
          obtain ⟨h1, h2⟩ := foldI_sound (P := P) (w := w) (F := F) (st := st) (ρ := ρ) (f := maxI) (g := Builtin.max2) (k := k) (fun x y => rfl) (fun x y => inK_maxI) _ (ys.map a.eval) g.asInt n (by simp) (by
            intro j s u h1 h2
            simp only [List.getElem?_map, Option.map_eq_some_iff] at h1 h2
            obtain ⟨o1, h1, rfl⟩ := h1
            obtain ⟨o2, h2, rfl⟩ := h2
            rw [h1] at h2; obtain rfl := Option.some.inj h2
            exact hE o1) hk hn
          refine ⟨.int k n, ?_, ARel.int h2⟩
          simp only [resolve, Sem.run_bind, Sem.run_pure, Result.andThen_ok, invoke, builtin, Builtin.max_, List.map_toArray, List.map_cons, hv, h1]
      · cases hl
    | .builtin .min =>
      simp only [vstep] at hl
      split at hl
      · rename_i k g t ha
        simp only [Option.bind_eq_some_iff] at hl
        obtain ⟨n, hn, hl⟩ := hl
        obtain rfl := ok1_eq hl
        obtain ⟨al⟩ := args
        cases al with
        | nil => simp at ha
        | cons y ys =>
          simp only [List.map_cons, List.cons.injEq] at ha
          obtain ⟨hy, rfl⟩ := ha
          have h0 := hE y
          rw [hy] at h0
          obtain ⟨hv, hk⟩ := GRel.toInt h0
          obtain ⟨h1, h2⟩ := foldI_sound (P := P) (w := w) (F := F) (st := st) (ρ := ρ) (f := minI) (g := Builtin.min2) (k := k) (fun x y => rfl) (fun x y => inK_minI) _ (ys.map a.eval) g.asInt n (by simp) (by
            intro j s u h1 h2
            simp only [List.getElem?_map, Option.map_eq_some_iff] at h1 h2
            obtain ⟨o1, h1, rfl⟩ := h1
            obtain ⟨o2, h2, rfl⟩ := h2
            rw [h1] at h2; obtain rfl := Option.some.inj h2
            exact hE o1) hk hn
          refine ⟨.int k n, ?_, ARel.int h2⟩
          simp only [resolve, Sem.run_bind, Sem.run_pure, Result.andThen_ok, invoke, builtin, Builtin.min_, List.map_toArray, List.map_cons, hv, h1]
      · cases hl
    | .builtin .append | .builtin .cap | .builtin .clear | .builtin .close | .builtin .complex | .builtin .copy | .builtin .delete | .builtin .imag | .builtin .panic | .builtin .print | .builtin .println | .builtin .real | .builtin .recover | .builtin .make | .builtin .new | .builtin .unsafeAdd | .builtin .unsafeSlice | .builtin .unsafeSliceData | .builtin .unsafeString | .builtin .unsafeStringData | .builtin .unsafeSizeof | .builtin .unsafeAlignof | .builtin .unsafeOffsetof => cases hl
    | .value f => cases hl
    | .invoke r n => cases hl
  | .alloc .. | .box .. | .buildSlice .. | .store .. | .ready .. | .waits .. | .sliceToArrayPointer .. | .makeFunc .. | .makeMap .. | .makeChan .. | .makeSlice .. | .mapUpdate .. | .insert .. | .mapEntry .. | .entryStore .. | .lookup .. | .range .. | .next .. | .entry .. | .typeAssert .. | .go .. | .defer .. | .panic .. | .send .. | .recv .. | .select .. => rw [hop] at hl; cases hl
  | .pick (.const _) _ _ | .pick (.global _) _ _ | .pick (.func _) _ _ => rw [hop] at hl; cases hl
  | .extract (.const _) _ | .extract (.global _) _ | .extract (.func _) _ => rw [hop] at hl; cases hl
  | .slice _ _ _ _ (some _) => rw [hop] at hl; cases hl

end
end Go.Eng

/- Roots that are made, used up, frozen. Of no program. -/
namespace Go.Eng
set_option linter.unusedVariables false
set_option linter.unusedSimpArgs false
open Go.RowKit

def delRs : Roots → List Nat → Roots
  | l, [] => l
  | l, r :: t => delRs (delR l r) t
theorem getR_delRs (cs : List Nat) : ∀ (l : Roots) (r : Nat), getR (delRs l cs) r = if r ∈ cs then none else getR l r := by
  induction cs with
  | nil => intro l r; simp [delRs]
  | cons c cs ih =>
    intro l r
    simp only [delRs, ih, getR_delR, List.mem_cons]
    by_cases h1 : r ∈ cs
    · simp [h1]
    · by_cases h2 : r = c <;> simp [h1, h2]

def memN : List Nat → Nat → Bool
  | [], _ => false
  | c :: cs, r => bif Nat.beq c r then true else memN cs r
theorem memN_iff {cs : List Nat} {r : Nat} : memN cs r = true ↔ r ∈ cs := by
  induction cs with
  | nil => simp [memN]
  | cons c cs ih =>
    simp only [memN, List.mem_cons]
    by_cases h : c = r
    · subst h; simp
    · rw [beq_ff h]; simp [ih, Ne.symm h]
def nodupN : List Nat → Bool
  | [] => true
  | c :: cs => bif memN cs c then false else nodupN cs
theorem nodupN_iff {cs : List Nat} (h : nodupN cs = true) : cs.Nodup := by
  induction cs with
  | nil => simp
  | cons c cs ih =>
    simp only [nodupN] at h
    cases hm : memN cs c with
    | true => rw [hm] at h; cases h
    | false =>
      rw [hm] at h
      refine List.nodup_cons.2 ⟨fun hc => ?_, ih h⟩
      rw [memN_iff.2 hc] at hm; cases hm

section
variable {P : Program} {tl : TL} {W : Base} {st : St} {a : Act} {w : World} {ρ : Nat → RD} {fp : Nat → Nat → Prop} {F : Nat → Prop} {ch : Chain}

/-- Roots used up, one root made anew. -/
theorem Rel.cons {tt : TT} (hagg : Agg tt) (h : Rel tt W st a w ρ fp F) {w' : World} (cs : List Nat) (r : Nat) (rt : Root) (rd : RD) (S : Nat → Prop) (same : Bool)
    (hb : Below W.heap.size w w') (hw : ∀ b, F b → w'.heap[b]? = w.heap[b]?)
    (hS : ∀ r' rt', r' ∉ cs → r' ≠ r → getR st.roots r' = some rt' → ∀ b, fp r' b → w'.heap[b]? = w.heap[b]?)
    (hroot : RootRel tt w' F rt rd S)
    (hSf : ∀ b, S b → (w.heap.size ≤ b ∧ b < w'.heap.size) ∨ ∃ r' rt', (r' ∈ cs ∨ r' = r) ∧ getR st.roots r' = some rt' ∧ fp r' b)
    (hT1 : same = true → r ∉ cs ∧ ∀ rt0, getR st.roots r = some rt0 → rt.shape = rt0.shape ∧ rd.base = (ρ r).base ∧ ∀ e g, rt0 = .val e g → rd = ρ r ∧ ∃ g', rt = .val e g') :
    Rel tt W ⟨st.n, mapT (keepT (fun x => memN (r :: cs) x) (fun x => same && Nat.beq x r)) st.tmps, setR (delRs st.roots cs) r rt⟩ a w' (upd ρ r rd) (upd fp r S) F := by
  have hT : ∀ {r'}, memN (r :: cs) r' = false → r' ≠ r ∧ r' ∉ cs := by
    intro r' h'
    refine ⟨fun h => ?_, fun h => ?_⟩
    · rw [memN_iff.2 (by rw [h]; exact List.mem_cons_self ..)] at h'; cases h'
    · rw [memN_iff.2 (List.mem_cons_of_mem _ h)] at h'; cases h'
  have hg : ∀ {r' rt'}, memN (r :: cs) r' = true → getR (setR (delRs st.roots cs) r rt) r' = some rt' → r' = r ∧ rt' = rt := by
    intro r' rt' hm h'
    rw [getR_setR] at h'
    by_cases h2 : r' = r
    · rw [if_pos h2] at h'; exact ⟨h2, (Option.some.inj h').symm⟩
    · rw [if_neg h2, getR_delRs, if_pos ((List.mem_cons.1 (memN_iff.1 hm)).resolve_left h2)] at h'; cases h'
  refine h.turnT hagg _ _ hb (fun _ h => h) (fun _ h _ => h) (fun b hb' => Nat.lt_of_lt_of_le (h.flt b hb') hb.size) hw (fun r' rt' hT' hg' => ?_) (fun r' hT' => ?_) (fun r' rt' hT' hg' b hb' => ?_) (fun r' rt' hT' hg' => ?_) (fun r' rt' hT' hg' b hb' => ?_) (fun r1 rt1 r2 rt2 hT' hg1 hg2 b hb1 hb2 => ?_) (fun r' hT' hs => ?_)
  · exact hS r' rt' (hT hT').2 (hT hT').1 hg'
  · obtain ⟨h1, h2⟩ := hT hT'
    exact ⟨by rw [getR_setR, if_neg h1, getR_delRs, if_neg h2], upd_ne _ _ _ h1, upd_ne _ _ _ h1⟩
  · exact (h.fpb r' rt' hg' b hb').2.2
  · obtain ⟨rfl, rfl⟩ := hg hT' hg'
    rw [upd_same, upd_same]; exact hroot
  · obtain ⟨rfl, rfl⟩ := hg hT' hg'
    rw [upd_same] at hb'
    rcases hSf b hb' with ⟨h1, h2⟩ | ⟨r', rt', _, h2, h3⟩
    · refine ⟨Nat.le_trans h.size h1, h2, fun hF => ?_⟩
      have := h.flt b hF; omega
    · have := h.fpb r' rt' h2 b h3
      exact ⟨this.1, Nat.lt_of_lt_of_le this.2.1 hb.size, this.2.2⟩
  · obtain ⟨rfl, rfl⟩ := hg hT' hg1
    rw [upd_same] at hb1
    by_cases h2 : r2 = r1
    · exact h2.symm
    · rw [upd_ne _ _ _ h2] at hb2
      rw [getR_setR, if_neg h2, getR_delRs] at hg2
      split at hg2
      · cases hg2
      · rename_i hn
        rcases hSf b hb1 with ⟨h3, h4⟩ | ⟨r', rt', h3, h4, h5⟩
        · have := (h.fpb r2 rt2 hg2 b hb2).2.1; omega
        · have := h.disj r' rt' r2 rt2 h4 hg2 b h5 hb2
          subst this
          exact absurd h3 (by simp [hn, h2])
  · simp only [Bool.and_eq_true] at hs
    have := Nat.eq_of_beq_eq_true hs.2
    subst this
    obtain ⟨h1, h2⟩ := hT1 hs.1
    intro rt0 hrt0
    obtain ⟨h3, h4, h5⟩ := h2 rt0 hrt0
    refine ⟨rt, by rw [getR_setR, if_pos rfl], h3, by rw [upd_same]; exact h4, fun e g he => ?_⟩
    obtain ⟨h6, h7⟩ := h5 e g he
    exact ⟨by rw [upd_same]; exact h6, h7⟩

/-- What a row's cell takes. -/
def fz (g : GV) : GV := .list 0 g.asZ g.asList g.asSp
theorem fz_all (g : GV) : (fz g).all = g.all := rfl
theorem GRel.fz {tt : TT} {w : World} {F : Nat → Prop} {e : TypeId} {g : GV} {v : Value} (h : GRel tt w F (.slice e) g v) : GRel tt w F (.slice e) (fz g) v := by
  cases h with
  | nil h => exact .nil h
  | slice a cap f hz hs hF hc hm hw hr => exact .slice (g := Eng.fz g) a cap f hz hs hF hc hm hw hr

def absorb1 (st : St) (k : CK) : SV → Option GV
  | .s k' g => bif decide (k = k') then match k with | .slice _ => some (fz g) | .other => none | _ => some g else none
  | .nilS => match k with | .slice _ => some (.list 2 true [] []) | _ => none
  | .ref e r [] => bif decide (k = .slice e) then match getR st.roots r with | some (.val _ g) => some g | _ => none else none
  | _ => none
def usedOf : SV → List Nat
  | .ref _ r [] => [r]
  | _ => []
/-- The footprint that comes with it. -/
def fpS (fp : Nat → Nat → Prop) : SV → Nat → Prop
  | .ref _ r [] => fp r
  | _ => fun _ => False

theorem absorb1_own {tt : TT} (h : Rel tt W st a w ρ fp F) {k : CK} {x : SV} {g : GV} {v : Value} (hx : SRel tt w F st.roots ρ x v) (ha : absorb1 st k x = some g) :
    Own tt w F k g v (fpS fp x) ∧ ∀ r, r ∈ usedOf x → ∃ rt, getR st.roots r = some rt := by
  match x with
  | .s k' g' =>
    simp only [absorb1] at ha
    cases hd : decide (k = k') with
    | false => rw [hd] at ha; cases ha
    | true =>
      rw [hd] at ha
      obtain rfl := of_decide_eq_true hd
      refine ⟨?_, fun r hr => by simp [usedOf] at hr⟩
      have hx : GRel tt w F k g' v := hx
      simp only [cond_true] at ha
      cases k with
      | slice e => simp only [Option.some.injEq] at ha; subst ha; exact .plain hx.fz (fun _ => rfl)
      | other => cases ha
      | _ => simp only [Option.some.injEq] at ha; subst ha; exact .plain hx (fun ⟨_, h⟩ => by cases h)
  | .nilS =>
    cases k with
    | slice e =>
      simp only [absorb1, Option.some.injEq] at ha
      subst ha
      have hx : v = _ := hx
      subst hx
      exact ⟨.nil rfl, fun r hr => by simp [usedOf] at hr⟩
    | _ => simp [absorb1] at ha
  | .ref e r [] =>
    simp only [absorb1] at ha
    cases hd : decide (k = .slice e) with
    | false => rw [hd] at ha; cases ha
    | true =>
      rw [hd] at ha
      obtain rfl := of_decide_eq_true hd
      obtain ⟨⟨g', hg⟩, hv⟩ := hx
      rw [hg] at ha
      simp only [cond_true, Option.some.injEq] at ha
      subst ha
      refine ⟨?_, fun r' hr => ?_⟩
      · have := h.root r _ hg
        rw [hv] at this
        exact this
      · simp only [usedOf, List.mem_singleton] at hr; subst hr; exact ⟨_, hg⟩
  | .dead => simp [absorb1] at ha
  | .ref e r (q :: p) => simp [absorb1] at ha
  | .ptr r p => simp [absorb1] at ha
  | .eptr e v off => simp [absorb1] at ha
  | .aptr r cs off => simp [absorb1] at ha

def absorbL (st : St) : List CK → List SV → Option (List GV)
  | [], [] => some []
  | k :: ks, x :: t => (absorb1 st k x).bind fun g => (absorbL st ks t).map fun l => g :: l
  | _, _ => none
def usedL (l : List SV) : List Nat := l.flatMap usedOf

theorem absorbL_len {ks : List CK} : ∀ {l : List SV} {gs : List GV}, absorbL st ks l = some gs → l.length = ks.length ∧ gs.length = ks.length := by
  induction ks with
  | nil => intro l gs h; cases l with
    | nil => simp only [absorbL, Option.some.injEq] at h; subst h; exact ⟨rfl, rfl⟩
    | cons => simp [absorbL] at h
  | cons k ks ih =>
    intro l gs h
    cases l with
    | nil => simp [absorbL] at h
    | cons x t =>
      simp only [absorbL, Option.bind_eq_some_iff, Option.map_eq_some_iff] at h
      obtain ⟨g, h1, l', h2, rfl⟩ := h
      obtain ⟨h3, h4⟩ := ih h2
      exact ⟨by simp [h3], by simp [h4]⟩

theorem absorbL_nth {ks : List CK} : ∀ {l : List SV} {gs : List GV}, absorbL st ks l = some gs → ∀ j, j < ks.length → ∃ x, l[j]? = some x ∧ absorb1 st (ks.getD j .other) x = some (gs.getD j .moved) := by
  induction ks with
  | nil => intro l gs h j hj; simp at hj
  | cons k ks ih =>
    intro l gs h j hj
    cases l with
    | nil => simp [absorbL] at h
    | cons x t =>
      simp only [absorbL, Option.bind_eq_some_iff, Option.map_eq_some_iff] at h
      obtain ⟨g, h1, l', h2, rfl⟩ := h
      cases j with
      | zero => exact ⟨x, rfl, h1⟩
      | succ j => exact ih h2 j (by simpa using hj)

theorem mem_usedL {l : List SV} {j : Nat} {x : SV} {r : Nat} (h : l[j]? = some x) (hr : r ∈ usedOf x) : r ∈ usedL l :=
  List.mem_flatMap.2 ⟨x, List.mem_of_getElem? h, hr⟩

theorem usedL_disj {l : List SV} (hn : (usedL l).Nodup) : ∀ {i j : Nat} {x y : SV} {r : Nat}, l[i]? = some x → l[j]? = some y → r ∈ usedOf x → r ∈ usedOf y → i = j := by
  induction l with
  | nil => intro i j x y r h; simp at h
  | cons z l ih =>
    intro i j x y r hi hj hx hy
    have hn' : (usedOf z ++ usedL l).Nodup := hn
    rw [List.nodup_append] at hn'
    obtain ⟨_, h2, h3⟩ := hn'
    cases i with
    | zero =>
      simp only [List.getElem?_cons_zero, Option.some.injEq] at hi; subst hi
      cases j with
      | zero => rfl
      | succ j =>
        simp only [List.getElem?_cons_succ] at hj
        exact absurd rfl (h3 r hx r (mem_usedL hj hy))
    | succ i =>
      simp only [List.getElem?_cons_succ] at hi
      cases j with
      | zero =>
        simp only [List.getElem?_cons_zero, Option.some.injEq] at hj; subst hj
        exact absurd rfl (h3 r hy r (mem_usedL hi hx))
      | succ j =>
        simp only [List.getElem?_cons_succ] at hj
        rw [ih h2 hi hj hx hy]

theorem fpS_used {x : SV} {b : Nat} (h : fpS fp x b) : ∃ r, r ∈ usedOf x ∧ fp r b := by
  match x, h with
  | .ref e r [], h => exact ⟨r, by simp [usedOf], h⟩

end
end Go.Eng

/- New rows. Of no program. -/
namespace Go.Eng
set_option linter.unusedVariables false
set_option linter.unusedSimpArgs false
open Go.RowKit

/-- Cells taken together as elements. -/
def chunk (agg : Bool) (sz : Nat) : Nat → List GV → List GV
  | 0, _ => []
  | n + 1, gs => (bif agg then .agg (gs.take sz) else gs.getD 0 .moved) :: chunk agg sz n (gs.drop sz)
theorem chunk_len (agg : Bool) (sz : Nat) : ∀ (n : Nat) (gs : List GV), (chunk agg sz n gs).length = n := by
  intro n; induction n with
  | zero => intro gs; rfl
  | succ n ih => intro gs; simp [chunk, ih]
theorem chunk_cell (agg : Bool) (sz : Nat) (ha : agg = true ∨ sz = 1) : ∀ (n : Nat) (gs : List GV) (i j : Nat), i < n → j < sz →
    cellG agg (nth (chunk agg sz n gs) i) j = gs.getD (i * sz + j) .moved := by
  intro n; induction n with
  | zero => intro gs i j hi; omega
  | succ n ih =>
    intro gs i j hi hj
    cases i with
    | zero =>
      simp only [chunk, nth, List.getD_cons_zero, Nat.zero_mul, Nat.zero_add]
      cases agg with
      | true => simp only [cond_true, cellG, GV.asAgg, List.getD_eq_getElem?_getD, List.getElem?_take, if_pos hj]
      | false => rcases ha with h | h; cases h; subst h; obtain rfl : j = 0 := by omega
                 rfl
    | succ i =>
      have := ih (gs.drop sz) i j (by omega) hj
      simp only [chunk, nth, List.getD_cons_succ]
      simp only [nth] at this
      rw [this]
      simp only [List.getD_eq_getElem?_getD, List.getElem?_drop]
      congr 2; rw [Nat.add_mul]; omega

def repK : Nat → List CK → List CK
  | 0, _ => []
  | n + 1, ks => ks ++ repK n ks
theorem repK_len (ks : List CK) : ∀ n, (repK n ks).length = n * ks.length := by
  intro n; induction n with
  | zero => simp [repK]
  | succ n ih => simp [repK, ih, Nat.add_mul]; omega
theorem repK_get (ks : List CK) : ∀ (n i j : Nat), i < n → j < ks.length → (repK n ks).getD (i * ks.length + j) .other = ks.getD j .other := by
  intro n; induction n with
  | zero => intro i j hi; omega
  | succ n ih =>
    intro i j hi hj
    simp only [repK, List.getD_eq_getElem?_getD]
    cases i with
    | zero => rw [List.getElem?_append_left (by omega)]; simp
    | succ i =>
      have := ih i j (by omega) hj
      simp only [List.getD_eq_getElem?_getD] at this
      rw [List.getElem?_append_right (by rw [Nat.add_mul]; omega), ← this]
      congr 2; rw [Nat.add_mul]; omega

/-- A value's elements out of cells, and the roots that are used up. -/
def newElems (tl : TL) (st : St) (e : TypeId) (n : Nat) (xs : List SV) : Option (List GV) :=
  bif known tl e && nodupN (usedL xs) then (absorbL st (repK n (ttOf tl e).cells) xs).map fun gs => chunk (ttOf tl e).agg (ttOf tl e).sz n gs else none

section
variable {P : Program} {tl : TL} {W : Base} {st : St} {a : Act} {w : World} {ρ : Nat → RD} {fp : Nat → Nat → Prop} {F : Nat → Prop} {ch : Chain}

theorem newRowOwn (hP : Facts P tl) (h : Rel (ttOf tl) W st a w ρ fp F) {w' : World} {e : TypeId} {n cap : Nat} {xs : List SV} {vs cur : Array Value} {l : List GV} {b : Nat}
    (hx : LRel (ttOf tl) w F st.roots ρ xs vs) (hl : newElems tl st e n xs = some l)
    (hb : w'.heap[b]? = some (.cells cur e (0, 0))) (hbn : w.heap.size ≤ b) (hold : ∀ x, x < w.heap.size → w'.heap[x]? = w.heap[x]?)
    (hcap : n ≤ cap) (hm : cap ≤ maxLen) (hcs : cur.size = cap * (ttOf tl e).sz) (hcur : ∀ i, i < n * (ttOf tl e).sz → cur[i]? = vs[i]?) :
    l.length = n ∧ ∃ S, RowOwn (ttOf tl) w' F 2 b cap e l S ∧ ∀ x, S x → x = b ∨ ∃ r rt, r ∈ usedL xs ∧ getR st.roots r = some rt ∧ fp r x := by
  unfold newElems at hl
  cases hc : known tl e && nodupN (usedL xs) with
  | false => rw [hc] at hl; cases hl
  | true =>
    rw [hc] at hl
    simp only [Bool.and_eq_true] at hc
    obtain ⟨hk, hnd⟩ := hc
    have hnd := nodupN_iff hnd
    simp only [cond_true, Option.map_eq_some_iff] at hl
    obtain ⟨gs, hgs, rfl⟩ := hl
    have hlen := chunk_len (ttOf tl e).agg (ttOf tl e).sz n gs
    refine ⟨hlen, ?_⟩
    have hag : (ttOf tl e).agg = true ∨ (ttOf tl e).sz = 1 := by
      cases h : (ttOf tl e).agg with
      | true => exact .inl rfl
      | false => exact .inr ((hP.t e hk).one h)
    have hcells : (ttOf tl e).cells.length = (ttOf tl e).sz := rfl
    have hxl := (absorbL_len hgs).1
    rw [repK_len, hcells] at hxl
    have hin : ∀ i j, i < n → j < (ttOf tl e).sz → i * (ttOf tl e).sz + j < n * (ttOf tl e).sz := by
      intro i j hi hj
      have : i * (ttOf tl e).sz + (ttOf tl e).sz ≤ n * (ttOf tl e).sz := by rw [← Nat.succ_mul]; exact Nat.mul_le_mul_right _ (by omega)
      omega
    have hnth := absorbL_nth hgs
    rw [repK_len, hcells] at hnth
    let f : Nat → Nat → Value := fun i j => (vs[i * (ttOf tl e).sz + j]?).getD default
    let X : Nat → Nat → SV := fun i j => xs.getD (i * (ttOf tl e).sz + j) .dead
    have hF : ∀ x, F x → w'.heap[x]? = w.heap[x]? := fun x hx => hold x (h.flt x hx)
    have hXat : ∀ i j, i < n → j < (ttOf tl e).sz → xs[i * (ttOf tl e).sz + j]? = some (X i j) := by
      intro i j hi hj
      have := hin i j hi hj
      simp only [X, List.getD_eq_getElem?_getD]
      rw [List.getElem?_eq_getElem (by omega)]; rfl
    have hfat : ∀ i j, i < n → j < (ttOf tl e).sz → vs[i * (ttOf tl e).sz + j]? = some (f i j) := by
      intro i j hi hj
      have := hin i j hi hj
      have hvs := hx.1
      simp only [f]
      rw [Array.getElem?_eq_getElem (by omega)]; rfl
    have hown : ∀ i j, i < n → j < (ttOf tl e).sz → Own (ttOf tl) w F ((ttOf tl e).ck j) (cellG (ttOf tl e).agg (nth (chunk (ttOf tl e).agg (ttOf tl e).sz n gs) i) j) (f i j) (fpS fp (X i j)) ∧
        ∀ r, r ∈ usedOf (X i j) → ∃ rt, getR st.roots r = some rt := by
      intro i j hi hj
      have h1 := hin i j hi hj
      obtain ⟨x, h2, h3⟩ := hnth _ h1
      rw [hXat i j hi hj] at h2
      obtain rfl := Option.some.inj h2
      rw [chunk_cell _ _ hag n gs i j hi hj]
      have hk := repK_get (ttOf tl e).cells n i j hi hj
      rw [hcells] at hk
      rw [hk] at h3
      exact absorb1_own h (hx.2 _ _ _ (hXat i j hi hj) (hfat i j hi hj)) h3
    have hrt : ∀ i j x, i < n → j < (ttOf tl e).sz → fpS fp (X i j) x → ∃ r rt, r ∈ usedOf (X i j) ∧ getR st.roots r = some rt ∧ fp r x := by
      intro i j x hi hj hf
      obtain ⟨r, hr, hf⟩ := fpS_used hf
      obtain ⟨rt, hrt⟩ := (hown i j hi hj).2 r hr
      exact ⟨r, rt, hr, hrt, hf⟩
    refine ⟨fun x => x = b ∨ ∃ i j, i < (chunk (ttOf tl e).agg (ttOf tl e).sz n gs).length ∧ j < (ttOf tl e).sz ∧ fpS fp (X i j) x,
      ⟨⟨cur, f, fun i j => fpS fp (X i j), hb, by omega, hm, hcs, ?_, ?_, ?_, ?_, rfl⟩⟩, ?_⟩
    · intro i j hi hj
      rw [hlen] at hi
      rw [hcur _ (hin i j hi hj)]; exact hfat i j hi hj
    · intro i j hi hj
      rw [hlen] at hi
      refine .inl ⟨rfl, (hown i j hi hj).1.mono (fun _ h => h) hF (fun x hx => ?_)⟩
      obtain ⟨r, rt, _, h2, h3⟩ := hrt i j x hi hj hx
      exact hold x (h.fpb r rt h2 x h3).2.1
    · intro i j hi hj hx
      rw [hlen] at hi
      obtain ⟨r, rt, _, h2, h3⟩ := hrt i j b hi hj hx
      have := (h.fpb r rt h2 b h3).2.1; omega
    · intro i j i' j' x hi hj hi' hj' h1 h2
      rw [hlen] at hi hi'
      obtain ⟨r, rt, g1, g2, g3⟩ := hrt i j x hi hj h1
      obtain ⟨r', rt', g1', g2', g3'⟩ := hrt i' j' x hi' hj' h2
      have := h.disj r rt r' rt' g2 g2' x g3 g3'
      subst this
      have := usedL_disj hnd (hXat i j hi hj) (hXat i' j' hi' hj') g1 g1'
      exact mul_add_inj hj hj' this
    · rintro x (hx | ⟨i, j, hi, hj, hx⟩)
      · exact .inl hx
      · rw [hlen] at hi
        obtain ⟨r, rt, g1, g2, g3⟩ := hrt i j x hi hj hx
        exact .inr ⟨r, rt, mem_usedL (hXat i j hi hj) g1, g2, g3⟩

/-- The state when roots cs are used up and d is made anew. -/
def St.make (st : St) (cs : List Nat) (d : Nat) (rt : Root) (same : Bool) : St :=
  ⟨st.n, mapT (keepT (fun x => memN (d :: cs) x) (fun x => same && Nat.beq x d)) st.tmps, setR (delRs st.roots cs) d rt⟩

/-- Elsewhere all stays; the new root's memory is new, or of those that are used up. -/
def NewAt (st : St) (w : World) (ρ : Nat → RD) (fp : Nat → Nat → Prop) (ρ' : Nat → RD) (fp' : Nat → Nat → Prop) (d : Nat) (cs : List Nat) : Prop :=
  (∀ r, r ≠ d → ρ' r = ρ r ∧ fp' r = fp r) ∧ ∀ b, fp' d b → w.heap.size ≤ b ∨ ∃ r rt, r ∈ cs ∧ getR st.roots r = some rt ∧ fp r b

/-- A variable of ours is made. -/
theorem makeVar (hP : Facts P tl) (h : Rel (ttOf tl) W st a w ρ fp F) {e : TypeId} {xs : List SV} {vs : Array Value} {l : List GV} (d : Nat)
    (hx : LRel (ttOf tl) w F st.roots ρ xs vs) (hl : newElems tl st e 1 xs = some l) (hs : vs.size = (ttOf tl e).sz) (hz : 1 ≤ (ttOf tl e).sz) :
    ∃ ρ' fp', Rel (ttOf tl) W (st.make (usedL xs) d (.row 2 e l) false) a (w.alloc (.cells vs e)) ρ' fp' F ∧
      SRel (ttOf tl) (w.alloc (.cells vs e)) F (st.make (usedL xs) d (.row 2 e l) false).roots ρ' (.ptr d [(0, 0)]) (.pointer (some ⟨w.heap.size, 0, none⟩)) ∧ NewAt st w ρ fp ρ' fp' d (usedL xs) := by
  have hold : ∀ x, x < w.heap.size → (w.alloc (.cells vs e)).heap[x]? = w.heap[x]? := fun x hx => Below.heap_alloc w _ x hx
  obtain ⟨hlen, S, hrow, hS⟩ := newRowOwn hP h (w' := w.alloc (.cells vs e)) (b := w.heap.size) (cap := 1) (n := 1) (cur := vs) hx hl (heap_alloc_new w _) (Nat.le_refl _) hold (Nat.le_refl _) (by unfold maxLen; omega) (by omega) (fun i hi => rfl)
  have hsz : (w.alloc (.cells vs e)).heap.size = w.heap.size + 1 := Array.size_push ..
  refine ⟨upd ρ d (.row w.heap.size 1), upd fp d S, h.cons hP.agg (usedL xs) d _ (.row w.heap.size 1) S false ((Below.refl _ w).alloc h.size _) (fun b hb => hold b (h.flt b hb)) (fun r' rt' _ _ hg b hb => hold b (h.fpb r' rt' hg b hb).2.1) hrow ?_ (fun h => by cases h), ?_⟩
  · intro b hb
    rcases hS b hb with rfl | ⟨r, rt, h1, h2, h3⟩
    · exact .inl ⟨Nat.le_refl _, by omega⟩
    · exact .inr ⟨r, rt, .inl h1, h2, h3⟩
  · refine ⟨⟨.row 2 e l, w.heap.size, by simp only [St.make, getR_setR, if_true], by rw [upd_same]; rfl, .inr rfl, ?_, hz, by simp [Root.shape]⟩, fun r hr => ⟨upd_ne _ _ _ hr, upd_ne _ _ _ hr⟩, fun b hb => ?_⟩
    · show 0 < l.length; omega
    · rw [upd_same] at hb; exact (hS b hb).imp_left (fun h => by rw [h]; exact Nat.le_refl _)

/-- A row of ours is made, as a value. -/
theorem makeRow (hP : Facts P tl) (h : Rel (ttOf tl) W st a w ρ fp F) {e : TypeId} {xs : List SV} {vs : Array Value} {l0 l sp : List GV} {n : Nat} (d : Nat)
    (hx : LRel (ttOf tl) w F st.roots ρ xs vs) (hl : newElems tl st e n xs = some l0) (hsp : l0 = l ++ sp) (hs : vs.size = n * (ttOf tl e).sz) (hm : n ≤ maxLen)
    {z : Bool} (hz : z = true → l0 ≠ []) :
    ∃ ρ' fp', Rel (ttOf tl) W (st.make (usedL xs) d (.val e (.list 2 z l sp)) false) a (w.alloc (.cells vs e)) ρ' fp' F ∧
      SRel (ttOf tl) (w.alloc (.cells vs e)) F (st.make (usedL xs) d (.val e (.list 2 z l sp)) false).roots ρ' (.ref e d []) (.slice (some ⟨w.heap.size, 0, none⟩) l.length n) ∧ NewAt st w ρ fp ρ' fp' d (usedL xs) := by
  have hold : ∀ x, x < w.heap.size → (w.alloc (.cells vs e)).heap[x]? = w.heap[x]? := fun x hx => Below.heap_alloc w _ x hx
  obtain ⟨hlen, S, hrow, hS⟩ := newRowOwn hP h (w' := w.alloc (.cells vs e)) (b := w.heap.size) (cap := n) (n := n) (cur := vs) hx hl (heap_alloc_new w _) (Nat.le_refl _) hold (Nat.le_refl _) hm (by omega) (fun i hi => rfl)
  have hsz : (w.alloc (.cells vs e)).heap.size = w.heap.size + 1 := Array.size_push ..
  have hall : (GV.list 2 z l sp).all = l0 := by rw [hsp]; rfl
  have hown : Own (ttOf tl) (w.alloc (.cells vs e)) F (.slice e) (.list 2 z l sp) (.slice (some ⟨w.heap.size, 0, none⟩) l.length n) S :=
    RowOwn.own (g := .list 2 z l sp) (.inr rfl) (fun h => by rw [hall]; exact hz h) (by rw [hall]; exact hrow)
  refine ⟨upd ρ d (.val (.slice (some ⟨w.heap.size, 0, none⟩) l.length n)), upd fp d S, h.cons hP.agg (usedL xs) d _ (.val _) S false ((Below.refl _ w).alloc h.size _) (fun b hb => hold b (h.flt b hb)) (fun r' rt' _ _ hg b hb => hold b (h.fpb r' rt' hg b hb).2.1) hown ?_ (fun h => by cases h), ?_⟩
  · intro b hb
    rcases hS b hb with rfl | ⟨r, rt, h1, h2, h3⟩
    · exact .inl ⟨Nat.le_refl _, by omega⟩
    · exact .inr ⟨r, rt, .inl h1, h2, h3⟩
  · refine ⟨⟨⟨.list 2 z l sp, by simp only [St.make, getR_setR, if_true]⟩, upd_same _ _ _⟩, fun r hr => ⟨upd_ne _ _ _ hr, upd_ne _ _ _ hr⟩, fun b hb => ?_⟩
    rw [upd_same] at hb; exact (hS b hb).imp_left (fun h => by rw [h]; exact Nat.le_refl _)

end
end Go.Eng

/- The operations that make memory. Of no program. -/
namespace Go.Eng
set_option linter.unusedVariables false
set_option linter.unusedSimpArgs false
open Go.RowKit

def repS : Nat → List SV → List SV
  | 0, _ => []
  | n + 1, l => l ++ repS n l
def strBytes (s : ByteArray) : List GV := s.data.toList.map fun b => .int b.toNat

def sameO : Operand → Operand → Bool
  | .tmp a, .tmp b => Nat.beq a b
  | _, _ => false
def spare (z : GV) (lo co : Operand) (n : Nat) : List GV := bif sameO lo co then [] else List.replicate n z

/-- An operation that makes memory: the new state, and what the variable takes. -/
def mstep (tl : TL) (st : St) (ch : Chain) (d : Nat) : Op → Option (Bool × St × AV)
  | .alloc t => bif zeroOk (ttOf tl t) then
      (newElems tl st t 1 ((ttOf tl t).cells.map zeroSV)).map fun l => (Nat.ble 1 (ttOf tl t).sz, st.make (usedL ((ttOf tl t).cells.map zeroSV)) d (.row 2 t l) false, .one (.ptr d [(0, 0)]))
    else none
  | .box t x => (cells1 tl (strip ch (evalO st x))).bind fun xs => bif Nat.beq xs.length (ttOf tl t).sz then
      (newElems tl st t 1 xs).map fun l => (Nat.ble 1 (ttOf tl t).sz, st.make (usedL xs) d (.row 2 t l) false, .one (.ptr d [(0, 0)]))
    else none
  | .buildSlice t n parts => match (ttOf tl t).desc with
    | .slice e => bif zeroOk (ttOf tl e) then
        (fillS (fun i => some (i * (ttOf tl e).sz, (ttOf tl e).sz)) tl (repS n ((ttOf tl e).cells.map zeroSV)) (parts.toList.map fun (i, o) => (i, strip ch (evalO st o)))).bind fun xs =>
          (newElems tl st e n xs).map fun l => (Nat.ble (n * (ttOf tl e).sz) 16777216 && Nat.ble n maxLen, st.make (usedL xs) d (.val e (.list 2 (Nat.ble 1 n) l [])) false, .one (.ref e d []))
      else none
    | _ => none
  | .makeSlice t lo co => match (ttOf tl t).desc, strip ch (evalO st lo), strip ch (evalO st co) with
    | .slice e, .one (.s (.int _) l), .one (.s (.int _) c) => bif zeroOk (ttOf tl e) && known tl e then
        some (decide (0 ≤ l.asInt) && decide (l.asInt ≤ c.asInt) && decide (((ttOf tl e).bytes : Int) * c.asInt ≤ 281474976710656) && decide (c.asInt ≤ 9223372036854775807),
          st.make [] d (.val e (.list 2 (decide (0 < c.asInt)) (List.replicate l.asInt.toNat (ttOf tl e).zeroG) (spare (ttOf tl e).zeroG lo co (c.asInt.toNat - l.asInt.toNat)))) false, .one (.ref e d []))
      else none
    | _, _, _ => none
  | .convert s t x => match (ttOf tl s).desc, (ttOf tl t).desc, strip ch (evalO st x) with
    | .str, .slice e, .one (.s .str g) => match (ttOf tl e).desc with
      | .int .u8 => some (true, st, .one (.s (.slice e) (.list 0 false (strBytes g.asStr) [])))
      | _ => none
    | _, _, _ => none
  | _ => none

section
variable {P : Program} {tl : TL} {W : Base} {st : St} {a : Act} {w : World} {ρ : Nat → RD} {fp : Nat → Nat → Prop} {F : Nat → Prop} {ch : Chain}

/-- The machine does this much. -/
def Done (P : Program) (tl : TL) (W : Base) (st : St) (a : Act) (w : World) (ρ : Nat → RD) (fp : Nat → Nat → Prop) (F : Nat → Prop) (o : Oper) (d : Nat) (st' : St) (x : AV) : Prop :=
  ∃ v w' ρ' fp' F', (execOp a.eval o).run P w = .ok (.value v) w' ∧ Rel (ttOf tl) W st' a w' ρ' fp' F' ∧ ARel (ttOf tl) w' F' st'.roots ρ' x v ∧ (∀ b, F b → F' b) ∧
    Below w.heap.size w w' ∧ (∀ b, F' b → F b ∨ (w.heap.size ≤ b ∧ b < w'.heap.size)) ∧ ((st' = st ∧ ρ' = ρ ∧ fp' = fp) ∨ ∃ cs rt, st' = st.make cs d rt false ∧ NewAt st w ρ fp ρ' fp' d cs)

theorem zeros_rel {ti : TI} (hz : zeroOk ti = true) : LRel (ttOf tl) w F st.roots ρ (ti.cells.map zeroSV) (ti.cells.map zeroV).toArray := by
  refine ⟨by simp, fun j s u hs hu => ?_⟩
  simp only [List.getElem?_map, List.getElem?_toArray, Option.map_eq_some_iff] at hs hu
  obtain ⟨k, hk1, rfl⟩ := hs
  obtain ⟨k2, hk2, rfl⟩ := hu
  obtain rfl : k = k2 := by rw [hk1] at hk2; exact Option.some.inj hk2
  refine zeroSV_rel ?_
  rintro rfl
  have := List.all_eq_true.1 hz _ (List.mem_of_getElem? hk1)
  cases this

theorem zeroV_cells (hP : Facts P tl) {t : TypeId} (hk : known tl t = true) (hz : zeroOk (ttOf tl t) = true) : (ttOf tl t).zeroV.cells = ((ttOf tl t).cells.map zeroV).toArray := by
  unfold TI.zeroV
  cases hag : (ttOf tl t).agg with
  | true => rfl
  | false =>
    have h1 := (hP.t t hk).one hag
    unfold TI.sz at h1
    unfold zeroOk at hz
    unfold TI.ck
    generalize (ttOf tl t).cells = cs at h1 hz
    match cs, h1 with
    | [k], _ =>
      show (zeroV k).cells = #[zeroV k]
      refine cells_one ?_
      cases k <;> first | rfl | simp at hz

theorem run_zero (hP : Facts P tl) {t : TypeId} (hk : known tl t = true) (hz : zeroOk (ttOf tl t) = true) : (zeroValue t).run P w = .ok (ttOf tl t).zeroV w := by
  obtain ⟨i, hi, hsz, hby, hzero⟩ := (hP.t t hk).info
  simp [zeroValue, typeInfo, hi, hzero hz]

theorem newElems_known {e : TypeId} {n : Nat} {xs : List SV} {l : List GV} (h : newElems tl st e n xs = some l) : known tl e = true := by
  unfold newElems at h
  cases hk : known tl e with
  | true => rfl
  | false => rw [hk] at h; cases h

theorem repS_len (l : List SV) : ∀ n, (repS n l).length = n * l.length := by
  intro n; induction n with
  | zero => simp [repS]
  | succ n ih => simp [repS, ih, Nat.add_mul]; omega
theorem repS_get (l : List SV) : ∀ (n k : Nat), k < n * l.length → (repS n l)[k]? = l[k % l.length]? := by
  intro n; induction n with
  | zero => intro k hk; omega
  | succ n ih =>
    intro k hk
    simp only [repS]
    by_cases h : k < l.length
    · rw [List.getElem?_append_left h, Nat.mod_eq_of_lt h]
    · rw [List.getElem?_append_right (by omega), ih _ (by rw [Nat.add_mul] at hk; omega), ← Nat.mod_eq_sub_mod (by omega)]

theorem repS_rel {l : List SV} {z : Array Value} (h : LRel (ttOf tl) w F st.roots ρ l z) (n : Nat) : LRel (ttOf tl) w F st.roots ρ (repS n l) (madeCells z (n * l.length)) := by
  refine ⟨by rw [size_madeCells, repS_len], fun j s u hs hu => ?_⟩
  have hj : j < n * l.length := by
    have := (List.getElem?_eq_some_iff.1 hs).1
    rwa [repS_len] at this
  have hp : 0 < l.length := Nat.pos_of_ne_zero (fun h => by rw [h] at hj; omega)
  rw [repS_get l n j hj] at hs
  refine h.2 _ s u hs ?_
  simp only [madeCells, Array.getElem?_map, Array.getElem?_range, hj, if_true, Option.map_some, Option.some.injEq] at hu
  rw [h.1] at hu
  have hlt : j % l.length < z.size := by rw [h.1]; exact Nat.mod_lt _ hp
  rw [getElem!_pos z _ hlt] at hu
  rw [Array.getElem?_eq_getElem hlt, hu]

theorem run_buildSlice' (hP : Facts P tl) {t e : TypeId} {n : Nat} {vs : List (Nat × Value)} {cells : Array Value} (hd : (ttOf tl t).desc = .slice e) (hz : zeroOk (ttOf tl e) = true) (hn : n * (ttOf tl e).sz ≤ 16777216)
    (hf : Instr.fill (fun i => some (i * (ttOf tl e).sz, (ttOf tl e).sz)) (madeCells ((ttOf tl e).cells.map zeroV).toArray (n * (ttOf tl e).sz)) vs = some cells) :
    (Instr.buildSlice t n vs.toArray).run P w = .ok (.slice (some ⟨w.heap.size, 0, none⟩) n n) (w.alloc (.cells cells e)) := by
  have hfa := (hP.of hd (by simp)).desc
  rw [hd] at hfa
  obtain ⟨hu, _, hke⟩ := hfa
  have hn' : ¬ (n * (ttOf tl e).sz > 2 ^ 24) := by omega
  have hzr := run_zero (w := w) hP hke hz
  have hzc := zeroV_cells hP hke hz
  by_cases h0 : n * (ttOf tl e).sz = 0
  · have hm : madeCells ((ttOf tl e).cells.map zeroV).toArray (n * (ttOf tl e).sz) = #[] := by rw [h0]; simp [madeCells, Array.range_zero']
    rw [hm] at hf
    simp [Instr.buildSlice, run_underlying hu, run_sizeOf' hP hke, hn', h0, hf, newRow, Array.range_zero']
  · unfold madeCells at hf
    rw [← hzc] at hf
    simp [Instr.buildSlice, run_underlying hu, run_sizeOf' hP hke, hn', h0, hzr, hf, newRow]

theorem absorb_zero {st : St} {k : CK} (hk : k ≠ .other) : absorb1 st k (zeroSV k) = some (zeroG k) := by
  cases k with
  | other => exact absurd rfl hk
  | slice e => rfl
  | _ => simp [zeroSV, absorb1, zeroG]

theorem used_zero (k : CK) : usedOf (zeroSV k) = [] := by cases k <;> rfl
theorem usedL_zero (n : Nat) (ks : List CK) : usedL (repS n (ks.map zeroSV)) = [] := by
  have h1 : usedL (ks.map zeroSV) = [] := by
    unfold usedL
    rw [List.flatMap_eq_nil_iff]
    intro x hx
    obtain ⟨k, _, rfl⟩ := List.mem_map.1 hx
    exact used_zero k
  induction n with
  | zero => rfl
  | succ n ih => unfold usedL at *; simp only [repS, List.flatMap_append, h1, ih, List.append_nil]

def repG : Nat → List GV → List GV
  | 0, _ => []
  | n + 1, l => l ++ repG n l
theorem absorbL_append {st : St} {ks ks' : List CK} : ∀ {l l' : List SV} {gs gs' : List GV}, absorbL st ks l = some gs → absorbL st ks' l' = some gs' → absorbL st (ks ++ ks') (l ++ l') = some (gs ++ gs') := by
  induction ks with
  | nil => intro l l' gs gs' h h'; cases l with
    | nil => simp only [absorbL, Option.some.injEq] at h; subst h; exact h'
    | cons => simp [absorbL] at h
  | cons k ks ih =>
    intro l l' gs gs' h h'
    cases l with
    | nil => simp [absorbL] at h
    | cons x t =>
      simp only [absorbL, Option.bind_eq_some_iff, Option.map_eq_some_iff] at h
      obtain ⟨g, h1, l2, h2, rfl⟩ := h
      simp only [List.cons_append, absorbL, h1, Option.bind_some, ih h2 h', Option.map_some]
theorem absorbL_zero {st : St} {ks : List CK} (h : ∀ k ∈ ks, k ≠ .other) : absorbL st ks (ks.map zeroSV) = some (ks.map zeroG) := by
  induction ks with
  | nil => rfl
  | cons k ks ih => simp only [List.map_cons, absorbL, absorb_zero (h k (List.mem_cons_self ..)), Option.bind_some, ih (fun k hk => h k (List.mem_cons_of_mem _ hk)), Option.map_some]
theorem absorbL_zeros {st : St} {ks : List CK} (h : ∀ k ∈ ks, k ≠ .other) (n : Nat) : absorbL st (repK n ks) (repS n (ks.map zeroSV)) = some (repG n (ks.map zeroG)) := by
  induction n with
  | zero => rfl
  | succ n ih => exact absorbL_append (absorbL_zero h) ih
theorem chunk_zeros (ti : TI) (h : ti.agg = false → ti.sz = 1) (n : Nat) : chunk ti.agg ti.sz n (repG n (ti.cells.map zeroG)) = List.replicate n ti.zeroG := by
  have hl : (ti.cells.map zeroG).length = ti.sz := by simp [TI.sz]
  induction n with
  | zero => rfl
  | succ n ih =>
    simp only [chunk, repG, List.replicate_succ]
    rw [List.take_left' hl, List.drop_left' hl, ih]
    congr 1
    unfold TI.zeroG
    cases hag : ti.agg with
    | true => rfl
    | false =>
      have h1 := h hag
      unfold TI.sz at h1
      unfold TI.ck
      generalize ti.cells = cs at h1
      match cs, h1 with
      | [k], _ => rfl

theorem newElems_zeros (hP : Facts P tl) {e : TypeId} (hk : known tl e = true) (hz : zeroOk (ttOf tl e) = true) (n : Nat) :
    newElems tl st e n (repS n ((ttOf tl e).cells.map zeroSV)) = some (List.replicate n (ttOf tl e).zeroG) := by
  unfold newElems
  rw [hk, usedL_zero, absorbL_zeros (fun k hk' => by
    rintro rfl
    have := List.all_eq_true.1 hz _ hk'
    cases this)]
  simp only [nodupN, Bool.and_self, cond_true, Option.map_some, Option.some.injEq]
  exact chunk_zeros _ (fun h => (hP.t e hk).one h) n

end
end Go.Eng

/- That the machine does what the steps say: the operations that make memory. Of no program. -/
namespace Go.Eng
set_option linter.unusedVariables false
set_option linter.unusedSimpArgs false
open Go.RowKit

section
variable {P : Program} {tl : TL} {W : Base} {st : St} {a : Act} {w : World} {ρ : Nat → RD} {fp : Nat → Nat → Prop} {F : Nat → Prop} {ch : Chain}

theorem ck0_of_int {ti : TI} {k : CK} (h : ti.cells = [k]) : ti.ck 0 = k ∧ ti.sz = 1 := by unfold TI.ck TI.sz; rw [h]; exact ⟨rfl, rfl⟩
theorem agg_of_int (hP : Facts P tl) {e : TypeId} {k : IntKind} (hd : (ttOf tl e).desc = .int k) : (ttOf tl e).agg = false := by
  have hf := hP.of hd (by simp)
  have hdd := hf.desc
  rw [hd] at hdd
  obtain ⟨d, h1, h2, _⟩ := hf.agg
  rw [hdd.1] at h1
  obtain rfl := Option.some.inj h1
  cases h : (ttOf tl e).agg with
  | false => rfl
  | true =>
    rcases h2.1 h with ⟨fs, h⟩ | ⟨n, e, h⟩ <;> cases h

theorem mstep_sound (hP : Facts P tl) (h : Rel (ttOf tl) W st a w ρ fp F) (hch : ChMet a.tmps ch) {d : Nat} {o : Oper} {st' : St} {x : AV} (hl : mstep tl st ch d o.op = some (true, st', x)) :
    Done P tl W st a w ρ fp F o d st' x := by
  have lift : ∀ {s : Sem Value} {v : Value} {w' : World}, s.run P w = .ok v w' → (do pure (.value (← s)) : Sem Next).run P w = .ok (.value v) w' := by
    intro s v w' hs; simp [hs]
  have hE := fun x => h.evalA hch x
  unfold Done execOp
  match hop : o.op with
  | .alloc t =>
    rw [hop] at hl
    simp only [mstep] at hl
    cases hz : zeroOk (ttOf tl t) with
    | false => rw [hz] at hl; cases hl
    | true =>
      rw [hz] at hl
      simp only [cond_true, Option.map_eq_some_iff, Prod.mk.injEq] at hl
      obtain ⟨l, hn, h1, rfl, rfl⟩ := hl
      have hk := newElems_known hn
      obtain ⟨ρ', fp', hR, hx, hN⟩ := makeVar hP h d (zeros_rel hz) hn (by simp [TI.sz]) (Nat.le_of_ble_eq_true h1)
      refine ⟨_, _, ρ', fp', F, lift ?_, hR, hx, fun _ h => h, (Below.refl _ w).alloc (Nat.le_refl _) _, fun b hb => .inl hb, .inr ⟨_, _, rfl, hN⟩⟩
      simp only [Instr.alloc, Sem.run_bind, run_zero hP hk hz, Result.andThen_ok, newVar, zeroV_cells hP hk hz]
      simp [newRow]
  | .box t y =>
    rw [hop] at hl
    simp only [mstep, Option.bind_eq_some_iff] at hl
    obtain ⟨xs, hxs, hl⟩ := hl
    cases hb : Nat.beq xs.length (ttOf tl t).sz with
    | false => rw [hb] at hl; cases hl
    | true =>
      rw [hb] at hl
      have hb := Nat.eq_of_beq_eq_true hb
      simp only [cond_true, Option.map_eq_some_iff, Prod.mk.injEq] at hl
      obtain ⟨l, hn, h1, rfl, rfl⟩ := hl
      have hL := cells1_rel hP h (hE y) hxs
      obtain ⟨ρ', fp', hR, hx, hN⟩ := makeVar hP h d hL hn (by rw [hL.1, hb]) (Nat.le_of_ble_eq_true h1)
      refine ⟨_, _, ρ', fp', F, lift ?_, hR, hx, fun _ h => h, (Below.refl _ w).alloc (Nat.le_refl _) _, fun b hb => .inl hb, .inr ⟨_, _, rfl, hN⟩⟩
      simp [Instr.box, newVar, newRow]
  | .buildSlice t n parts =>
    rw [hop] at hl
    simp only [mstep] at hl
    split at hl
    · rename_i e hd
      cases hz : zeroOk (ttOf tl e) with
      | false => rw [hz] at hl; cases hl
      | true =>
        rw [hz] at hl
        simp only [cond_true, Option.bind_eq_some_iff, Option.map_eq_some_iff, Prod.mk.injEq, Bool.and_eq_true] at hl
        obtain ⟨xs, hfl, l, hn, ⟨h1, h2⟩, rfl, rfl⟩ := hl
        have h1 := Nat.le_of_ble_eq_true h1
        have h2 := Nat.le_of_ble_eq_true h2
        have hk := newElems_known hn
        have hz0 := repS_rel (zeros_rel (tl := tl) (w := w) (F := F) (st := st) (ρ := ρ) hz) n
        simp only [List.length_map] at hz0
        obtain ⟨cs, hcs, hL⟩ := fill_sound hP h (place' := fun i => some (i * (ttOf tl e).sz, (ttOf tl e).sz)) (fun i x hx => hx) _ (parts.map fun (i, x) => (i, a.eval x)).toList _ xs _ hz0 (by simp) (by
          intro j i i' x v h1 h2
          simp only [List.getElem?_map, Array.toList_map, Option.map_eq_some_iff, Prod.mk.injEq, Prod.exists] at h1 h2
          obtain ⟨i1, o1, h1, rfl, rfl⟩ := h1
          obtain ⟨i2, o2, h2, rfl, rfl⟩ := h2
          rw [h1] at h2
          simp only [Option.some.injEq, Prod.mk.injEq] at h2
          obtain ⟨rfl, rfl⟩ := h2
          exact ⟨rfl, hE o1⟩) hfl
        have hlen : xs.length = n * (ttOf tl e).sz := by
          unfold newElems at hn
          cases hc : known tl e && nodupN (usedL xs) with
          | false => rw [hc] at hn; cases hn
          | true =>
            rw [hc] at hn
            simp only [cond_true, Option.map_eq_some_iff] at hn
            obtain ⟨gs, hgs, _⟩ := hn
            have := (absorbL_len hgs).1
            rw [repK_len] at this; exact this
        have hl0 : l.length = n := (newRowOwn hP h (w' := w.alloc (.cells cs e)) (b := w.heap.size) (cap := n) (n := n) (cur := cs) hL hn (heap_alloc_new w _) (Nat.le_refl _) (fun x hx => Below.heap_alloc w _ x hx) (Nat.le_refl _) h2 (by rw [hL.1, hlen]) (fun i hi => rfl)).1
        obtain ⟨ρ', fp', hR, hx, hN⟩ := makeRow hP h (l := l) (sp := []) (z := Nat.ble 1 n) d hL hn (by simp) (by rw [hL.1, hlen]) h2 (fun hz1 h0 => by
          have := Nat.le_of_ble_eq_true hz1
          rw [h0] at hl0; simp at hl0; omega)
        rw [hl0] at hx
        refine ⟨_, _, ρ', fp', F, lift ?_, hR, hx, fun _ h => h, (Below.refl _ w).alloc (Nat.le_refl _) _, fun b hb => .inl hb, .inr ⟨_, _, rfl, hN⟩⟩
        have e : ∀ (f : Nat × Operand → Nat × Value), (parts.map f).toList.toArray = parts.map f := fun f => Array.toArray_toList
        rw [← e]
        exact run_buildSlice' hP hd hz h1 hcs
    · cases hl
  | .makeSlice t lo co =>
    rw [hop] at hl
    simp only [mstep] at hl
    split at hl
    · rename_i e kl gl kc gc hd hlo hco
      cases hz : zeroOk (ttOf tl e) && known tl e with
      | false => rw [hz] at hl; cases hl
      | true =>
        rw [hz] at hl
        simp only [Bool.and_eq_true] at hz
        obtain ⟨hz, hk⟩ := hz
        simp only [cond_true, Option.some.injEq, Prod.mk.injEq, Bool.and_eq_true, decide_eq_true_eq] at hl
        obtain ⟨⟨⟨⟨h0, hlc⟩, hby⟩, h63⟩, rfl, rfl⟩ := hl
        have e1 := hE lo
        rw [hlo] at e1
        obtain ⟨e1, _⟩ := GRel.toInt e1
        have e2 := hE co
        rw [hco] at e2
        obtain ⟨e2, _⟩ := GRel.toInt e2
        have hfa := (hP.of hd (by simp)).desc
        rw [hd] at hfa
        obtain ⟨i, hi, hsz, hbyt, hzero⟩ := (hP.t e hk).info
        have hzero := hzero hz
        have hzc := zeroV_cells hP hk hz
        have hrun := run_make (P := P) w t e i _ hfa.1 hi hzero kl kc gl.asInt gc.asInt h0 hlc (by rw [hbyt]; exact hby) h63
        rw [hzc, hsz] at hrun
        have hz0 := repS_rel (zeros_rel (tl := tl) (w := w) (F := F) (st := st) (ρ := ρ) hz) gc.asInt.toNat
        simp only [List.length_map] at hz0
        have hn := newElems_zeros (st := st) hP hk hz gc.asInt.toNat
        have hmx : gc.asInt.toNat ≤ maxLen := by unfold maxLen; omega
        obtain ⟨ρ', fp', hR, hx, hN⟩ := makeRow hP h (l := List.replicate gl.asInt.toNat (ttOf tl e).zeroG) (sp := spare (ttOf tl e).zeroG lo co (gc.asInt.toNat - gl.asInt.toNat)) (z := decide (0 < gc.asInt)) d hz0 hn
          (by
            unfold spare
            cases hso : sameO lo co with
            | false => simp only [cond_false]; rw [List.replicate_append_replicate]; congr 1; omega
            | true =>
              have hlc : lo = co := by
                cases lo <;> cases co <;> first | (have := Nat.eq_of_beq_eq_true hso; rw [this]) | (cases hso)
              subst hlc
              rw [hlo] at hco
              simp only [AV.one.injEq, SV.s.injEq] at hco
              rw [hco.2]; simp) (by rw [size_madeCells]; rfl) hmx (fun hz1 h0' => by
            have := of_decide_eq_true hz1
            have h3 : gc.asInt.toNat = 0 := by simpa using congrArg List.length h0'
            omega)
        rw [usedL_zero, List.length_replicate] at hx
        rw [usedL_zero] at hR hN
        exact ⟨_, _, ρ', fp', F, lift (by rw [e1, e2]; exact hrun), hR, hx, fun _ h => h, (Below.refl _ w).alloc (Nat.le_refl _) _, fun b hb => .inl hb, .inr ⟨_, _, rfl, hN⟩⟩
    · cases hl
  | .convert s t y =>
    rw [hop] at hl
    simp only [mstep] at hl
    split at hl
    · rename_i e g hds hdt hy
      split at hl
      · rename_i hde
        simp only [Option.some.injEq, Prod.mk.injEq, true_and] at hl
        obtain ⟨rfl, rfl⟩ := hl
        have e1 := hE y
        rw [hy] at e1
        obtain ⟨e1, hms⟩ := GRel.toStr e1
        have hf1 := (hP.of hds (by simp)).desc
        rw [hds] at hf1
        have hf2 := (hP.of hdt (by simp)).desc
        rw [hdt] at hf2
        have hf3 := (hP.of hde (by simp)).desc
        rw [hde] at hf3
        obtain ⟨hck, hsz⟩ := ck0_of_int hf3.2
        have hrun := Lib.run_convert_string_bytes (P := P) w s t e g.asStr hf1.1 hf2.1 hf3.1
        have hge := grownCap_ge w g.asStr.size 0 e
        have hmax : g.asStr.size ≤ maxLen := by unfold MAXS at hms; unfold maxLen; omega
        have hcap := grownCap_le_maxLen w g.asStr.size 0 e hmax
        have hB : Below W.heap.size w (Lib.bytesWorld w e g.asStr) := by
          refine ⟨?_, ?_, ?_, ?_, fun k hk => Lib.bytesWorld_at_old w e _ k (Nat.lt_of_lt_of_le hk h.size)⟩
          · simp [Lib.bytesWorld, World.freeze, World.alloc, World.drew, -World.alloc_eq, -World.drew_eq]
          · simp [Lib.bytesWorld, World.freeze, World.alloc, World.drew, -World.alloc_eq, -World.drew_eq]
          · simp [Lib.bytesWorld, World.freeze, World.alloc, World.drew, -World.alloc_eq, -World.drew_eq]
          · rw [Lib.bytesWorld_size]; omega
        have hlt : ∀ {b}, F b → b < w.heap.size := fun hb => h.flt _ hb
        have hB2 : Below w.heap.size w (Lib.bytesWorld w e g.asStr) := ⟨hB.os, hB.tape, hB.output, hB.size, fun k hk => Lib.bytesWorld_at_old w e _ k hk⟩
        refine ⟨_, _, ρ, fp, fun b => F b ∨ b = w.heap.size, lift (by rw [e1]; exact hrun), ?_, ?_, fun _ h => .inl h, hB2, fun b hb => hb.imp_right (fun h => by rw [h, Lib.bytesWorld_size]; omega), .inl ⟨rfl, rfl, rfl⟩⟩
        · refine h.frame hP.agg hB (fun _ h => .inl h) (fun b hb hlt => hb.resolve_right (fun h2 => by have := h.size; omega)) (fun b hb => Lib.bytesWorld_at_old w e _ b (hlt hb)) (fun r rt hr b hb => Lib.bytesWorld_at_old w e _ b (h.fpb r rt hr b hb).2.1) ?_ ?_
          · rintro b (hb | rfl)
            · have := hlt hb; rw [Lib.bytesWorld_size]; omega
            · rw [Lib.bytesWorld_size]; omega
          · rintro r rt hr b hb (hF | rfl)
            · exact (h.fpb r rt hr b hb).2.2 hF
            · have := (h.fpb r rt hr _ hb).2.1; omega
        · have hlen : (strBytes g.asStr).length = g.asStr.size := by unfold strBytes; rw [List.length_map, Array.length_toList]; rfl
          have hall : (GV.list 0 false (strBytes g.asStr) []).all = strBytes g.asStr := by simp [GV.all, GV.asList, GV.asSp]
          have := GRel.slice (tt := ttOf tl) (w := Lib.bytesWorld w e g.asStr) (F := fun b => F b ∨ b = w.heap.size) (e := e) (g := .list 0 false (strBytes g.asStr) []) ⟨w.heap.size, 0, none⟩ (grownCap w g.asStr.size 0 e)
            (fun i j => .int .u8 (g.asStr.data.toList.getD i 0).toNat) (fun h => by cases h) (fun _ => rfl) (fun _ => .inr rfl) (by rw [hall, hlen]; omega) hcap (by
              intro i j hi hj
              rw [hall, hlen] at hi
              rw [hsz] at hj ⊢
              obtain rfl : j = 0 := by omega
              simp only [Nat.mul_one, Nat.add_zero, Nat.zero_add]
              exact Lib.bytesWorld_cell w e g.asStr i hi) (by
              intro i j hi hj
              rw [hall, hlen] at hi
              rw [hsz] at hj
              obtain rfl : j = 0 := by omega
              rw [hck, hall]
              have hag := agg_of_int hP hde
              rw [hag]
              have hi' : i < g.asStr.data.toList.length := by rw [Array.length_toList]; exact hi
              have e3 : cellG false (nth (strBytes g.asStr) i) 0 = .int (g.asStr.data.toList.getD i 0).toNat := by
                simp only [cellG, cond_false, nth, strBytes, List.getD_eq_getElem?_getD, List.getElem?_map]
                rw [List.getElem?_eq_getElem hi']; rfl
              rw [e3]
              refine GRel.int (g := .int _) (inK_mk ?_ ?_)
              · show (0 : Int) ≤ _; exact Int.natCast_nonneg _
              · have := (g.asStr.data.toList.getD i 0).toNat_lt; show ((g.asStr.data.toList.getD i 0).toNat : Int) ≤ 255; omega)
          have e4 : (GV.list 0 false (strBytes g.asStr) []).asList.length = g.asStr.size := hlen
          rw [e4] at this
          exact this
      · cases hl
    · cases hl
  | .move .. | .assign .. | .pick .. | .build .. | .load .. | .nilCheck .. | .binOp .. | .unOp .. | .makeInterface .. | .slice .. | .fieldAddr .. | .field .. | .indexAddr .. | .index .. | .extract .. | .call .. | .store .. | .ready .. | .waits .. | .sliceToArrayPointer .. | .makeFunc .. | .makeMap .. | .makeChan .. | .mapUpdate .. | .insert .. | .mapEntry .. | .entryStore .. | .lookup .. | .range .. | .next .. | .entry .. | .typeAssert .. | .go .. | .defer .. | .panic .. | .send .. | .recv .. | .select .. => rw [hop] at hl; cases hl

end
end Go.Eng

/- A root is frozen: what was ours is read only from now on. Of no program. -/
namespace Go.Eng
set_option linter.unusedVariables false
set_option linter.unusedSimpArgs false
open Go.RowKit

def AV.mp (φ : SV → SV) : AV → AV
  | .one x => .one (φ x)
  | .a t g => .a t g
  | .agg l => .agg (l.map φ)
def PV.mp (φ : SV → SV) : PV → PV
  | .v x => .v (x.mp φ)
  | .tup l => .tup (l.map (AV.mp φ))
  | .cnd d b x => .cnd d b (x.mp φ)
def mapF (φ : SV → SV) : Tmps → Tmps
  | [] => []
  | (k, x) :: t => (k, x.mp φ) :: mapF φ t
theorem getT_mapF {φ : SV → SV} (h : φ .dead = .dead) (l : Tmps) (i : Nat) : getT (mapF φ l) i = (getT l i).mp φ := by
  induction l with
  | nil => show PV.dead = PV.v (.one (φ .dead)); rw [h]; rfl
  | cons x t ih =>
    obtain ⟨k, x⟩ := x
    simp only [mapF, getT, ih]
    cases Nat.beq k i <;> rfl

def SV.frz (tl : TL) (st : St) (r0 : Nat) : SV → SV
  | .ref e r p => bif Nat.beq r r0 then (match contentOf tl st r p with | some g => .s (.slice e) g | none => .dead) else .ref e r p
  | .ptr r p => bif Nat.beq r r0 then (match p, rootLst st r with | [(i, j)], some (_, e, l) => .eptr e (nth l i) j | _, _ => .dead) else .ptr r p
  | .aptr r cs off => bif Nat.beq r r0 then .dead else .aptr r cs off
  | x => x
def St.freeze (tl : TL) (st : St) (r : Nat) : St := ⟨st.n, mapF (SV.frz tl st r) st.tmps, delR st.roots r⟩

section
variable {P : Program} {tl : TL} {W : Base} {st : St} {a : Act} {w : World} {ρ : Nat → RD} {fp : Nat → Nat → Prop} {F : Nat → Prop} {ch : Chain}

theorem Rel.turnF {tt : TT} {W : Base} {st : St} {a : Act} {w w' : World} {ρ ρ' : Nat → RD} {fp fp' : Nat → Nat → Prop} {F F' : Nat → Prop} {R' : Roots} {φ : SV → SV} (hφ : φ .dead = .dead)
    (h : Rel tt W st a w ρ fp F) (hb : Below W.heap.size w w') (hF : ∀ b, F b → F' b) (hup : ∀ b, F' b → b < W.heap.size → F b)
    (hF' : ∀ b, F' b → b < w'.heap.size)
    (hroot : ∀ r rt, getR R' r = some rt → RootRel tt w' F' rt (ρ' r) (fp' r))
    (hfpb : ∀ r rt, getR R' r = some rt → ∀ b, fp' r b → W.heap.size ≤ b ∧ b < w'.heap.size ∧ ¬ F' b)
    (hdisj : ∀ r rt r' rt', getR R' r = some rt → getR R' r' = some rt' → ∀ b, fp' r b → fp' r' b → r = r')
    (hk : ∀ x v, SRel tt w F st.roots ρ x v → SRel tt w' F' R' ρ' (φ x) v)
    (hG : ∀ k g v, GRel tt w F k g v → GRel tt w' F' k g v) : Rel tt W ⟨st.n, mapF φ st.tmps, R'⟩ a w' ρ' fp' F' := by
  have hA : ∀ x v, ARel tt w F st.roots ρ x v → ARel tt w' F' R' ρ' (x.mp φ) v := by
    intro x v hx
    cases x with
    | one x => exact hk x v hx
    | a t g =>
      obtain ⟨h1, cs, h2, h3, h4⟩ := hx
      exact ⟨h1, cs, h2, h3, fun j x hx => hG _ _ _ (h4 j x hx)⟩
    | agg l =>
      obtain ⟨cs, h2, h3, h4⟩ := hx
      refine ⟨cs, h2, by simpa using h3, fun j s x hs hx => ?_⟩
      simp only [List.getElem?_map, Option.map_eq_some_iff] at hs
      obtain ⟨s0, hs0, rfl⟩ := hs
      exact hk _ _ (h4 j s0 x hs0 hx)
  refine ⟨h.below.trans hb, fun b hb' hlt => h.old b (hup b hb' hlt) hlt, hF', hroot, hfpb, hdisj, fun i v hi => ?_, h.defers, by simpa using h.len⟩
  have := h.tmps i v hi
  have hm : PRel tt w' F' R' ρ' a.tmps ((st.get i).mp φ) v := by
    generalize st.get i = x at this ⊢
    cases x with
    | v x => exact hA x v this
    | tup l =>
      obtain ⟨cs, h2, h3, h4⟩ := this
      refine ⟨cs, h2, by simpa using h3, fun j s x hs hx => ?_⟩
      simp only [List.getElem?_map, Option.map_eq_some_iff] at hs
      obtain ⟨s0, hs0, rfl⟩ := hs
      exact hA _ _ (h4 j s0 x hs0 hx)
    | cnd d b x => exact ⟨fun hb => hA x v (this.1 hb), this.2⟩
  have he : St.get ⟨st.n, mapF φ st.tmps, R'⟩ i = (st.get i).mp φ := by
    simp only [St.get, getT_mapF hφ]
    cases Nat.blt i st.n
    · show PV.dead = PV.v (.one (φ .dead)); rw [hφ]; rfl
    · rfl
  rw [he]; exact hm

theorem CellOwn.toG {tt : TT} {w : World} {F F' : Nat → Prop} {o : Nat} {k : CK} {g : GV} {v : Value} {S : Nat → Prop} (h : CellOwn tt w F o k g v S) (hF : ∀ b, F b → F' b) (hS : ∀ b, S b → F' b) : GRel tt w F' k g v := by
  rcases h with ⟨_, h⟩ | ⟨_, h, _⟩
  · exact h.toG hF hS
  · exact h.mono hF (fun _ _ => rfl)

/-- What stands at a reference, read only under F and the root's own memory. -/
theorem ref_frz (hP : Facts P tl) (h : Rel (ttOf tl) W st a w ρ fp F) {F' : Nat → Prop} (hF : ∀ b, F b → F' b) {e : TypeId} {r : Nat} (hr : ∀ b, fp r b → F' b) {p : Path} {v : Value} {g : GV}
    (hx : SRel (ttOf tl) w F st.roots ρ (.ref e r p) v) (hc : contentOf tl st r p = some g) : GRel (ttOf tl) w F' (.slice e) g v := by
  match p with
  | [] =>
    obtain ⟨⟨g', hg⟩, hv⟩ := hx
    simp only [contentOf, hg, Option.some.injEq] at hc
    subst hc
    have := h.root r _ hg
    rw [hv] at this
    exact Own.toG this hF hr
  | q :: p =>
    obtain ⟨rt, o, e0, l, b1, n1, hg, hlst, hok, hk, hpl, hcell⟩ := hx
    have hr' : rootLst st r = some (o, e0, l) := by simp [rootLst, hg, hlst]
    simp only [contentOf, hr', Option.some.injEq] at hc
    subst hc
    obtain ⟨b, cap, hb, hrow⟩ := (h.root r rt hg).rowOwn hlst hok
    obtain ⟨b2, n2, v1, S1, f1, f2, f3, f4, f5, f6, f7, f8, _⟩ := RowOwn.focus (ttOf tl) hP.agg w F (q :: p) o b cap e0 l (fp r) hrow hok
    have hpl' : placeR (ttOf tl) w e0 (ρ r) (q :: p) = some (b2, n2) := by simp only [placeR, hb, Option.bind_some, f7]
    obtain ⟨rfl, rfl⟩ : b1 = b2 ∧ n1 = n2 := by rw [hpl] at hpl'; simpa using hpl'
    obtain rfl : v = v1 := by rw [hcell] at f1; exact Option.some.inj f1
    rw [hk] at f3
    exact f3.toG hF (fun b hb => hr b (f4 b hb))

theorem Rel.freeze (hP : Facts P tl) (h : Rel (ttOf tl) W st a w ρ fp F) {r : Nat} {rt : Root} (hr : getR st.roots r = some rt) :
    Rel (ttOf tl) W (st.freeze tl r) a w ρ fp (fun b => F b ∨ fp r b) := by
  have hg : ∀ {r' rt'}, getR (delR st.roots r) r' = some rt' → r' ≠ r ∧ getR st.roots r' = some rt' := by
    intro r' rt' h'
    rw [getR_delR] at h'
    split at h'
    · cases h'
    · rename_i h2; exact ⟨h2, h'⟩
  have hF : ∀ b, F b → (fun b => F b ∨ fp r b) b := fun _ h => .inl h
  refine h.turnF (φ := SV.frz tl st r) rfl (Below.refl _ w) hF (fun b hb hlt => hb.resolve_right (fun h2 => by have := (h.fpb r rt hr b h2).1; omega)) ?_ ?_ ?_ ?_ ?_ (fun k g v hg => hg.mono hF (fun _ _ => rfl))
  · rintro b (hb | hb)
    · exact h.flt b hb
    · exact (h.fpb r rt hr b hb).2.1
  · intro r' rt' h'
    exact (h.root r' rt' (hg h').2).mono hF (fun _ _ => rfl) (fun _ _ => rfl)
  · intro r' rt' h' b hb
    obtain ⟨hne, h'⟩ := hg h'
    have := h.fpb r' rt' h' b hb
    refine ⟨this.1, this.2.1, ?_⟩
    rintro (hb' | hb')
    · exact this.2.2 hb'
    · exact hne (h.disj r' rt' r rt h' hr b hb hb')
  · intro r1 rt1 r2 rt2 h1 h2 b hb1 hb2
    exact h.disj r1 rt1 r2 rt2 (hg h1).2 (hg h2).2 b hb1 hb2
  · intro x v hx
    have plain : (∀ r', x.root = some r' → r' ≠ r) → SRel (ttOf tl) w (fun b => F b ∨ fp r b) (delR st.roots r) ρ x v := by
      intro hne
      refine SRel.roots (R := st.roots) (ρ := ρ) (fun r' rt' hxr hg' => ?_) (SRel.mono1 hP.agg h.root hF (fun _ _ => rfl) (fun r rt hxr hg => fun _ _ => rfl) hx)
      rw [getR_delR, if_neg (hne r' hxr)]
      exact ⟨hg', rfl⟩
    cases x with
    | dead => trivial
    | s k g => exact plain (fun _ h => by simp [SV.root] at h)
    | nilS => exact plain (fun _ h => by simp [SV.root] at h)
    | eptr e g off => exact plain (fun _ h => by simp [SV.root] at h)
    | aptr r' cs off =>
      simp only [SV.frz]
      by_cases hrr : r' = r
      · subst hrr
        simp only [Nat.beq_refl, cond_true]
        trivial
      · rw [beq_ff hrr]
        exact plain (fun r2 h2 => by simp only [SV.root, Option.some.injEq] at h2; rw [← h2]; exact hrr)
    | ref e r' p =>
      simp only [SV.frz]
      by_cases hrr : r' = r
      · subst hrr
        simp only [Nat.beq_refl, cond_true]
        cases hc : contentOf tl st r' p with
        | none => trivial
        | some g => exact ref_frz hP h hF (fun _ h => .inr h) hx hc
      · rw [beq_ff hrr]
        exact plain (fun r2 h2 => by simp only [SV.root, Option.some.injEq] at h2; rw [← h2]; exact hrr)
    | ptr r' p =>
      simp only [SV.frz]
      by_cases hrr : r' = r
      · subst hrr
        simp only [Nat.beq_refl, cond_true]
        split
        · rename_i i j o e l hl
          obtain ⟨rt', b1, n1, g1, g2, g3, g4, rfl⟩ := ptr_place hx hl
          obtain ⟨b, cap, hb, hrow⟩ := (h.root r' rt' g1).rowOwn g2 g3
          obtain ⟨cur, f, Sf, k1, k2, k3, k4, k5, k6, k7, k8, k9⟩ := hrow.ex
          simp only [placeR, hb, Option.bind_some, placeOf, Option.some.injEq, Prod.mk.injEq] at g4
          obtain ⟨rfl, rfl⟩ := g4
          obtain ⟨_, hi, hj⟩ := g3
          refine ⟨⟨b, i * (ttOf tl e).sz, none⟩, f i, rfl, .inr ?_, fun j' hj' => ?_, fun j' hj' => ?_, rfl⟩
          · rw [k9]; exact .inl rfl
          · rw [cell_of_row w b _ cur e (0, 0) k1]; exact k5 i j' hi hj'
          · refine (k6 i j' hi hj').toG hF (fun x hx => .inr ?_)
            rw [k9]; exact .inr ⟨i, j', hi, hj', hx⟩
        · trivial
      · rw [beq_ff hrr]
        exact plain (fun r2 h2 => by simp only [SV.root, Option.some.injEq] at h2; rw [← h2]; exact hrr)

end
end Go.Eng

/- Stores. Of no program. -/
namespace Go.Eng
set_option linter.unusedVariables false
set_option linter.unusedSimpArgs false
open Go.RowKit

def setCells (agg : Bool) (g : GV) (j : Nat) : List GV → GV
  | [] => g
  | x :: t => setCells agg (setCell agg g j x) (j + 1) t
/-- Cells of an element from the j-th on. -/
def elemSet (ti : TI) (g : GV) (j : Nat) (gs : List GV) : GV :=
  bif Nat.beq gs.length ti.sz then (bif ti.agg then .agg gs else gs.getD 0 .moved) else setCells ti.agg g j gs

theorem cellG_setCells {agg : Bool} : ∀ (gs : List GV) (g : GV) (j j' : Nat), (agg = true ∨ (j = 0 ∧ j' = 0 ∧ gs.length ≤ 1)) →
    cellG agg (setCells agg g j gs) j' = if j ≤ j' ∧ j' < j + gs.length then gs.getD (j' - j) .moved else cellG agg g j' := by
  intro gs
  induction gs with
  | nil => intro g j j' _; simp only [setCells, List.length_nil]; rw [if_neg (by omega)]
  | cons x t ih =>
    intro g j j' ha
    simp only [setCells, List.length_cons]
    rcases ha with ha | ⟨rfl, rfl, hl⟩
    · rw [ih _ _ _ (.inl ha), cellG_setCell _ _ _ _ _ (.inl ha)]
      by_cases h1 : j' = j
      · subst h1; rw [if_neg (by omega), if_pos rfl, if_pos (by omega)]; simp
      · rw [if_neg h1]
        by_cases h2 : j + 1 ≤ j' ∧ j' < j + 1 + t.length
        · rw [if_pos h2, if_pos (by omega), show j' - j = (j' - (j + 1)) + 1 by omega]; rfl
        · rw [if_neg h2, if_neg (by omega)]
    · have : t = [] := by cases t with | nil => rfl | cons _ _ => simp at hl
      subst this
      simp only [setCells]
      rw [cellG_setCell _ _ _ _ _ (.inr ⟨rfl, rfl⟩), if_pos rfl, if_pos (by simp)]
      rfl

theorem cellG_elemSet {ti : TI} (ha : ti.agg = true ∨ ti.sz = 1) {g : GV} {j : Nat} {gs : List GV} (hj : j + gs.length ≤ ti.sz) {j' : Nat} (hj' : j' < ti.sz) :
    cellG ti.agg (elemSet ti g j gs) j' = if j ≤ j' ∧ j' < j + gs.length then gs.getD (j' - j) .moved else cellG ti.agg g j' := by
  unfold elemSet
  cases hb : Nat.beq gs.length ti.sz with
  | true =>
    have hb := Nat.eq_of_beq_eq_true hb
    have : j = 0 := by omega
    subst this
    rw [if_pos (by omega)]
    cases hag : ti.agg with
    | true => rfl
    | false => rcases ha with h | h; rw [hag] at h; cases h; obtain rfl : j' = 0 := by omega
               rfl
  | false =>
    rcases ha with h | h
    · exact cellG_setCells gs g j j' (.inl h)
    · have : gs.length ≠ ti.sz := fun he => by rw [he, Nat.beq_refl] at hb; cases hb
      have : gs = [] := List.eq_nil_of_length_eq_zero (by omega)
      subst this
      show cellG ti.agg g j' = _
      rw [if_neg (by simp)]

def segOk (ti : TI) (j : Nat) (ks : List CK) : Bool :=
  (match ks with | [k] => ti.cells.all (fun k' => decide (k' = k)) | _ => false) || decide ((ti.cells.drop j).take ks.length = ks)
theorem segOk_ck {ti : TI} {j : Nat} {ks : List CK} (h : segOk ti j ks = true) (hj : j + ks.length ≤ ti.sz) {k : Nat} (hk : k < ks.length) : ti.ck (j + k) = ks.getD k .other := by
  unfold segOk at h
  simp only [Bool.or_eq_true] at h
  have hlt : j + k < ti.cells.length := by unfold TI.sz at hj; omega
  rcases h with h | h
  · split at h
    · rename_i q
      simp only [List.length_singleton] at hk
      obtain rfl : k = 0 := by omega
      unfold TI.ck
      have := List.all_eq_true.1 h (ti.cells[j]'(by omega)) (List.getElem_mem ..)
      simp only [decide_eq_true_eq] at this
      simp [List.getD_eq_getElem?_getD, List.getElem?_eq_getElem (show j < ti.cells.length by omega), this]
    · cases h
  · have h := of_decide_eq_true h
    unfold TI.ck
    simp only [List.getD_eq_getElem?_getD]
    have h2 : ks[k]? = ((ti.cells.drop j).take ks.length)[k]? := by rw [h]
    rw [h2, List.getElem?_take, if_pos hk, List.getElem?_drop]

section
variable {P : Program} {tl : TL} {W : Base} {st : St} {a : Act} {w : World} {ρ : Nat → RD} {fp : Nat → Nat → Prop} {F : Nat → Prop} {ch : Chain}

/-- Cells of one element of a row turned. -/
theorem RowOwn.stores {tt : TT} {w w' : World} {F : Nat → Prop} {b cap : Nat} {e : TypeId} {l : List GV} {S : Nat → Prop} (h : RowOwn tt w F 2 b cap e l S) {i j n : Nat} (hi : i < l.length) (hj : j + n ≤ (tt e).sz)
    {gk : Nat → GV} {vk : Nat → Value} {Sk : Nat → Nat → Prop} (hown : ∀ k, k < n → Own tt w F ((tt e).ck (j + k)) (gk k) (vk k) (Sk k))
    (hd1 : ∀ k x, k < n → Sk k x → ¬ S x) (hd2 : ∀ k k' x, k < n → k' < n → Sk k x → Sk k' x → k = k')
    {cur' : Array Value} (hb' : w'.heap[b]? = some (.cells cur' e (0, 0))) (hs' : cur'.size = cap * (tt e).sz)
    (hcur' : ∀ cur, w.heap[b]? = some (.cells cur e (0, 0)) → ∀ q, q < cap * (tt e).sz → cur'[q]? = if i * (tt e).sz + j ≤ q ∧ q < i * (tt e).sz + j + n then some (vk (q - (i * (tt e).sz + j))) else cur[q]?)
    (hw : ∀ x, x ≠ b → w'.heap[x]? = w.heap[x]?) (hFb : ¬ F b)
    {g' : GV} (hg' : ∀ j', j' < (tt e).sz → cellG (tt e).agg g' j' = if j ≤ j' ∧ j' < j + n then gk (j' - j) else cellG (tt e).agg (nth l i) j') :
    ∃ S', RowOwn tt w' F 2 b cap e (l.set i g') S' ∧ ∀ x, S' x → S x ∨ ∃ k, k < n ∧ Sk k x := by
  obtain ⟨cur, f, Sf, k1, k2, k3, k4, k5, k6, k7, k8, k9⟩ := h.ex
  have hcur := hcur' cur k1
  have hF : ∀ x, F x → w'.heap[x]? = w.heap[x]? := fun x hx => hw x (fun h => hFb (h ▸ hx))
  have hSb : S b := by rw [k9]; exact .inl rfl
  have hSf : ∀ {i' j' x}, i' < l.length → j' < (tt e).sz → Sf i' j' x → S x := by
    intro i' j' x h1 h2 h3; rw [k9]; exact .inr ⟨i', j', h1, h2, h3⟩
  let In : Nat → Nat → Prop := fun i' j' => i' = i ∧ j ≤ j' ∧ j' < j + n
  have hdec : ∀ i' j', Decidable (In i' j') := fun i' j' => by show Decidable (_ ∧ _ ∧ _); infer_instance
  let f' : Nat → Nat → Value := fun i' j' => if In i' j' then vk (j' - j) else f i' j'
  let Sf' : Nat → Nat → Nat → Prop := fun i' j' => if In i' j' then Sk (j' - j) else Sf i' j'
  refine ⟨fun x => x = b ∨ ∃ i' j', i' < (l.set i g').length ∧ j' < (tt e).sz ∧ Sf' i' j' x, ⟨⟨cur', f', Sf', hb', by simpa using k2, k3, hs', ?_, ?_, ?_, ?_, rfl⟩⟩, ?_⟩
  · intro i' j' hi' hj'
    rw [List.length_set] at hi'
    have hin : i' * (tt e).sz + j' < cap * (tt e).sz := by
      have : i' * (tt e).sz + (tt e).sz ≤ cap * (tt e).sz := by rw [← Nat.succ_mul]; exact Nat.mul_le_mul_right _ (by omega)
      omega
    rw [hcur _ hin]
    by_cases hI : In i' j'
    · obtain ⟨rfl, h1, h2⟩ := hI
      rw [if_pos (by omega)]
      show _ = some (if In i' j' then _ else _)
      rw [if_pos ⟨rfl, h1, h2⟩]; congr 2; omega
    · have : ¬ (i * (tt e).sz + j ≤ i' * (tt e).sz + j' ∧ i' * (tt e).sz + j' < i * (tt e).sz + j + n) := by
        rintro ⟨h1, h2⟩
        refine hI ?_
        have := mul_add_inj (n := (tt e).sz) (i := i') (j := j') (i' := i) (j' := i' * (tt e).sz + j' - i * (tt e).sz) hj' (by omega) (by omega)
        exact ⟨this.1, by omega, by omega⟩
      rw [if_neg this, k5 i' j' hi' hj']
      show _ = some (if In i' j' then _ else _)
      rw [if_neg hI]
  · intro i' j' hi' hj'
    rw [List.length_set] at hi'
    rw [nth_set _ _ _ _ hi]
    show CellOwn tt w' F 2 _ _ (if In i' j' then _ else _) (if In i' j' then _ else _)
    by_cases hI : In i' j'
    · rw [if_pos hI, if_pos hI]
      obtain ⟨rfl, h1, h2⟩ := hI
      rw [if_pos rfl, hg' j' hj', if_pos ⟨h1, h2⟩]
      have := hown (j' - j) (by omega)
      rw [show j + (j' - j) = j' by omega] at this
      refine .inl ⟨rfl, this.mono (fun _ h => h) hF (fun x hx => hw x (fun h => hd1 _ x (by omega) hx (h ▸ hSb)))⟩
    · rw [if_neg hI, if_neg hI]
      have e1 : cellG (tt e).agg (if i' = i then g' else nth l i') j' = cellG (tt e).agg (nth l i') j' := by
        by_cases h : i' = i
        · subst h; rw [if_pos rfl, hg' j' hj', if_neg (fun h2 => hI ⟨rfl, h2⟩)]
        · rw [if_neg h]
      rw [e1]
      exact (k6 i' j' hi' hj').mono (fun _ h => h) hF (fun x hx => hw x (fun h => k7 i' j' hi' hj' (h ▸ hx)))
  · intro i' j' hi' hj'
    rw [List.length_set] at hi'
    show ¬ (if In i' j' then _ else _ : Nat → Prop) b
    by_cases hI : In i' j'
    · rw [if_pos hI]
      obtain ⟨rfl, h1, h2⟩ := hI
      exact fun hx => hd1 _ b (by omega) hx hSb
    · rw [if_neg hI]; exact k7 i' j' hi' hj'
  · intro i1 j1 i2 j2 x hi1 hj1 hi2 hj2 h1 h2
    rw [List.length_set] at hi1 hi2
    have g1 : (if In i1 j1 then Sk (j1 - j) else Sf i1 j1) x := h1
    have g2 : (if In i2 j2 then Sk (j2 - j) else Sf i2 j2) x := h2
    clear h1 h2
    by_cases hI1 : In i1 j1 <;> by_cases hI2 : In i2 j2
    · rw [if_pos hI1] at g1; rw [if_pos hI2] at g2
      obtain ⟨rfl, a1, a2⟩ := hI1
      obtain ⟨rfl, b1, b2⟩ := hI2
      have := hd2 _ _ x (by omega) (by omega) g1 g2
      exact ⟨rfl, by omega⟩
    · rw [if_pos hI1] at g1; rw [if_neg hI2] at g2
      obtain ⟨rfl, a1, a2⟩ := hI1
      exact absurd (hSf hi2 hj2 g2) (hd1 _ x (by omega) g1)
    · rw [if_neg hI1] at g1; rw [if_pos hI2] at g2
      obtain ⟨rfl, a1, a2⟩ := hI2
      exact absurd (hSf hi1 hj1 g1) (hd1 _ x (by omega) g2)
    · rw [if_neg hI1] at g1; rw [if_neg hI2] at g2
      exact k8 _ _ _ _ _ hi1 hj1 hi2 hj2 g1 g2
  · rintro x (rfl | ⟨i', j', hi', hj', hx⟩)
    · exact .inl hSb
    · rw [List.length_set] at hi'
      have g1 : (if In i' j' then Sk (j' - j) else Sf i' j') x := hx
      clear hx
      by_cases hI : In i' j'
      · rw [if_pos hI] at g1
        obtain ⟨rfl, a1, a2⟩ := hI
        exact .inr ⟨_, by omega, g1⟩
      · rw [if_neg hI] at g1
        exact .inl (hSf hi' hj' g1)

end
end Go.Eng
