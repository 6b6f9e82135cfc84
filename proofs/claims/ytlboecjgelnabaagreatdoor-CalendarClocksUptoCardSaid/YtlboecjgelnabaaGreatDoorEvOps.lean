
/-
  When a piece of the evaluator's syntax is a given operation of the model's (a check that the kernel computes), and that the operation then does what the evaluator says: the operations that call nobody.
-/
import Derived.Test.YtlboecjgelnabaaGreatDoorEvSim
import Derived.Laws.Tables
import Derived.Laws.MakeOwn
import Derived.Laws.CopyRow
import Derived.Laws.Build
import Derived.Laws.Cells
namespace Go.Evl
open Go.RowKit

/-! ### The checks -/

mutual
def sameD : D → D → Bool
  | .int k a, .int l b => decide (k = l) && decide (a = b)
  | .bool a, .bool b => a == b
  | .str a, .str b => a == b
  | .nil, .nil => true
  | .list n a, .list m b => n == m && sameDL a b
  | .agg a, .agg b => sameDL a b
  | .nilp, .nilp => true
  | .nilf, .nilf => true
  | .nili, .nili => true
  | .nilm, .nilm => true
  | _, _ => false
def sameDL : List D → List D → Bool
  | [], [] => true
  | x :: r, y :: q => sameD x y && sameDL r q
  | _, _ => false
end

mutual
theorem sameD_eq : ∀ (a b : D), sameD a b = true → a = b
  | .int k a, b, h => by cases b <;> simp [sameD] at h; obtain ⟨rfl, rfl⟩ := h; rfl
  | .bool a, b, h => by cases b <;> simp [sameD] at h; subst h; rfl
  | .str a, b, h => by cases b <;> simp [sameD] at h; subst h; rfl
  | .nil, b, h => by cases b <;> simp [sameD] at h; rfl
  | .list n a, b, h => by
    cases b <;> simp [sameD] at h
    obtain ⟨rfl, h⟩ := h
    rw [sameDL_eq a _ h]
  | .agg a, b, h => by
    cases b <;> simp [sameD] at h
    rw [sameDL_eq a _ h]
  | .nilp, b, h => by cases b <;> simp [sameD] at h; rfl
  | .nilf, b, h => by cases b <;> simp [sameD] at h; rfl
  | .nili, b, h => by cases b <;> simp [sameD] at h; rfl
  | .nilm, b, h => by cases b <;> simp [sameD] at h; rfl
theorem sameDL_eq : ∀ (a b : List D), sameDL a b = true → a = b
  | [], b, h => by cases b <;> simp [sameDL] at h; rfl
  | x :: r, b, h => by
    cases b <;> simp [sameDL] at h
    rw [sameD_eq x _ h.1, sameDL_eq r _ h.2]
end

def isNilSlice : Value → Bool
  | .slice none 0 0 => true
  | _ => false

mutual
def constD : D → Value → Bool
  | .int l b, v => (match v with | .int k a => decide (k = l) && decide (a = b) | _ => false)
  | .bool b, v => (match v with | .bool a => a == b | _ => false)
  | .str l, v => (match v with | .string s => s.data.toList == l | _ => false)
  | .list m cs, v => (match v with | .slice a n c => a.isNone && n == 0 && c == 0 && m == 0 && cs.isEmpty | _ => false)
  | .nil, v => (match v with | .slice _ n c => n == 0 && c == 0 | _ => false)
  | .nilp, v => (match v with | .pointer a => a.isNone | _ => false)
  | .nilf, v => (match v with | .nilFunc => true | _ => false)
  | .nili, v => (match v with | .nilIface => true | _ => false)
  | .nilm, v => (match v with | .map a => a.isNone | _ => false)
  | .agg cs, v => (match v with | .agg xs => constL cs xs.toList | _ => false)
def constL : List D → List Value → Bool
  | [], xs => xs.isEmpty
  | d :: q, xs => (match xs with | x :: r => x.oneCell' && constD d x && constL q r | [] => false)
end

mutual
theorem constD_ok (w : World) (Im : Nat → Nat → Prop) : ∀ (d : D) (v : Value), constD d v = true → DR w Im d v
  | .int k a, v, h => by
    cases v <;> simp only [constD, Bool.false_eq_true] at h
    simp at h; obtain ⟨rfl, rfl⟩ := h; rfl
  | .bool a, v, h => by
    cases v <;> simp only [constD, Bool.false_eq_true] at h
    simp at h; subst h; rfl
  | .str l, v, h => by
    cases v <;> simp only [constD, Bool.false_eq_true] at h
    rename_i b; cases b; simp at h; subst h; simp [DR]
  | .nil, v, h => by
    cases v <;> simp only [constD, Bool.false_eq_true] at h
    simp at h; obtain ⟨rfl, rfl⟩ := h; exact ⟨_, rfl⟩
  | .list m cs, v, h => by
    cases v <;> simp only [constD, Bool.false_eq_true] at h
    simp at h
    obtain ⟨⟨⟨⟨h1, rfl⟩, rfl⟩, rfl⟩, rfl⟩ := h
    exact ⟨_, _, rfl, Nat.le_refl _, .inl ⟨rfl, rfl⟩⟩
  | .nilp, v, h => by
    cases v <;> simp only [constD, Bool.false_eq_true] at h
    simp at h; subst h; rfl
  | .nilf, v, h => by cases v <;> simp only [constD, Bool.false_eq_true] at h; rfl
  | .nili, v, h => by cases v <;> simp only [constD, Bool.false_eq_true] at h; rfl
  | .nilm, v, h => by
    cases v <;> simp only [constD, Bool.false_eq_true] at h
    simp at h; subst h; rfl
  | .agg cs, v, h => by
    cases v <;> simp only [constD, Bool.false_eq_true] at h
    exact ⟨_, rfl, constL_ok w Im cs _ h⟩
theorem constL_ok (w : World) (Im : Nat → Nat → Prop) : ∀ (cs : List D) (xs : List Value), constL cs xs = true → DRs w Im cs xs
  | [], xs, h => by
    cases xs
    · rfl
    · simp [constL] at h
  | d :: q, xs, h => by
    cases xs
    · simp [constL] at h
    · simp only [constL, Bool.and_eq_true] at h
      exact ⟨_, _, rfl, h.1.1, constD_ok w Im d _ h.1.2, constL_ok w Im q _ h.2⟩
end

def okX (gl : Globs) : Operand → Opd → Bool
  | .tmp a, .t b => a == b
  | .const v, .k (.d d) => constD d v
  | .func f, .k (.fn g a b) => f == g && a.isEmpty && b.isEmpty
  | .global g, .k (.lptr cs off) => off == 0 && gl.any fun p => p.1 == g && sameDL p.2 cs
  | _, _ => false

def okXs (gl : Globs) : List Operand → List Opd → Bool
  | [], [] => true
  | a :: r, x :: q => okX gl a x && okXs gl r q
  | _, _ => false

def okX? (gl : Globs) : Option Operand → Option Opd → Bool
  | none, none => true
  | some a, some x => okX gl a x
  | _, _ => false

def isNil (x : Operand) : Bool :=
  match x with
  | .const v => isNilSlice v
  | _ => false

def okInit : List Value → List Init → Bool
  | [], [] => true
  | v :: r, .z d :: q => v.oneCell' && constD d v && okInit r q
  | v :: r, .own s :: q => isNilSlice v && decide (0 < s.sz) && okInit r q
  | _, _ => false

def sizeP (P : Program) (t : TypeId) : Option Nat := (P.info? t).map (·.size)
def zeroP (P : Program) (t : TypeId) : Option (List Value) := ((P.info? t).bind (·.zero)).map (·.cells.toList)
def aggP (P : Program) (t : TypeId) : Option Bool := (P.underlying t).map fun | .struct _ | .array _ _ => true | _ => false
/-- How a variable of a type is read: one cell, or so many. -/
def cellP (P : Program) (t : TypeId) (n : Option Nat) : Bool :=
  match n with
  | none => aggP P t == some false
  | some k => aggP P t == some true && sizeP P t == some k
def sliceP (P : Program) (t : TypeId) : Option TypeId :=
  match P.underlying t with
  | some (.slice e) => some e
  | _ => none
def specP (P : Program) (e : TypeId) (r : RowSpec) : Bool :=
  r.t == e && decide (0 < r.sz) && (match P.info? e with
    | some i => i.size == r.sz && i.bytes == r.by_ && (match i.zero with | some z => z.cells.size == r.sz | none => false)
    | none => false)

/-- Each part where the type lays it: (field or index, operand) against (offset, cells, operand). -/
def okParts (gl : Globs) (place : Nat → Option (Nat × Nat)) : List (Nat × Operand) → List (Nat × Nat × Opd) → Bool
  | [], [] => true
  | (i, a) :: r, (off, n, x) :: q => (place i == some (off, n)) && okX gl a x && okParts gl place r q
  | _, _ => false

def placeP (P : Program) (t : TypeId) : Option (Nat → Option (Nat × Nat)) :=
  match P.underlying t with
  | some (.array _ e) => (P.info? e).map fun i => fun j => some (j * i.size, i.size)
  | some (.struct fs) => (fs.toList.mapM fun f => (P.info? f.type).map fun i => (f.offset, i.size)).map fun l => fun j => l.toArray[j]?
  | _ => none

/-- The parts of a literal slice: all of them, in order. -/
def okElems (gl : Globs) (i : Nat) : List (Nat × Operand) → List Opd → Bool
  | [], [] => true
  | (j, a) :: r, x :: q => j == i && okX gl a x && okElems gl (i + 1) r q
  | _, _ => false

/-! ### Operands -/

theorem okX_ok {oc : Codes} {gl : Globs} {s : S} (hs : Sim oc gl s) {e : Env} {A : Act} (he : EnvR s e A.tmps) {a : Operand} {x : Opd} (h : okX gl a x = true) : VR s (x.ev e) (A.eval a) := by
  cases a <;> cases x <;> simp [okX] at h
  · subst h; exact he _
  · rename_i v y; cases y <;> simp at h
    exact constD_ok _ _ _ _ h
  · rename_i g y
    cases y <;> simp at h
    obtain ⟨rfl, g', cs', h1, rfl, h3⟩ := h
    obtain rfl := sameDL_eq _ _ h3
    exact ⟨_, 0, rfl, hs.glob _ _ h1⟩
  · rename_i f y
    cases y <;> simp at h
    obtain ⟨⟨rfl, rfl⟩, rfl⟩ := h
    exact ⟨#[], #[], rfl, rfl, rfl⟩

theorem okXs_ok {oc : Codes} {gl : Globs} {s : S} (hs : Sim oc gl s) {e : Env} {A : Act} (he : EnvR s e A.tmps) : ∀ (as : List Operand) (xs : List Opd), okXs gl as xs = true → VRt s (evs e xs) (as.map A.eval)
  | [], [], _ => rfl
  | [], _ :: _, h => by simp [okXs] at h
  | _ :: _, [], h => by simp [okXs] at h
  | a :: r, x :: q, h => by
    simp only [okXs, Bool.and_eq_true] at h
    exact ⟨_, _, rfl, okX_ok hs he h.1, okXs_ok hs he r q h.2⟩

/-! ### What an operation gives -/

/-- The operation yields a value, and both sides go on alike. -/
def Gives (P : Program) (oc : Codes) (gl : Globs) (s : S) (A : Act) (o : Oper) (v : V) (m' : Mem) : Prop :=
  ∃ (s' : S) (x : Value), (execOp A.eval o).run P s.w = .ok (.value x) s'.w ∧ Sim oc gl s' ∧ Ext (fun _ => True) s s' ∧ s'.m = m' ∧ VR s' v x

/-- The operation yields nothing. -/
def GivesU (P : Program) (oc : Codes) (gl : Globs) (s : S) (A : Act) (o : Oper) (m' : Mem) : Prop :=
  ∃ s' : S, (execOp A.eval o).run P s.w = .ok .skip s'.w ∧ Sim oc gl s' ∧ Ext (fun _ => True) s s' ∧ s'.m = m'

section
variable {P : Program} {oc : Codes} {gl : Globs} {s : S} {A : Act} {o : Oper} {e : Env}

theorem gives_same (hs : Sim oc gl s) {v : V} {x : Value} (hr : (execOp A.eval o).run P s.w = .ok (.value x) s.w) (hv : VR s v x) : Gives P oc gl s A o v s.m :=
  ⟨s, x, hr, hs, Ext.refl _ _, rfl, hv⟩

/-! ### Shapes of values -/

theorem VR.one {v : V} {x : Value} {cs : List V} (h : VR s v x) (hc : cellsOf v = some cs) : VRs s cs x.cells.toList := by
  have asD : ∀ (ds : List D) (xs : List Value), DRs s.w s.Im ds xs → VRs s (asV ds) xs := by
    intro ds
    induction ds with
    | nil => intro xs h; exact h
    | cons d r ih =>
      intro xs h
      obtain ⟨x, ys, h1, h2, h3, h4⟩ := h
      exact ⟨x, ys, h1, h2, h3, ih _ h4⟩
  cases v with
  | d d =>
    cases d with
    | agg ds =>
      simp [cellsOf] at hc; subst hc
      obtain ⟨xs, rfl, h⟩ := h
      exact asD _ _ h
    | int k n => simp [cellsOf] at hc; subst hc; obtain rfl := h; exact ⟨_, _, rfl, rfl, rfl, rfl⟩
    | bool b => simp [cellsOf] at hc; subst hc; obtain rfl := h; exact ⟨_, _, rfl, rfl, rfl, rfl⟩
    | str b => simp [cellsOf] at hc; subst hc; obtain rfl := h; exact ⟨_, _, rfl, rfl, rfl, rfl⟩
    | nil => simp [cellsOf] at hc; subst hc; obtain ⟨a, rfl⟩ := h; exact ⟨_, _, rfl, rfl, ⟨a, rfl⟩, rfl⟩
    | list n l => simp [cellsOf] at hc; subst hc; obtain ⟨a, c, rfl, h⟩ := h; exact ⟨_, _, rfl, rfl, ⟨a, c, rfl, h⟩, rfl⟩
    | nilp => simp [cellsOf] at hc; subst hc; obtain rfl := h; exact ⟨_, _, rfl, rfl, rfl, rfl⟩
    | nilf => simp [cellsOf] at hc; subst hc; obtain rfl := h; exact ⟨_, _, rfl, rfl, rfl, rfl⟩
    | nili => simp [cellsOf] at hc; subst hc; obtain rfl := h; exact ⟨_, _, rfl, rfl, rfl, rfl⟩
    | nilm => simp [cellsOf] at hc; subst hc; obtain rfl := h; exact ⟨_, _, rfl, rfl, rfl, rfl⟩
  | agg l =>
    simp [cellsOf] at hc; subst hc
    obtain ⟨xs, rfl, h⟩ := h
    exact h
  | tup l => simp [cellsOf] at hc
  | skip => simp [cellsOf] at hc
  | undef => simp [cellsOf] at hc
  | ref o a b c =>
    simp [cellsOf] at hc; subst hc
    have h1 := h.1
    refine ⟨x, [], ?_, h1, h, rfl⟩
    cases x <;> simp [Evl.one, Value.oneCell'] at h1 <;> rfl
  | ptr o a b =>
    simp [cellsOf] at hc; subst hc
    have h1 := h.1
    refine ⟨x, [], ?_, h1, h, rfl⟩
    cases x <;> simp [Evl.one, Value.oneCell'] at h1 <;> rfl
  | yld o =>
    simp [cellsOf] at hc; subst hc
    have h1 := h.1
    refine ⟨x, [], ?_, h1, h, rfl⟩
    cases x <;> simp [Evl.one, Value.oneCell'] at h1 <;> rfl
  | mp o =>
    simp [cellsOf] at hc; subst hc
    have h1 := h.1
    refine ⟨x, [], ?_, h1, h, rfl⟩
    cases x <;> simp [Evl.one, Value.oneCell'] at h1 <;> rfl
  | it o =>
    simp [cellsOf] at hc; subst hc
    have h1 := h.1
    refine ⟨x, [], ?_, h1, h, rfl⟩
    cases x <;> simp [Evl.one, Value.oneCell'] at h1 <;> rfl
  | lptr l off =>
    simp [cellsOf] at hc; subst hc
    obtain ⟨b, o, rfl, h⟩ := h
    exact ⟨_, [], rfl, rfl, ⟨b, o, rfl, h⟩, rfl⟩
  | fn f a b =>
    simp [cellsOf] at hc; subst hc
    obtain ⟨xs, ys, rfl, h⟩ := h
    exact ⟨_, [], rfl, rfl, ⟨xs, ys, rfl, h⟩, rfl⟩

theorem VRs.asV : ∀ (ds : List D) (xs : List Value), DRs s.w s.Im ds xs → VRs s (asV ds) xs
  | [], _, h => h
  | _ :: r, _, ⟨x, ys, h1, h2, h3, h4⟩ => ⟨x, ys, h1, h2, h3, VRs.asV r _ h4⟩

theorem VRs.length : ∀ (cs : List V) (xs : List Value), VRs s cs xs → cs.length = xs.length
  | [], _, h => by simp only [VRs] at h; subst h; rfl
  | _ :: r, _, ⟨x, ys, h1, _, _, h4⟩ => by subst h1; simp [VRs.length r ys h4]

theorem DRs.length {w : World} {Im : Nat → Nat → Prop} : ∀ (cs : List D) (xs : List Value), DRs w Im cs xs → cs.length = xs.length
  | [], _, h => by simp only [DRs] at h; subst h; rfl
  | _ :: r, _, ⟨x, ys, h1, _, _, h4⟩ => by subst h1; simp [DRs.length r ys h4]

theorem VRs.ones : ∀ (cs : List V) (xs : List Value), VRs s cs xs → ∀ v ∈ xs, v.oneCell' = true
  | [], _, h => by simp only [VRs] at h; subst h; simp
  | _ :: r, _, ⟨x, ys, h1, h2, _, h4⟩ => by
    subst h1
    intro v hv
    rcases List.mem_cons.1 hv with rfl | hv
    · exact h2
    · exact VRs.ones r ys h4 v hv

theorem DRs.ones {w : World} {Im : Nat → Nat → Prop} : ∀ (cs : List D) (xs : List Value), DRs w Im cs xs → ∀ v ∈ xs, v.oneCell' = true
  | [], _, h => by simp only [DRs] at h; subst h; simp
  | _ :: r, _, ⟨x, ys, h1, h2, _, h4⟩ => by
    subst h1
    intro v hv
    rcases List.mem_cons.1 hv with rfl | hv
    · exact h2
    · exact DRs.ones r ys h4 v hv

theorem VRs.append : ∀ (a : List V) (x : List Value) (b : List V) (y : List Value), VRs s a x → VRs s b y → VRs s (a ++ b) (x ++ y)
  | [], _, b, y, h, k => by simp only [VRs] at h; subst h; exact k
  | _ :: r, _, b, y, ⟨x, ys, h1, h2, h3, h4⟩, k => by subst h1; exact ⟨x, ys ++ y, rfl, h2, h3, VRs.append r ys b y h4 k⟩

theorem DRs.append {w : World} {Im : Nat → Nat → Prop} : ∀ (a : List D) (x : List Value) (b : List D) (y : List Value), DRs w Im a x → DRs w Im b y → DRs w Im (a ++ b) (x ++ y)
  | [], _, b, y, h, k => by simp only [DRs] at h; subst h; exact k
  | _ :: r, _, b, y, ⟨x, ys, h1, h2, h3, h4⟩, k => by subst h1; exact ⟨x, ys ++ y, rfl, h2, h3, DRs.append r ys b y h4 k⟩

theorem VRs.drop : ∀ (n : Nat) (a : List V) (x : List Value), VRs s a x → VRs s (a.drop n) (x.drop n)
  | 0, _, _, h => h
  | n + 1, [], _, h => by simp only [VRs] at h; subst h; rfl
  | n + 1, _ :: r, _, ⟨x, ys, h1, _, _, h4⟩ => by subst h1; exact VRs.drop n r ys h4
theorem VRs.take : ∀ (n : Nat) (a : List V) (x : List Value), VRs s a x → VRs s (a.take n) (x.take n)
  | 0, _, _, _ => rfl
  | n + 1, [], _, h => by simp only [VRs] at h; subst h; rfl
  | n + 1, _ :: r, _, ⟨x, ys, h1, h2, h3, h4⟩ => by subst h1; exact ⟨x, ys.take n, rfl, h2, h3, VRs.take n r ys h4⟩
theorem DRs.drop {w : World} {Im : Nat → Nat → Prop} : ∀ (n : Nat) (a : List D) (x : List Value), DRs w Im a x → DRs w Im (a.drop n) (x.drop n)
  | 0, _, _, h => h
  | n + 1, [], _, h => by simp only [DRs] at h; subst h; rfl
  | n + 1, _ :: r, _, ⟨x, ys, h1, _, _, h4⟩ => by subst h1; exact DRs.drop n r ys h4
theorem DRs.take {w : World} {Im : Nat → Nat → Prop} : ∀ (n : Nat) (a : List D) (x : List Value), DRs w Im a x → DRs w Im (a.take n) (x.take n)
  | 0, _, _, _ => rfl
  | n + 1, [], _, h => by simp only [DRs] at h; subst h; rfl
  | n + 1, _ :: r, _, ⟨x, ys, h1, h2, h3, h4⟩ => by subst h1; exact ⟨x, ys.take n, rfl, h2, h3, DRs.take n r ys h4⟩
theorem VRs.at : ∀ (a : List V) (x : List Value) (n : Nat) (v : V), VRs s a x → a[n]? = some v → ∃ y, x[n]? = some y ∧ Evl.one y ∧ VR s v y
  | [], _, _, _, _, h => by simp at h
  | _ :: r, _, 0, v, ⟨x, ys, h1, h2, h3, h4⟩, h => by
    simp at h; subst h; subst h1; exact ⟨x, rfl, h2, h3⟩
  | _ :: r, _, n + 1, v, ⟨x, ys, h1, h2, h3, h4⟩, h => by
    simp at h; subst h1; simpa using VRs.at r ys n v h4 h
theorem VRt.at : ∀ (a : List V) (x : List Value) (n : Nat) (v : V), VRt s a x → a[n]? = some v → ∃ y, x[n]? = some y ∧ VR s v y
  | [], _, _, _, _, h => by simp at h
  | _ :: r, _, 0, v, ⟨x, ys, h1, h3, h4⟩, h => by
    simp at h; subst h; subst h1; exact ⟨x, rfl, h3⟩
  | _ :: r, _, n + 1, v, ⟨x, ys, h1, h3, h4⟩, h => by
    simp at h; subst h1; simpa using VRt.at r ys n v h4 h

/-- The cells of an immutable slice, read. -/
theorem CR.at {w : World} {Im : Nat → Nat → Prop} {b : Nat} : ∀ (cs : List D) (o n : Nat) (d : D), CR w Im b o cs → cs[n]? = some d → Im b (o + n) ∧ ∃ x, w.cell? ⟨b, o + n, none⟩ = some x ∧ Evl.one x ∧ DR w Im d x
  | [], _, _, _, _, h => by simp at h
  | _ :: r, o, 0, d, ⟨h1, h2, h3⟩, h => by simp at h; subst h; exact ⟨h1, h2⟩
  | _ :: r, o, n + 1, d, ⟨h1, h2, h3⟩, h => by
    simp at h
    have := CR.at r (o + 1) n d h3 h
    rwa [show o + 1 + n = o + (n + 1) by omega] at this
theorem CR.drop {w : World} {Im : Nat → Nat → Prop} {b : Nat} : ∀ (n : Nat) (cs : List D) (o : Nat), CR w Im b o cs → CR w Im b (o + n) (cs.drop n)
  | 0, _, _, h => h
  | n + 1, [], _, _ => trivial
  | n + 1, _ :: r, o, ⟨_, _, h3⟩ => by
    have := CR.drop n r (o + 1) h3
    rwa [show o + 1 + n = o + (n + 1) by omega] at this
theorem CR.take {w : World} {Im : Nat → Nat → Prop} {b : Nat} : ∀ (n : Nat) (cs : List D) (o : Nat), CR w Im b o cs → CR w Im b o (cs.take n)
  | 0, _, _, _ => trivial
  | _ + 1, [], _, _ => trivial
  | n + 1, _ :: r, o, ⟨h1, h2, h3⟩ => ⟨h1, h2, CR.take n r (o + 1) h3⟩
/-- .. all of them. -/
theorem CR.cells {w : World} {Im : Nat → Nat → Prop} {b : Nat} : ∀ (cs : List D) (o : Nat), CR w Im b o cs → ∃ xs, DRs w Im cs xs ∧ ∀ j v, xs[j]? = some v → w.cell? ⟨b, o + j, none⟩ = some v
  | [], _, _ => ⟨[], rfl, by simp⟩
  | d :: r, o, ⟨_, ⟨x, h2, h3, h4⟩, h5⟩ => by
    obtain ⟨xs, k1, k2⟩ := CR.cells r (o + 1) h5
    refine ⟨x :: xs, ⟨x, xs, rfl, h3, h4, k1⟩, fun j v hj => ?_⟩
    cases j with
    | zero => simp at hj; subst hj; exact h2
    | succ j =>
      simp at hj
      have := k2 j v hj
      rwa [show o + 1 + j = o + (j + 1) by omega] at this
/-- Data whose cells lie there, sealed, is read there. -/
theorem CR.mk {w : World} {Im : Nat → Nat → Prop} {b : Nat} : ∀ (cs : List D) (xs : List Value) (o : Nat), DRs w Im cs xs → (∀ j v, xs[j]? = some v → w.cell? ⟨b, o + j, none⟩ = some v) → (∀ j, j < xs.length → Im b (o + j)) → CR w Im b o cs
  | [], _, _, _, _, _ => trivial
  | d :: r, _, o, ⟨x, ys, h1, h2, h3, h4⟩, hc, hi => by
    subst h1
    refine ⟨hi 0 (by simp), ⟨x, hc 0 x rfl, h2, h3⟩, CR.mk r ys (o + 1) h4 (fun j v hj => ?_) (fun j hj => ?_)⟩
    · have := hc (j + 1) v (by simpa using hj)
      rwa [show o + (j + 1) = o + 1 + j by omega] at this
    · have := hi (j + 1) (by simpa using hj)
      rwa [show o + (j + 1) = o + 1 + j by omega] at this

theorem allD_ok : ∀ (cs : List V) (ds : List D) (xs : List Value), allD cs = some ds → VRs s cs xs → DRs s.w s.Im ds xs
  | [], ds, xs, h, hv => by simp [allD] at h; subst h; exact hv
  | .d x :: r, ds, xs, h, hv => by
    simp only [allD, Option.map_eq_some_iff] at h
    obtain ⟨ds', h1, rfl⟩ := h
    obtain ⟨y, ys, k1, k2, k3, k4⟩ := hv
    exact ⟨y, ys, k1, k2, k3, allD_ok r ds' ys h1 k4⟩
  | .agg _ :: _, _, _, h, _ => by simp [allD] at h
  | .tup _ :: _, _, _, h, _ => by simp [allD] at h
  | .ref .. :: _, _, _, h, _ => by simp [allD] at h
  | .ptr .. :: _, _, _, h, _ => by simp [allD] at h
  | .lptr .. :: _, _, _, h, _ => by simp [allD] at h
  | .fn .. :: _, _, _, h, _ => by simp [allD] at h
  | .yld _ :: _, _, _, h, _ => by simp [allD] at h
  | .mp _ :: _, _, _, h, _ => by simp [allD] at h
  | .it _ :: _, _, _, h, _ => by simp [allD] at h
  | .skip :: _, _, _, h, _ => by simp [allD] at h
  | .undef :: _, _, _, h, _ => by simp [allD] at h

theorem mkAgg_ok {cs : List V} {xs : Array Value} (h : VRs s cs xs.toList) : VR s (mkAgg cs) (.agg xs) := by
  unfold mkAgg
  cases hd : allD cs with
  | none => exact ⟨xs, rfl, h⟩
  | some ds => exact ⟨xs, rfl, allD_ok cs ds _ hd h⟩
end
end Go.Evl

