
/-
  Each operation that calls nobody does what the evaluator says (first part: values, numbers, addresses, loads and stores).
-/
import Derived.Test.YtlboecjgelnabaaGreatDoorEvOps
import Derived.Lib.Strings
namespace Go.Evl
open Go.RowKit

section
variable {P : Program} {oc : Codes} {gl : Globs} {s : S} {A : Act} {o : Oper} {e : Env}

theorem isNil_eq {a : Operand} (h : isNil a = true) (A : Act) : A.eval a = .slice none 0 0 := by
  cases a <;> simp [isNil] at h
  rename_i v
  cases v <;> simp [isNilSlice] at h
  rename_i p n c
  cases p <;> cases n <;> cases c <;> simp at h
  rfl

/-- A new growable row without elements: the nil slice. -/
theorem newRow_nil (hs : Sim oc gl s) (i : Id) (hi : look s.m i = none) (r : RowSpec) (hz : 0 < r.sz) :
    Sim oc gl ⟨fun k => if i = k then .slice none 0 0 else s.φ k, upd s.m i (.row r.wr r.t r.sz 0 []), s.w, s.Im⟩ ∧
    Ext (fun _ => True) s ⟨fun k => if i = k then .slice none 0 0 else s.φ k, upd s.m i (.row r.wr r.t r.sz 0 []), s.w, s.Im⟩ :=
  hs.change i _ _ s.w s.Im rfl rfl rfl (Nat.le_refl _) (fun _ _ _ => rfl) (fun _ _ h => h) (fun _ _ _ => rfl) (fun _ _ h => .inl h) hs.imlt
    (fun b h => by simp [blk] at h) (fun o h => by rw [hi] at h; cases h)
    (fun _ => ⟨hz, [], World.ownsRow_nil _ _ _ _, rfl, fun b h => by simp [Value.ownBlock] at h⟩)

theorem newRow_ref (s : S) (i : Id) (p : Value) (hp : one p) (wr : Bool) (t sz n : Nat) (xs : List D) (w : World) (Im : Nat → Nat → Prop) (φ : Id → Value) (hφ : φ i = p) :
    VR ⟨φ, upd s.m i (.row wr t sz n xs), w, Im⟩ (.ref i 0 n n) p := by
  refine ⟨hp, ?_⟩
  show RefR (φ i) 0 n n p (look (upd s.m i (.row wr t sz n xs)) i)
  rw [look_upd_same, hφ]
  exact ⟨Nat.le_refl _, fun _ => .inl ⟨rfl, rfl, rfl⟩⟩

def okMv (gl : Globs) (o : Oper) (x : Opd) : Bool :=
  match o.op with
  | .move a => okX gl a x
  | .assign a => okX gl a x
  | _ => false
theorem sound_mv (hs : Sim oc gl s) (he : EnvR s e A.tmps) {x : Opd} (ok : okMv gl o x = true) : Gives P oc gl s A o (x.ev e) s.m := by
  unfold okMv at ok
  split at ok <;> try cases ok
  · rename_i a ho
    exact gives_same hs (x := A.eval a) (by simp only [execOp, ho]; rfl) (okX_ok hs he ok)
  · rename_i a ho
    exact gives_same hs (x := A.eval a) (by simp only [execOp, ho]; rfl) (okX_ok hs he ok)

def okOwnNil (o : Oper) (r : RowSpec) : Bool :=
  (match o.op with
  | .move a => isNil a
  | .assign a => isNil a
  | _ => false) && decide (0 < r.sz)
theorem sound_ownNil (hs : Sim oc gl s) (cx : Cx) (slot : Nat) {r : RowSpec} (ok : okOwnNil o r = true) :
    Gives P oc gl s A o (.ref (newId cx slot s.m) 0 0 0) (upd s.m (newId cx slot s.m) (.row r.wr r.t r.sz 0 [])) := by
  simp only [okOwnNil, Bool.and_eq_true, decide_eq_true_eq] at ok
  obtain ⟨ok, hz⟩ := ok
  obtain ⟨h1, h2⟩ := newRow_nil hs (newId cx slot s.m) (newId_fresh _ _ _) r hz
  split at ok <;> try cases ok
  · rename_i a ho
    refine ⟨_, .slice none 0 0, by simp only [execOp, ho, isNil_eq ok]; rfl, h1, h2, rfl, newRow_ref s _ (.slice none 0 0) rfl _ _ _ _ _ _ _ _ (by simp)⟩
  · rename_i a ho
    refine ⟨_, .slice none 0 0, by simp only [execOp, ho, isNil_eq ok]; rfl, h1, h2, rfl, newRow_ref s _ (.slice none 0 0) rfl _ _ _ _ _ _ _ _ (by simp)⟩

def okPick (gl : Globs) (o : Oper) (c a b : Opd) : Bool :=
  match o.op with
  | .pick c' a' b' => okX gl c' c && okX gl a' a && okX gl b' b
  | _ => false
theorem sound_pick (hs : Sim oc gl s) (he : EnvR s e A.tmps) {c a b : Opd} {t : Bool} (ok : okPick gl o c a b = true) (hc : c.ev e = .d (.bool t)) :
    Gives P oc gl s A o (if t then a.ev e else b.ev e) s.m := by
  unfold okPick at ok
  split at ok <;> try cases ok
  rename_i c' a' b' ho
  simp only [Bool.and_eq_true] at ok
  have h1 := okX_ok hs he ok.1.1
  rw [hc] at h1
  have h1 : A.eval c' = .bool t := h1
  refine gives_same hs (x := if t then A.eval a' else A.eval b') (by simp only [execOp, ho, h1, asBool]; cases t <;> rfl) ?_
  cases t
  · exact okX_ok hs he ok.2
  · exact okX_ok hs he ok.1.2

/-! ### Numbers, strings, truth values -/

theorem run_ok {α : Type} (a : α) (w : World) : (pure a : Sem α).run P w = .ok a w := rfl

def okBin (gl : Globs) (o : Oper) (op : BinOp) (x y : Opd) : Bool :=
  match o.op with
  | .binOp op' _ a b _ => (op' == op) && okX gl a x && okX gl b y
  | _ => false

theorem eqGuard_run (op : BinOp) (t : TypeId) (x y : Operand) (a b : Value) (w : World) (h : (op ≠ .eql ∧ op ≠ .neq) ∨ (a ≠ .nilIface ∧ ∀ cs, a ≠ .agg cs)) : (eqGuard op t x y a b).run P w = .ok () w := by
  have two : (a ≠ .nilIface ∧ ∀ cs, a ≠ .agg cs) → ∀ op, (eqGuard op t x y a b).run P w = .ok () w := by
    intro ⟨h1, h2⟩ op
    cases a with
    | nilIface => exact absurd rfl h1
    | agg cs => exact absurd rfl (h2 cs)
    | _ => cases op <;> rfl
  rcases h with h | h
  · cases op with
    | eql => exact absurd rfl h.1
    | neq => exact absurd rfl h.2
    | _ => rfl
  · exact two h op

theorem toList_str (l : List UInt8) : (⟨l.toArray⟩ : ByteArray).toList = l := Lib.toList_data _

theorem strLess_eq : ∀ (a b : List UInt8), Op.bytesLess a b = strLess a b
  | [], [] => rfl
  | _ :: _, [] => rfl
  | [], _ :: _ => rfl
  | x :: a, y :: b => by simp only [Op.bytesLess, strLess, strLess_eq a b]

def okConv (P : Program) (gl : Globs) (o : Oper) (k : IntKind) (x : Opd) : Bool :=
  match o.op with
  | .convert a b y => okX gl y x && (match P.underlying a, P.underlying b with | some (.int _), some (.int k') => decide (k' = k) | _, _ => false)
  | _ => false
theorem sound_conv (hs : Sim oc gl s) (he : EnvR s e A.tmps) {k l : IntKind} {n : Int} {x : Opd} (ok : okConv P gl o k x = true) (hx : x.ev e = .d (.int l n)) :
    Gives P oc gl s A o (.d (.int k (k.wrap n))) s.m := by
  unfold okConv at ok
  split at ok <;> try cases ok
  rename_i a b y ho
  simp only [Bool.and_eq_true] at ok
  obtain ⟨ok, ht⟩ := ok
  split at ht <;> try cases ht
  rename_i k1 k2 ha hb
  simp only [decide_eq_true_eq] at ht
  subst ht
  have h1 := okX_ok hs he ok
  rw [hx] at h1
  have h1 : A.eval y = .int l n := h1
  refine gives_same hs (x := .int k2 (k2.wrap n)) ?_ rfl
  simp [execOp, ho, h1, convert, run_underlying ha, run_underlying hb, Conv.intToInt]

def okUn (gl : Globs) (o : Oper) (op : UnOp) (x : Opd) : Bool :=
  match o.op with
  | .unOp op' _ y => (op' == op) && okX gl y x
  | _ => false
theorem sound_un (hs : Sim oc gl s) (he : EnvR s e A.tmps) {op : UnOp} {x : Opd} {r : D} (ok : okUn gl o op x = true) (hx : unD op (x.ev e) = some r) :
    Gives P oc gl s A o (.d r) s.m := by
  unfold okUn at ok
  split at ok <;> try cases ok
  rename_i op' t y ho
  simp only [Bool.and_eq_true, beq_iff_eq] at ok
  obtain ⟨rfl, ok⟩ := ok
  have h1 := okX_ok hs he ok
  generalize x.ev e = v at h1 hx
  unfold unD at hx
  split at hx
  · rename_i b
    obtain rfl := Option.some.inj hx
    have h1 : A.eval y = .bool b := h1
    exact gives_same hs (x := .bool (!b)) (by simp [execOp, ho, h1, Op.unary]) rfl
  · rename_i k n
    obtain rfl := Option.some.inj hx
    have h1 : A.eval y = .int k n := h1
    exact gives_same hs (x := .int k (k.wrap (0 - n))) (by simp [execOp, ho, h1, Op.unary, Op.intArith]) rfl
  · cases hx

theorem run_binInt {op : BinOp} {k : IntKind} {a b : Int} {r : D} (h : binInt op k a b = some r) (t : TypeId) (w : World) : ∃ x, (binOp op t (.int k a) (.int k b)).run P w = .ok x w ∧ ∀ w Im, DR w Im r x := by
  cases op with
  | add => obtain rfl := Option.some.inj h; exact ⟨.int k _, by simp [binOp, Op.intArith], fun _ _ => rfl⟩
  | sub => obtain rfl := Option.some.inj h; exact ⟨.int k _, by simp [binOp, Op.intArith], fun _ _ => rfl⟩
  | mul => obtain rfl := Option.some.inj h; exact ⟨.int k _, by simp [binOp, Op.intArith], fun _ _ => rfl⟩
  | quo =>
    simp only [binInt] at h
    split at h
    · cases h
    · rename_i hb
      obtain rfl := Option.some.inj h; exact ⟨.int k _, by simp [binOp, Op.intDiv, hb], fun _ _ => rfl⟩
  | rem =>
    simp only [binInt] at h
    split at h
    · cases h
    · rename_i hb
      obtain rfl := Option.some.inj h; exact ⟨.int k _, by simp [binOp, Op.intDiv, hb], fun _ _ => rfl⟩
  | and => obtain rfl := Option.some.inj h; exact ⟨.int k _, by simp [binOp, Op.intBits], fun _ _ => rfl⟩
  | or => obtain rfl := Option.some.inj h; exact ⟨.int k _, by simp [binOp, Op.intBits], fun _ _ => rfl⟩
  | xor => obtain rfl := Option.some.inj h; exact ⟨.int k _, by simp [binOp, Op.intBits], fun _ _ => rfl⟩
  | andNot => obtain rfl := Option.some.inj h; exact ⟨.int k _, by simp [binOp, Op.intBits], fun _ _ => rfl⟩
  | eql => obtain rfl := Option.some.inj h; exact ⟨.bool _, by simp only [binOp, Op.intCmp, if_false, ne_eq, not_true_eq_false]; rfl, fun _ _ => rfl⟩
  | neq => obtain rfl := Option.some.inj h; exact ⟨.bool _, by simp only [binOp, Op.intCmp, if_false, ne_eq, not_true_eq_false]; rfl, fun _ _ => rfl⟩
  | lss => obtain rfl := Option.some.inj h; exact ⟨.bool _, by simp [binOp, Op.intCmp], fun _ _ => rfl⟩
  | leq => obtain rfl := Option.some.inj h; exact ⟨.bool _, by simp [binOp, Op.intCmp], fun _ _ => rfl⟩
  | gtr => obtain rfl := Option.some.inj h; exact ⟨.bool _, by simp [binOp, Op.intCmp], fun _ _ => rfl⟩
  | geq => obtain rfl := Option.some.inj h; exact ⟨.bool _, by simp [binOp, Op.intCmp], fun _ _ => rfl⟩
  | _ => simp [binInt] at h

theorem run_binStr {op : BinOp} {a b : List UInt8} {r : D} (h : binStr op a b = some r) (t : TypeId) (w : World) : ∃ x, (binOp op t (.string ⟨a.toArray⟩) (.string ⟨b.toArray⟩)).run P w = .ok x w ∧ ∀ w Im, DR w Im r x := by
  have hx : (⟨a.toArray⟩ : ByteArray).size = a.length := by simp [ByteArray.size]
  have hy : (⟨b.toArray⟩ : ByteArray).size = b.length := by simp [ByteArray.size]
  cases op with
  | add =>
    simp only [binStr] at h
    split at h
    · rename_i hl
      obtain rfl := Option.some.inj h
      have hle : ¬ (((a.length + b.length : Nat) : Int) > IntKind.i64.max) := by
        have : IntKind.i64.max = 9223372036854775807 := by decide
        rw [this]; simp only [maxStr] at hl; omega
      refine ⟨.string (⟨a.toArray⟩ ++ ⟨b.toArray⟩), ?_, fun _ _ => ?_⟩
      · simp only [binOp, Op.stringOp, hx, hy, hle, if_false]; rfl
      · simp only [DR]
        congr 1
    · cases h
  | eql => obtain rfl := Option.some.inj h; exact ⟨.bool (a == b), by simp only [binOp, Op.stringOp, toList_str]; rfl, fun _ _ => rfl⟩
  | neq => obtain rfl := Option.some.inj h; exact ⟨.bool (!(a == b)), by simp only [binOp, Op.stringOp, toList_str]; rfl, fun _ _ => rfl⟩
  | lss => obtain rfl := Option.some.inj h; exact ⟨.bool (strLess a b), by simp only [binOp, Op.stringOp, toList_str, strLess_eq]; rfl, fun _ _ => rfl⟩
  | leq => obtain rfl := Option.some.inj h; exact ⟨.bool (strLess a b || a == b), by simp only [binOp, Op.stringOp, toList_str, strLess_eq]; rfl, fun _ _ => rfl⟩
  | gtr => obtain rfl := Option.some.inj h; exact ⟨.bool (!(strLess a b || a == b)), by simp only [binOp, Op.stringOp, toList_str, strLess_eq]; rfl, fun _ _ => rfl⟩
  | geq => obtain rfl := Option.some.inj h; exact ⟨.bool (!strLess a b), by simp only [binOp, Op.stringOp, toList_str, strLess_eq]; rfl, fun _ _ => rfl⟩
  | _ => simp [binStr] at h

theorem sound_bin (hs : Sim oc gl s) (he : EnvR s e A.tmps) {op : BinOp} {x y : Opd} {r : D} (ok : okBin gl o op x y = true) (h : binD op (x.ev e) (y.ev e) = some r) :
    Gives P oc gl s A o (.d r) s.m := by
  unfold okBin at ok
  split at ok <;> try cases ok
  rename_i op' t a b t2 ho
  simp only [Bool.and_eq_true, beq_iff_eq] at ok
  obtain ⟨⟨rfl, okx⟩, oky⟩ := ok
  have h1 := okX_ok hs he okx
  have h2 := okX_ok hs he oky
  generalize x.ev e = v at h1 h
  generalize y.ev e = u at h2 h
  -- what the operation's run is, once the operands are known
  have fin : ∀ (va vb xr : Value), A.eval a = va → A.eval b = vb → (va ≠ .nilIface ∧ ∀ cs, va ≠ .agg cs) → (binOp op' t va vb).run P s.w = .ok xr s.w → (∀ w Im, DR w Im r xr) → Gives P oc gl s A o (.d r) s.m := by
    intro va vb xr ha hb hva hr hd
    refine gives_same hs (x := xr) ?_ (hd _ _)
    simp only [execOp, ho, ha, hb, Sem.run_bind, eqGuard_run op' t a b va vb s.w (.inr hva), Result.andThen_ok, hr]
    rfl
  unfold binD at h
  split at h
  · rename_i k p l q
    have h1 : A.eval a = .int k p := h1
    have h2 : A.eval b = .int l q := h2
    split at h
    · split at h
      · rename_i hq
        obtain rfl := Option.some.inj h
        refine fin _ _ (.int k (k.wrap (p * 2 ^ (min q.toNat k.bits)))) h1 h2 ⟨by simp, by simp⟩ ?_ (fun _ _ => rfl)
        have hn : ¬ q < 0 := by omega
        simp [binOp, Op.shift, hn]
      · cases h
    · split at h
      · rename_i hq
        obtain rfl := Option.some.inj h
        refine fin _ _ (.int k (p.fdiv (2 ^ (min q.toNat k.bits)))) h1 h2 ⟨by simp, by simp⟩ ?_ (fun _ _ => rfl)
        have hn : ¬ q < 0 := by omega
        simp [binOp, Op.shift, hn]
      · cases h
    · split at h
      · rename_i hk
        subst hk
        obtain ⟨xr, hr, hd⟩ := run_binInt (P := P) h t s.w
        exact fin _ _ xr h1 h2 ⟨by simp, by simp⟩ hr hd
      · cases h
  · rename_i p q
    have h1 : A.eval a = .string ⟨p.toArray⟩ := h1
    have h2 : A.eval b = .string ⟨q.toArray⟩ := h2
    obtain ⟨xr, hr, hd⟩ := run_binStr (P := P) h t s.w
    exact fin _ _ xr h1 h2 ⟨by simp, by simp⟩ hr hd
  · cases h

theorem addr_add (b o n : Nat) : (⟨b, o, none⟩ : Addr).add n = ⟨b, o + n, none⟩ := by unfold Addr.add; split <;> simp_all

/-! ### Functions, parts, addresses -/

def okFunc (gl : Globs) (o : Oper) (f : Nat) (first caps : List Opd) : Bool :=
  match o.op with
  | .makeFunc (.func g) a b => g == f && okXs gl a.toList first && okXs gl b.toList caps
  | _ => false
theorem sound_func (hs : Sim oc gl s) (he : EnvR s e A.tmps) {f : Nat} {first caps : List Opd} (ok : okFunc gl o f first caps = true) :
    Gives P oc gl s A o (.fn f (evs e first) (evs e caps)) s.m := by
  unfold okFunc at ok
  split at ok <;> try cases ok
  rename_i g a b ho
  simp only [Bool.and_eq_true, beq_iff_eq] at ok
  obtain ⟨⟨rfl, o1⟩, o2⟩ := ok
  refine gives_same hs (x := .func (.func g) (a.map A.eval) (b.map A.eval)) (by simp [execOp, ho, Instr.makeFunc]) ?_
  exact ⟨_, _, rfl, by simpa using okXs_ok hs he _ _ o1, by simpa using okXs_ok hs he _ _ o2⟩

def okNilCheck (gl : Globs) (o : Oper) (x : Opd) : Bool :=
  match o.op with
  | .nilCheck a => okX gl a x
  | _ => false

def fieldP (P : Program) (t : TypeId) (i : Nat) : Option (Nat × TypeId) :=
  match P.underlying t with
  | some (.struct fs) => (fs[i]?).map fun f => (f.offset, f.type)
  | _ => none

def okFieldAddr (P : Program) (gl : Globs) (o : Oper) (off : Nat) (x : Opd) : Bool :=
  match o.op with
  | .fieldAddr t a i => okX gl a x && ((fieldP P t i).map (·.1) == some off) && ((fieldP P t i).bind (fun f => sizeP P f.2)).any (fun n => decide (0 < n))
  | _ => false

theorem sure_ok {v : V} {x : Value} (hv : VR s v x) (h : sure s.m v = true) : ∃ b o, x = .pointer (some ⟨b, o, none⟩) := by
  cases v <;> simp only [sure, Bool.false_eq_true] at h
  · have h2 := hv.2
    split at h
    · rename_i cs hl
      rw [hl] at h2
      obtain ⟨b, _, hq⟩ := h2
      exact ⟨_, _, hq⟩
    · rename_i hl
      rw [hl] at h2
      obtain ⟨b, cap, _, hq⟩ := h2.2 (by simpa using h)
      exact ⟨_, _, hq⟩
    · cases h
  · obtain ⟨b, o, hq, _⟩ := hv
    exact ⟨_, _, hq⟩

theorem moveAddr_ok {off : Nat} {v r : V} {x : Value} (hv : VR s v x) (h : moveAddr off s.m v = some r) : ∃ b o, x = .pointer (some ⟨b, o, none⟩) ∧ VR s r (.pointer (some ⟨b, o + off, none⟩)) := by
  unfold moveAddr at h
  split at h
  · rename_i hsure
    obtain ⟨b, o, rfl⟩ := sure_ok hv hsure
    refine ⟨b, o, rfl, ?_⟩
    cases v <;> simp only [sure, Bool.false_eq_true] at hsure <;> simp at h
    · subst h
      refine ⟨rfl, ?_⟩
      have h2 := hv.2
      split at hsure
      · rename_i cs hl
        rw [hl] at h2 ⊢
        obtain ⟨b', hp, hq⟩ := h2
        injection hq with hq; injection hq with hq; injection hq with hq1 hq2
        subst hq1; subst hq2
        exact ⟨_, hp, rfl⟩
      · rename_i hl
        rw [hl] at h2 ⊢
        refine ⟨h2.1, fun ht => ?_⟩
        obtain ⟨b', cap, hp, hq⟩ := h2.2 ht
        injection hq with hq; injection hq with hq; injection hq with hq1 hq2
        subst hq1; subst hq2
        exact ⟨_, cap, hp, rfl⟩
      · cases hsure
    · subst h
      obtain ⟨b', o', hq, hc⟩ := hv
      injection hq with hq; injection hq with hq; injection hq with hq1 hq2
      subst hq1; subst hq2
      exact ⟨_, o', by rw [Nat.add_assoc], hc⟩
  · cases h

theorem sound_nilCheck (hs : Sim oc gl s) (he : EnvR s e A.tmps) {x : Opd} {v : V} {m' : Mem} (ok : okNilCheck gl o x = true)
    (h : (if sure s.m (x.ev e) then some (x.ev e, s.m) else match x.ev e with | .fn f a b => some (V.fn f a b, s.m) | _ => none) = some (v, m')) : Gives P oc gl s A o v m' := by
  unfold okNilCheck at ok
  split at ok <;> try cases ok
  rename_i a ho
  have h1 := okX_ok hs he ok
  generalize x.ev e = y at h1 h
  split at h
  · rename_i hsure
    simp only [Option.some.injEq, Prod.mk.injEq] at h
    obtain ⟨rfl, rfl⟩ := h
    obtain ⟨b, q, hx⟩ := sure_ok h1 hsure
    exact gives_same hs (x := A.eval a) (by simp only [execOp, ho, hx]; rfl) h1
  · split at h
    · rename_i f c d
      simp only [Option.some.injEq, Prod.mk.injEq] at h
      obtain ⟨rfl, rfl⟩ := h
      have h1' := h1
      obtain ⟨xs, ys, hx, _⟩ := h1
      exact gives_same hs (x := A.eval a) (by simp only [execOp, ho, hx]; rfl) h1'
    · cases h

theorem fieldP_eq {t : TypeId} {i off : Nat} (h : (fieldP P t i).map (·.1) = some off) : ∃ fs f, P.underlying t = some (.struct fs) ∧ fs[i]? = some f ∧ f.offset = off := by
  unfold fieldP at h
  split at h
  · rename_i fs hu
    cases hf : fs[i]? with
    | none => rw [hf] at h; cases h
    | some f => rw [hf] at h; exact ⟨fs, f, hu, hf, by simpa using h⟩
  · cases h

theorem sound_fieldAddr (hs : Sim oc gl s) (he : EnvR s e A.tmps) {off : Nat} {x : Opd} {v : V} (ok : okFieldAddr P gl o off x = true) (h : moveAddr off s.m (x.ev e) = some v) :
    Gives P oc gl s A o v s.m := by
  unfold okFieldAddr at ok
  split at ok <;> try cases ok
  rename_i t a i ho
  simp only [Bool.and_eq_true, beq_iff_eq] at ok
  obtain ⟨⟨okx, hf⟩, hz⟩ := ok
  obtain ⟨fs, f, hu, hfi, rfl⟩ := fieldP_eq hf
  have hz' : ∃ it, P.info? f.type = some it ∧ it.size ≠ 0 := by
    simp only [fieldP, hu, hfi, Option.map_some, Option.bind_some, sizeP] at hz
    cases hi : P.info? f.type with
    | none => simp [hi] at hz
    | some it => refine ⟨it, rfl, ?_⟩; simp [hi] at hz; omega
  obtain ⟨it, hit, hne⟩ := hz'
  obtain ⟨b, q, hx, hv⟩ := moveAddr_ok (okX_ok hs he okx) h
  refine gives_same hs (x := .pointer (some ⟨b, q + f.offset, none⟩)) ?_ hv
  simp [execOp, ho, Instr.fieldAt, run_underlying hu, hfi, hx, Instr.sureAddr, fieldPlace, sizeOf, typeInfo, hit, hne, addr_add]

def okField (P : Program) (gl : Globs) (o : Oper) (off : Nat) (n : Option Nat) (x : Opd) : Bool :=
  match o.op with
  | .field t a i => okX gl a x && ((fieldP P t i).map (·.1) == some off) && (fieldP P t i).any (fun f => cellP P f.2 n)
  | _ => false

theorem run_isAgg {t : TypeId} {b : Bool} (h : aggP P t = some b) (w : World) : (isAgg t).run P w = .ok b w := by
  unfold aggP at h
  cases hu : P.underlying t with
  | none => simp [hu] at h
  | some d =>
    simp [hu] at h
    simp [isAgg, run_underlying hu]
    cases d <;> simp at h <;> subst h <;> rfl

theorem run_sizeOf {t : TypeId} {n : Nat} (h : sizeP P t = some n) (w : World) : (sizeOf t).run P w = .ok n w := by
  unfold sizeP at h
  cases hi : P.info? t with
  | none => simp [hi] at h
  | some i => simp [hi] at h; subst h; simp [sizeOf, typeInfo, hi]

/-- One cell of a row of values, or a struct of so many. -/
def readN (n : Option Nat) (xs : List Value) (off : Nat) : Option Value :=
  match n with
  | none => xs[off]?
  | some k => if off + k ≤ xs.length then some (.agg (win xs off k).toArray) else none

theorem pickV_ok {n : Option Nat} {cs : List V} {xs : List Value} {off : Nat} {r : V} (hv : VRs s cs xs) (h : pickV n cs off = some r) : ∃ y, readN n xs off = some y ∧ VR s r y := by
  cases n with
  | none =>
    obtain ⟨y, hy, _, hvy⟩ := VRs.at cs _ off r hv h
    exact ⟨y, hy, hvy⟩
  | some k =>
    simp only [pickV] at h
    split at h
    · rename_i hle
      obtain rfl := Option.some.inj h
      refine ⟨.agg (win xs off k).toArray, ?_, mkAgg_ok ?_⟩
      · simp only [readN, ← VRs.length _ _ hv, hle, if_true]
      · exact VRs.take _ _ _ (VRs.drop _ _ _ hv)
    · cases h

theorem DRs.at {w : World} {Im : Nat → Nat → Prop} : ∀ (a : List D) (x : List Value) (n : Nat) (v : D), DRs w Im a x → a[n]? = some v → ∃ y, x[n]? = some y ∧ Evl.one y ∧ DR w Im v y
  | [], _, _, _, _, h => by simp at h
  | _ :: r, _, 0, v, ⟨x, ys, h1, h2, h3, h4⟩, h => by
    simp at h; subst h; subst h1; exact ⟨x, rfl, h2, h3⟩
  | _ :: r, _, n + 1, v, ⟨x, ys, h1, h2, h3, h4⟩, h => by
    simp at h; subst h1; simpa using DRs.at r ys n v h4 h

theorem pickD_ok {n : Option Nat} {cs : List D} {xs : List Value} {off : Nat} {r : V} (hv : DRs s.w s.Im cs xs) (h : pickD n cs off = some r) : ∃ y, readN n xs off = some y ∧ VR s r y := by
  cases n with
  | none =>
    simp only [pickD, Option.map_eq_some_iff] at h
    obtain ⟨d, hd, rfl⟩ := h
    obtain ⟨y, hy, _, hvy⟩ := DRs.at cs _ off d hv hd
    exact ⟨y, hy, hvy⟩
  | some k =>
    simp only [pickD] at h
    split at h
    · rename_i hle
      obtain rfl := Option.some.inj h
      refine ⟨.agg (win xs off k).toArray, ?_, ?_⟩
      · simp only [readN, ← DRs.length _ _ hv, hle, if_true]
      · exact ⟨_, rfl, DRs.take _ _ _ (DRs.drop _ _ _ hv)⟩
    · cases h

theorem run_part {t : TypeId} {n : Option Nat} {off : Nat} {xs : Array Value} {y : Value} (hc : cellP P t n = true) (h : readN n xs.toList off = some y) (w : World) : (part t xs off).run P w = .ok y w := by
  cases n with
  | none =>
    simp only [cellP, beq_iff_eq] at hc
    have hy : xs[off]? = some y := by simpa [readN] using h
    simp [part, run_isAgg hc, hy]
  | some k =>
    simp only [cellP, Bool.and_eq_true, beq_iff_eq] at hc
    simp only [readN] at h
    split at h
    · obtain rfl := Option.some.inj h
      have hw : (win xs.toList off k).toArray = xs.extract off (off + k) := by
        apply Array.ext'
        rw [Array.toList_extract, List.extract_eq_take_drop]
        simp only [win]
        try (congr 1; omega)
      simp [part, run_isAgg hc.1, run_sizeOf hc.2, hw]
    · cases h

theorem partV_ok {n : Option Nat} {v : V} {x : Value} {off : Nat} {r : V} (hv : VR s v x) (h : partV n v off = some r) : ∃ xs y, x = .agg xs ∧ readN n xs.toList off = some y ∧ VR s r y := by
  cases v <;> simp only [partV] at h <;> try cases h
  · rename_i d
    cases d <;> simp only at h <;> try cases h
    rename_i ds
    obtain ⟨xs, rfl, hd⟩ := hv
    obtain ⟨y, h1, h2⟩ := pickD_ok hd h
    exact ⟨xs, y, rfl, h1, h2⟩
  · rename_i cs
    obtain ⟨xs, rfl, hd⟩ := hv
    obtain ⟨y, h1, h2⟩ := pickV_ok hd h
    exact ⟨xs, y, rfl, h1, h2⟩

theorem sound_field (hs : Sim oc gl s) (he : EnvR s e A.tmps) {off : Nat} {n : Option Nat} {x : Opd} {v : V} (ok : okField P gl o off n x = true) (h : partV n (x.ev e) off = some v) :
    Gives P oc gl s A o v s.m := by
  unfold okField at ok
  split at ok <;> try cases ok
  rename_i t a i ho
  simp only [Bool.and_eq_true, beq_iff_eq] at ok
  obtain ⟨⟨okx, hf⟩, hz⟩ := ok
  obtain ⟨fs, f, hu, hfi, rfl⟩ := fieldP_eq hf
  have hz : cellP P f.type n = true := by simpa [fieldP, hu, hfi] using hz
  obtain ⟨cs, y, hx, hr, hv⟩ := partV_ok (okX_ok hs he okx) h
  have hy := run_part hz hr s.w
  refine gives_same hs (x := y) ?_ hv
  simp [execOp, ho, Instr.field, run_underlying hu, hfi, hx, asAgg, hy]

/-! ### Indexing, lengths, slices of strings -/

theorem asI_ok {v : V} {x : Value} {i : Int} (hv : VR s v x) (h : asI v = some i) : ∃ k, x = .int k i := by
  unfold asI at h
  split at h
  · obtain rfl := Option.some.inj h
    exact ⟨_, hv⟩
  · cases h

def elemP (P : Program) (t : TypeId) : Option TypeId := sliceP P t
def arrP (P : Program) (t : TypeId) : Option (Nat × TypeId) :=
  match P.underlying t with
  | some (.array n e) => some (n, e)
  | _ => none
theorem sliceP_eq {t e : TypeId} (h : sliceP P t = some e) : P.underlying t = some (.slice e) := by
  unfold sliceP at h
  split at h
  · rename_i hu; obtain rfl := Option.some.inj h; exact hu
  · cases h
theorem arrP_eq {t : TypeId} {n : Nat} {e : TypeId} (h : arrP P t = some (n, e)) : P.underlying t = some (.array n e) := by
  unfold arrP at h
  split at h
  · rename_i hu; simp only [Option.some.injEq, Prod.mk.injEq] at h; obtain ⟨rfl, rfl⟩ := h; exact hu
  · cases h

def okIdxAddr (P : Program) (gl : Globs) (o : Oper) (sz : Nat) (x i : Opd) : Bool :=
  match o.op with
  | .indexAddr t a j => okX gl a x && okX gl j i && (sliceP P t).any (fun e => sizeP P e == some sz)
  | _ => false

theorem sound_idxAddr (hs : Sim oc gl s) (he : EnvR s e A.tmps) {sz : Nat} {x i : Opd} {v : V} (ok : okIdxAddr P gl o sz x i = true) (h : idxAddrV sz s.m (x.ev e) (i.ev e) = some v) :
    Gives P oc gl s A o v s.m := by
  unfold okIdxAddr at ok
  split at ok <;> try cases ok
  rename_i t a j ho
  simp only [Bool.and_eq_true, Option.any_eq_true, beq_iff_eq] at ok
  obtain ⟨⟨okx, oki⟩, el, hel, hsz⟩ := ok
  have hu := sliceP_eq hel
  have h1 := okX_ok hs he okx
  have h2 := okX_ok hs he oki
  generalize x.ev e = vx at h1 h
  unfold idxAddrV at h
  cases hi : asI (i.ev e) with
  | none => rw [hi] at h; cases h
  | some n =>
    rw [hi] at h
    obtain ⟨k, hj⟩ := asI_ok h2 hi
    simp only at h
    -- the run, once the slice is known
    have fin : ∀ (b q len cap : Nat), A.eval a = .slice (some ⟨b, q, none⟩) len cap → 0 ≤ n ∧ n < len → VR s v (.pointer (some ⟨b, q + n.toNat * sz, none⟩)) → Gives P oc gl s A o v s.m := by
      intro b q len cap ha hr hv
      refine gives_same hs (x := .pointer (some ⟨b, q + n.toNat * sz, none⟩)) ?_ hv
      simp [execOp, ho, Instr.indexAt, hj, asIntOf, run_underlying hu, ha, hr, run_sizeOf hsz, addr_add]
    split at h
    · rename_i len cs
      split at h
      · rename_i hr
        obtain rfl := Option.some.inj h
        obtain ⟨ad, cap, ha, _, hc⟩ := h1
        rcases hc with ⟨rfl, rfl⟩ | ⟨b, q, rfl, hc⟩
        · omega
        · exact fin b q len cap ha hr ⟨b, q, rfl, hc⟩
      · cases h
    · rename_i o' off len top
      have h1b := h1.2
      split at h
      · rename_i wr tt sz' n' xs hl
        rw [hl] at h1b
        split at h
        · rename_i hr
          obtain ⟨hr0, hr1, rfl, hr2, rfl⟩ := hr
          obtain rfl := Option.some.inj h
          have hrow := (hs.objs o' _ hl)
          obtain ⟨hz, ys, hown, hd, him⟩ := hrow
          rcases h1b.2 rfl with ⟨rfl, rfl, hx⟩ | ⟨hne, b, cap, capp, hp, hle, hle1, hle2, hx⟩ | ⟨hne, h0, h1', _⟩
          · rcases hown.2 with ⟨hn, hn0⟩ | ⟨g, cap, cur, hp, _, hh, _⟩
            · omega
            · refine fin g 0 _ cap (hx.trans hp) ⟨hr0, hr1⟩ ⟨rfl, ?_⟩
              show PtrR _ _ _ _ (look s.m o')
              rw [hl]
              exact ⟨Nat.le_refl _, fun _ => ⟨g, cap, hp, by simp⟩⟩
          · refine fin b _ len cap hx ⟨hr0, hr1⟩ ⟨rfl, ?_⟩
            show PtrR _ _ _ _ (look s.m o')
            rw [hl]
            exact ⟨Nat.le_refl _, fun _ => ⟨b, capp, hp, by rw [Nat.add_mul]⟩⟩
          · omega
        · cases h
      · cases h
    · cases h

def okIdxAddrA (P : Program) (gl : Globs) (o : Oper) (len sz : Nat) (x i : Opd) : Bool :=
  match o.op with
  | .indexAddr t a j => okX gl a x && okX gl j i && (arrP P t).any (fun p => p.1 == len && sizeP P p.2 == some sz)
  | _ => false
theorem sound_idxAddrA (hs : Sim oc gl s) (he : EnvR s e A.tmps) {len sz : Nat} {x i : Opd} {n : Int} {v : V} (ok : okIdxAddrA P gl o len sz x i = true) (hi : asI (i.ev e) = some n) (hr : 0 ≤ n ∧ n < len)
    (h : moveAddr (n.toNat * sz) s.m (x.ev e) = some v) : Gives P oc gl s A o v s.m := by
  unfold okIdxAddrA at ok
  split at ok <;> try cases ok
  rename_i t a j ho
  simp only [Bool.and_eq_true, Option.any_eq_true, beq_iff_eq] at ok
  obtain ⟨⟨okx, oki⟩, ⟨l', el⟩, hel, rfl, hsz⟩ := ok
  have hu := arrP_eq hel
  obtain ⟨k, hj⟩ := asI_ok (okX_ok hs he oki) hi
  obtain ⟨b, q, hx, hv⟩ := moveAddr_ok (okX_ok hs he okx) h
  refine gives_same hs (x := .pointer (some ⟨b, q + n.toNat * sz, none⟩)) ?_ hv
  simp [execOp, ho, Instr.indexAt, hj, asIntOf, run_underlying hu, hx, Instr.sureAddr, hr, run_sizeOf hsz, addr_add]

def okIdxA (P : Program) (gl : Globs) (o : Oper) (len sz : Nat) (n : Option Nat) (x i : Opd) : Bool :=
  match o.op with
  | .index t a j => okX gl a x && okX gl j i && (arrP P t).any (fun p => p.1 == len && sizeP P p.2 == some sz && cellP P p.2 n)
  | _ => false
theorem sound_idxA (hs : Sim oc gl s) (he : EnvR s e A.tmps) {len sz : Nat} {k : Option Nat} {x i : Opd} {n : Int} {v : V} (ok : okIdxA P gl o len sz k x i = true) (hi : asI (i.ev e) = some n) (hr : 0 ≤ n ∧ n < len)
    (h : partV k (x.ev e) (n.toNat * sz) = some v) : Gives P oc gl s A o v s.m := by
  unfold okIdxA at ok
  split at ok <;> try cases ok
  rename_i t a j ho
  simp only [Bool.and_eq_true, Option.any_eq_true, beq_iff_eq] at ok
  obtain ⟨⟨okx, oki⟩, ⟨l', el⟩, hel, ⟨rfl, hsz⟩, hc⟩ := ok
  have hu := arrP_eq hel
  obtain ⟨k', hj⟩ := asI_ok (okX_ok hs he oki) hi
  obtain ⟨cs, y, hx, hrd, hv⟩ := partV_ok (okX_ok hs he okx) h
  have hy := run_part hc hrd s.w
  refine gives_same hs (x := y) ?_ hv
  simp [execOp, ho, Instr.index, hj, asIntOf, run_underlying hu, hx, hr, run_sizeOf hsz, hy]

def isStr (P : Program) (t : TypeId) : Bool := match P.underlying t with | some .string => true | _ => false
theorem isStr_eq {t : TypeId} (h : isStr P t = true) : P.underlying t = some .string := by
  unfold isStr at h
  split at h
  · assumption
  · cases h

def okIdxS (P : Program) (gl : Globs) (o : Oper) (x i : Opd) : Bool :=
  match o.op with
  | .index t a j => okX gl a x && okX gl j i && isStr P t
  | _ => false
theorem sound_idxS (hs : Sim oc gl s) (he : EnvR s e A.tmps) {x i : Opd} {n : Int} {str : List UInt8} {b : UInt8} (ok : okIdxS P gl o x i = true) (hx : x.ev e = .d (.str str)) (hi : asI (i.ev e) = some n) (hr : 0 ≤ n)
    (h : str[n.toNat]? = some b) : Gives P oc gl s A o (.d (.int .u8 b.toNat)) s.m := by
  unfold okIdxS at ok
  split at ok <;> try cases ok
  rename_i t a j ho
  simp only [Bool.and_eq_true] at ok
  obtain ⟨⟨okx, oki⟩, ht⟩ := ok
  have hu := isStr_eq ht
  obtain ⟨k', hj⟩ := asI_ok (okX_ok hs he oki) hi
  have h1 := okX_ok hs he okx
  rw [hx] at h1
  have h1 : A.eval a = .string ⟨str.toArray⟩ := h1
  refine gives_same hs (x := .int .u8 b.toNat) ?_ rfl
  have hb : (⟨str.toArray⟩ : ByteArray)[n.toNat]? = some b := by
    obtain ⟨hlt, hval⟩ := List.getElem?_eq_some_iff.1 h
    have hlt' : n.toNat < (⟨str.toArray⟩ : ByteArray).size := by simpa [ByteArray.size] using hlt
    rw [getElem?_pos (⟨str.toArray⟩ : ByteArray) n.toNat hlt']
    exact congrArg some hval
  simp [execOp, ho, Instr.index, hj, asIntOf, run_underlying hu, h1, hr, hb]

def okExtract (gl : Globs) (o : Oper) (x : Opd) (i : Nat) : Bool :=
  match o.op with
  | .extract a j => okX gl a x && j == i
  | _ => false
theorem sound_extract (hs : Sim oc gl s) (he : EnvR s e A.tmps) {x : Opd} {i : Nat} {vs : List V} {v : V} (ok : okExtract gl o x i = true) (hx : x.ev e = .tup vs) (h : vs[i]? = some v) : Gives P oc gl s A o v s.m := by
  unfold okExtract at ok
  split at ok <;> try cases ok
  rename_i a j ho
  simp only [Bool.and_eq_true, beq_iff_eq] at ok
  obtain ⟨okx, rfl⟩ := ok
  have h1 := okX_ok hs he okx
  rw [hx] at h1
  obtain ⟨xs, hxs, hv⟩ := h1
  obtain ⟨y, hy, hvy⟩ := VRt.at vs _ j v hv h
  have hy' : xs[j]? = some y := by simpa using hy
  exact gives_same hs (x := y) (by simp [execOp, ho, hxs, Instr.extract, hy']) hvy

/-- A builtin's call: which, on what, at which types. -/
def bi (op : Op) : Option (Builtin × List Operand × List TypeId) :=
  match op with
  | .call c => (match c.callee with | .builtin b => some (b, c.args.toList, c.argTypes.toList) | _ => none)
  | _ => none
theorem bi_run {b : Builtin} {as : List Operand} {ts : List TypeId} (h : bi o.op = some (b, as, ts)) (w : World) :
    ∃ cn, (execOp A.eval o).run P w = (builtin b ts.toArray o.type cn (as.map A.eval).toArray).run P w := by
  have h' : ∃ c, o.op = .call c ∧ c.callee = .builtin b ∧ c.args.toList = as ∧ c.argTypes.toList = ts := by
    unfold bi at h
    split at h
    · rename_i op c ho
      split at h
      · rename_i b' hc
        simp only [Option.some.injEq, Prod.mk.injEq] at h
        obtain ⟨rfl, rfl, rfl⟩ := h
        exact ⟨c, ho, hc, rfl, rfl⟩
      · cases h
    · cases h
  obtain ⟨c, ho, hc, rfl, rfl⟩ := h'
  refine ⟨c.args.map fun | .const _ => true | _ => false, ?_⟩
  simp only [execOp, ho, resolve, hc, Sem.run_bind, Sem.run_pure, Result.andThen_ok, invoke, Array.toArray_toList]
  congr 2
  apply Array.ext'
  simp

def okLen (P : Program) (gl : Globs) (o : Oper) (k : Kd) (x : Opd) : Bool :=
  match bi o.op with
  | some (.len, [a], [t]) => okX gl a x && (match k with
    | .str => (match P.underlying t with | some .string => true | _ => false)
    | .slc => (sliceP P t).isSome
    | .map => (match P.underlying t with | some (.map ..) => true | _ => false))
  | _ => false

theorem sound_len (hs : Sim oc gl s) (he : EnvR s e A.tmps) {k : Kd} {x : Opd} {n : Nat} (ok : okLen P gl o k x = true) (h : lenV s.m k (x.ev e) = some n) : Gives P oc gl s A o (.d (.int .i64 n)) s.m := by
  unfold okLen at ok
  split at ok
  rotate_left
  · cases ok
  rename_i a t ho
  simp only [Bool.and_eq_true] at ok
  obtain ⟨okx, ht⟩ := ok
  have h1 := okX_ok hs he okx
  generalize x.ev e = v at h1 h
  obtain ⟨cn, hrun⟩ := bi_run (P := P) (A := A) ho s.w
  have fin : (Builtin.len_ #[t] o.type #[A.eval a]).run P s.w = .ok (.int .i64 n) s.w → Gives P oc gl s A o (.d (.int .i64 n)) s.m := by
    intro hr
    refine gives_same hs (x := .int .i64 n) ?_ rfl
    rw [hrun]
    simp [builtin, hr]
  apply fin
  cases k with
  | str =>
    simp only at ht
    split at ht
    · rename_i hu
      unfold lenV at h
      simp only at h
      split at h
      · rename_i str
        obtain rfl := Option.some.inj h
        have h1 : A.eval a = .string ⟨str.toArray⟩ := h1
        have hsz : (⟨str.toArray⟩ : ByteArray).size = str.length := by simp [ByteArray.size]
        simp [Builtin.len_, run_underlying hu, h1, goInt, hsz]
      · cases h
    · cases ht
  | slc =>
    simp only at ht
    obtain ⟨el, hel⟩ := Option.isSome_iff_exists.1 ht
    have hu := sliceP_eq hel
    have fin2 : ∀ ad c, A.eval a = .slice ad n c → (Builtin.len_ #[t] o.type #[A.eval a]).run P s.w = .ok (.int .i64 n) s.w := by
      intro ad c ha
      simp [Builtin.len_, run_underlying hu, ha, goInt]
    unfold lenV at h
    simp only at h
    split at h
    · obtain rfl := Option.some.inj h
      obtain ⟨ad, c, ha, _⟩ := h1
      exact fin2 ad c ha
    · obtain rfl := Option.some.inj h
      obtain ⟨ad, ha⟩ := h1
      exact fin2 ad 0 ha
    · rename_i o' off len top
      have h1b := h1.2
      split at h
      · rename_i wr tt sz n' xs hl
        rw [hl] at h1b
        split at h
        · rename_i hn
          subst hn
          obtain rfl := Option.some.inj h
          obtain ⟨hz, ys, hown, hd, him⟩ := hs.objs o' _ hl
          rcases h1b.2 rfl with ⟨rfl, rfl, hx⟩ | ⟨hne, b, cap, capp, hp, hle, _, _, hx⟩ | ⟨hne, _, rfl, ad, c, hx⟩
          · rcases hown.2 with ⟨hp, rfl⟩ | ⟨g, cap, cur, hp, _⟩
            · exact fin2 none 0 (hx.trans hp)
            · exact fin2 _ _ (hx.trans hp)
          · exact fin2 _ _ hx
          · exact fin2 _ _ hx
        · cases h
      · cases h
    · cases h
  | map =>
    simp only at ht
    split at ht
    · rename_i hu
      unfold lenV at h
      simp only at h
      split at h
      · rename_i o'
        have h1b := h1.2
        split at h
        · rename_i es hl
          rw [hl] at h1b
          obtain rfl := Option.some.inj h
          obtain ⟨b, ces, cl, hp, hh, hm⟩ := hs.objs o' _ hl
          have hx : A.eval a = .map (some b) := Eq.trans h1b hp
          have hlen : ∀ (es : List (D × V)) (q : List MapEntry), MapR s es q → es.length = q.length := by
            intro es
            induction es with
            | nil => intro q hq; simp only [MapR] at hq; subst hq; rfl
            | cons y r ih =>
              intro q hq
              obtain ⟨e1, q1, rfl, _, _, _, h4⟩ := hq
              simp [ih _ h4]
          have := hlen _ _ hm
          simp at this
          simp [Builtin.len_, run_underlying hu, hx, goInt, getObj, Sem.run, hh, this]
        · cases h
      · cases h
    · cases ht

def okMinmax (gl : Globs) (o : Oper) (mx : Bool) (args : List Opd) : Bool :=
  match bi o.op with
  | some (.max, as, _) => mx && okXs gl as args
  | some (.min, as, _) => !mx && okXs gl as args
  | _ => false

theorem minmax_go (f : Value → Value → Sem Value) (mx : Bool) (hf : ∀ k a l b, f (.int k a) (.int l b) = pure (.int k (if mx then (if b > a then b else a) else (if b < a then b else a)))) :
    ∀ (vs : List V) (xs : List Value) (k : IntKind) (a : Int) (r : D), VRt s vs xs → minmaxD.go mx k a vs = some r → ∃ y, (xs.foldlM f (.int k a)).run P s.w = .ok y s.w ∧ VR s (.d r) y
  | [], xs, k, a, r, hv, h => by
    simp only [VRt] at hv
    subst hv
    simp only [minmaxD.go, Option.some.injEq] at h
    subst h
    exact ⟨_, rfl, rfl⟩
  | v :: vs, xs, k, a, r, hv, h => by
    obtain ⟨x, ys, rfl, h1, h2⟩ := hv
    unfold minmaxD.go at h
    split at h
    · cases ‹_ = []›
    · rename_i l b r' heq
      injection heq with e1 e2
      subst e1; subst e2
      have h1 : x = .int l b := h1
      subst h1
      obtain ⟨y, hy, hvy⟩ := minmax_go f mx hf _ ys k _ r h2 h
      refine ⟨y, ?_, hvy⟩
      simp only [List.foldlM_cons, hf, pure_bind]
      exact hy
    · cases h

theorem sound_minmax (hs : Sim oc gl s) (he : EnvR s e A.tmps) {mx : Bool} {args : List Opd} {r : D} (ok : okMinmax gl o mx args = true) (h : minmaxD mx (evs e args) = some r) : Gives P oc gl s A o (.d r) s.m := by
  have key : ∀ (as : List Operand) (f : Value → Value → Sem Value) (b : Builtin) (ts : List TypeId), bi o.op = some (b, as, ts) → okXs gl as args = true →
      (∀ k a l b, f (.int k a) (.int l b) = pure (.int k (if mx then (if b > a then b else a) else (if b < a then b else a)))) →
      (∀ ts ty cn x rest y w, (rest.foldlM f x).run P w = .ok y w → (builtin b ts ty cn (x :: rest).toArray).run P w = .ok (.value y) w) → Gives P oc gl s A o (.d r) s.m := by
    intro as f b ts hb hok hf hbi
    have hv := okXs_ok hs he as args hok
    obtain ⟨cn, hrun⟩ := bi_run (P := P) (A := A) hb s.w
    generalize evs e args = vs at hv h
    unfold minmaxD at h
    split at h
    · cases h
    · rename_i k a r'
      obtain ⟨x, ys, hxs, h1, h2⟩ := hv
      have h1 : x = .int k a := h1
      subst h1
      obtain ⟨y, hy, hvy⟩ := minmax_go (P := P) f mx hf _ ys k a r h2 h
      refine gives_same hs (x := y) ?_ hvy
      rw [hrun, hxs]
      exact hbi _ _ _ _ _ _ _ hy
    · cases h
  unfold okMinmax at ok
  split at ok
  · rename_i as ts ho
    simp only [Bool.and_eq_true] at ok
    obtain ⟨rfl, ok⟩ := ok
    refine key as Builtin.max2 .max ts ho ok (fun k a l b => by simp [Builtin.max2]) (fun ts ty cn x rest y w hy => ?_)
    simp [builtin, Builtin.max_, hy]
  · rename_i as ts ho
    simp only [Bool.and_eq_true, Bool.not_eq_true'] at ok
    obtain ⟨rfl, ok⟩ := ok
    refine key as Builtin.min2 .min ts ho ok (fun k a l b => by simp [Builtin.min2]) (fun ts ty cn x rest y w hy => ?_)
    simp [builtin, Builtin.min_, hy]
  · cases ok

/-! ### Slices of strings -/

theorem run_sliceBound {x : Value} {i : Int} {y : Nat} {k : IntKind} (hx : x = .int k i) (h0 : 0 ≤ i) (h1 : i ≤ y) (code : BoundsCode) (w : World) : (Instr.sliceBound x y code).run P w = .ok i.toNat w := by
  subst hx
  simp [Instr.sliceBound, asIntOf, h0, h1]

theorem bounds_ok {lo hi : Option Operand} {lo' hi' : Option Opd} {n l h : Nat} (hs : Sim oc gl s) (he : EnvR s e A.tmps) (ol : okX? gl lo lo' = true) (oh : okX? gl hi hi' = true)
    (hb : sliceBoundsV n (lo'.map (·.ev e)) (hi'.map (·.ev e)) = some (l, h)) (isS : Bool) (cap : Nat) (hcap : n ≤ cap) (w : World) :
    (Instr.sliceBounds isS n cap (lo.map A.eval) (hi.map A.eval) none).run P w = .ok (l, h, cap) w ∧ l ≤ h ∧ h ≤ n := by
  unfold sliceBoundsV at hb
  have hi1 : ∀ (hv : Int), (match hi'.map (·.ev e) with | none => some (n : Int) | some v => asI v) = some hv →
      (hi = none ∧ hv = n) ∨ ∃ a k, hi = some a ∧ A.eval a = .int k hv := by
    intro hv hh
    cases hi with
    | none => cases hi' <;> simp [okX?] at oh; simp at hh; exact .inl ⟨rfl, hh.symm⟩
    | some a =>
      cases hi' with
      | none => simp [okX?] at oh
      | some x =>
        simp only [okX?] at oh
        obtain ⟨k, hk⟩ := asI_ok (okX_ok hs he oh) hh
        exact .inr ⟨a, k, rfl, hk⟩
  have lo1 : ∀ (lv : Int), (match lo'.map (·.ev e) with | none => some (0 : Int) | some v => asI v) = some lv →
      (lo = none ∧ lv = 0) ∨ ∃ a k, lo = some a ∧ A.eval a = .int k lv := by
    intro lv hh
    cases lo with
    | none => cases lo' <;> simp [okX?] at ol; simp at hh; exact .inl ⟨rfl, hh.symm⟩
    | some a =>
      cases lo' with
      | none => simp [okX?] at ol
      | some x =>
        simp only [okX?] at ol
        obtain ⟨k, hk⟩ := asI_ok (okX_ok hs he ol) hh
        exact .inr ⟨a, k, rfl, hk⟩
  simp only at hb
  split at hb
  · rename_i hv lv e1 e2
    split at hb
    · rename_i hr
      obtain ⟨r1, r2, r3, r4⟩ := hr
      simp only [Option.some.injEq, Prod.mk.injEq] at hb
      obtain ⟨rfl, rfl⟩ := hb
      have hH := hi1 hv e1
      have hL := lo1 lv e2
      refine ⟨?_, by omega, by omega⟩
      rcases hH with ⟨rfl, rfl⟩ | ⟨a, k, rfl, ha⟩ <;> rcases hL with ⟨rfl, rfl⟩ | ⟨b, q, rfl, hbv⟩
      · simp [Instr.sliceBounds]
      · simp [Instr.sliceBounds, run_sliceBound hbv r3 r4]
      · simp [Instr.sliceBounds, run_sliceBound ha r1 (y := cap) (by omega)]
      · have : (Instr.sliceBound (A.eval b) hv.toNat .sliceB).run P w = .ok lv.toNat w := run_sliceBound hbv r3 (by omega) _ _
        simp [Instr.sliceBounds, run_sliceBound ha r1 (y := cap) (by omega), this]
    · cases hb
  · cases hb

def okSliceS (P : Program) (gl : Globs) (o : Oper) (x : Opd) (lo hi : Option Opd) : Bool :=
  match o.op with
  | .slice t a l h mx => okX gl a x && okX? gl l lo && okX? gl h hi && mx.isNone && isStr P t
  | _ => false

theorem extract_str (str : List UInt8) (l h : Nat) : (⟨str.toArray⟩ : ByteArray).extract l h = ⟨(win str l (h - l)).toArray⟩ := by
  apply ByteArray.ext
  simp [ByteArray.data_extract, win, List.extract_eq_take_drop]

theorem sound_sliceS (hs : Sim oc gl s) (he : EnvR s e A.tmps) {x : Opd} {lo hi : Option Opd} {str : List UInt8} {l h : Nat} (ok : okSliceS P gl o x lo hi = true) (hx : x.ev e = .d (.str str))
    (hb : sliceBoundsV str.length (lo.map (·.ev e)) (hi.map (·.ev e)) = some (l, h)) : Gives P oc gl s A o (.d (.str (win str l (h - l)))) s.m := by
  unfold okSliceS at ok
  split at ok <;> try cases ok
  rename_i t a l' h' mx ho
  simp only [Bool.and_eq_true, Option.isNone_iff_eq_none] at ok
  obtain ⟨⟨⟨⟨okx, ol⟩, oh⟩, rfl⟩, ht⟩ := ok
  have hu := isStr_eq ht
  have h1 := okX_ok hs he okx
  rw [hx] at h1
  have h1 : A.eval a = .string ⟨str.toArray⟩ := h1
  have hsz : (⟨str.toArray⟩ : ByteArray).size = str.length := by simp [ByteArray.size]
  obtain ⟨hr, _, _⟩ := bounds_ok (P := P) hs he ol oh hb false str.length (Nat.le_refl _) s.w
  refine gives_same hs (x := .string ((⟨str.toArray⟩ : ByteArray).extract l h)) ?_ ?_
  · simp [execOp, ho, Instr.sliceAt, Instr.slice, run_underlying hu, h1, hsz, hr]
  · simp [VR, DR, extract_str]

end
end Go.Evl

