
/-
  What is to be shown for code to end well: operations, code, calls, loops; and that it suffices.
-/
import Derived.Test.YtlboecjgelnabaaGreatDoorEvWp
namespace Go.Evl

def lowB (nx : Nat) : List Id → Bool
  | [] => true
  | i :: r => match Nat.blt i.lv nx with
    | true => lowB nx r
    | false => false
theorem lowB_eq (nx : Nat) : ∀ (l : List Id), lowB nx l = allLow nx l
  | [] => rfl
  | i :: r => by
    simp only [lowB]
    cases h : Nat.blt i.lv nx with
    | true =>
      have : i.lv < nx := Nat.le_of_ble_eq_true h
      simp only [lowB_eq nx r]
      simp [allLow, this]
    | false =>
      have : ¬ i.lv < nx := fun hh => by
        have := Nat.ble_eq_true_of_le (show i.lv + 1 ≤ nx from hh)
        simp only [Nat.blt] at h
        rw [this] at h; cases h
      simp [allLow, this]

def keysK : Mem → (List Id → Prop) → Prop
  | [], K => K []
  | (i, _) :: r, K => keysK r fun l => K (i :: l)
theorem keysK_eq : ∀ (m : Mem) (K : List Id → Prop), keysK m K = K (keys m)
  | [], _ => rfl
  | (i, o) :: r, K => by simp only [keysK, keysK_eq r]; rfl

def belowK (nx : Nat) : Mem → (Mem → Prop) → Prop
  | [], K => K []
  | (i, o) :: r, K => match Nat.blt i.lv nx with
    | true => belowK nx r fun r' => K ((i, o) :: r')
    | false => belowK nx r K
theorem belowK_eq (nx : Nat) : ∀ (m : Mem) (K : Mem → Prop), belowK nx m K = K (belowLv nx m)
  | [], _ => rfl
  | (i, o) :: r, K => by
    simp only [belowK]
    cases h : Nat.blt i.lv nx with
    | true =>
      have : i.lv < nx := Nat.le_of_ble_eq_true h
      simp only [belowK_eq nx r]
      simp [belowLv, this]
    | false =>
      have : ¬ i.lv < nx := fun hh => by
        have := Nat.ble_eq_true_of_le (show i.lv + 1 ≤ nx from hh)
        simp only [Nat.blt] at h
        rw [this] at h; cases h
      simp only [belowK_eq nx r]
      simp [belowLv, this]

def backW (cx : Cx) (slot : Nat) (imm : Bool) (v : V) (m' : Mem) (K : V → Mem → Prop) : Prop := belowK cx.nx m' fun old =>
  match lowB cx.nx (idsAll old) with
  | true => (match imm with
    | true => (match (ids v).all fun i => Nat.ble cx.nx i.lv with
      | true => thawW m' v fun r => K r old
      | false => False)
    | false => Some' (settle cx slot cx.nx old m' v) fun p => K p.1 p.2)
  | false => False

def callW (E : Oracle) (cx : Cx) (slot : Nat) (shared imm : Bool) (f : V) (args : List V) (m : Mem) (K : V → Mem → Prop) : Prop :=
  match shared with
  | false => (match f with
    | .fn f first caps => freezeLW false m (first ++ args ++ caps) fun ds => asVK ds fun vs =>
      (match imm with
      | true => CallI E f vs fun v => K v m
      | false => CallS E f vs cx slot m K)
    | _ => False)
  | true => keysK m fun ks => (match lowB cx.nx ks with
    | true => (match f with
      | .fn f first caps => In E cx.nx f (first ++ args ++ caps) m fun v m' => backW cx slot imm v m' K
      | .yld o => Rnd E cx.nx o args m fun v m' => backW cx slot imm v m' K
      | _ => False)
    | false => False)

section
variable {E : Oracle}

theorem backW_ok {cx : Cx} {slot : Nat} {imm : Bool} {v : V} {m' : Mem} {K : V → Mem → Prop} (h : backW cx slot imm v m' K) :
    ∃ p, (if allLow cx.nx (idsAll (belowLv cx.nx m')) then takeV cx slot cx.nx imm (belowLv cx.nx m') m' v else none) = some p ∧ K p.1 p.2 := by
  simp only [backW, belowK_eq, lowB_eq] at h
  split at h
  · rename_i hl
    rw [if_pos hl]
    split at h
    · split at h
      · rename_i ha
        obtain ⟨r, h1, h2⟩ := thawW_ok _ _ _ h
        refine ⟨(r, belowLv cx.nx m'), ?_, h2⟩
        have ha' : ((ids v).all fun i => decide (cx.nx ≤ i.lv)) = true := by
          rw [List.all_eq_true] at ha ⊢
          intro i hi
          simpa using Nat.le_of_ble_eq_true (ha i hi)
        simp only [takeV, if_true, ha', h1]
        rfl
      · exact h.elim
    · obtain ⟨p, h1, h2⟩ := h.got
      exact ⟨p, by simp only [takeV]; exact h1, h2⟩
  · exact h.elim

theorem callW_ok {cx : Cx} {slot : Nat} {shared imm : Bool} {f : V} {args : List V} {m : Mem} {K : V → Mem → Prop} (h : callW E cx slot shared imm f args m K) :
    ∃ p, callV E cx slot shared imm f args m = some p ∧ K p.1 p.2 := by
  unfold callW at h
  split at h
  · split at h
    · rename_i f first caps
      obtain ⟨ds, h1, h2⟩ := freezeLW_ok _ _ _ _ h
      rw [asVK_eq] at h2
      simp only [callV, h1]
      split at h2
      · obtain ⟨r, ⟨v, m', h3, h4⟩, h5⟩ := h2.got
        refine ⟨(r, m), ?_, h5⟩
        have hall : ((ids v).all fun i => decide (0 ≤ i.lv)) = true := by simp
        simp only [h3, takeV, hall, h4]
        rfl
      · obtain ⟨v, m', p, h3, h4, h5⟩ := h2.got
        refine ⟨p, ?_, h5⟩
        simp only [h3, takeV, h4]
        rfl
    · exact h.elim
  · simp only [keysK_eq, lowB_eq] at h
    split at h
    · rename_i hl
      simp only [callV, if_true, hl]
      split at h
      · obtain ⟨v, m', h1, h2⟩ := h.got
        simp only [callShared, h1]
        exact backW_ok h2
      · obtain ⟨v, m', h1, h2⟩ := h.got
        simp only [callShared, h1]
        exact backW_ok h2
      · exact h.elim
    · exact h.elim

/-! ### Operations -/

structure Find (key : D) (es : List (D × V)) (K : Option V → Prop) : Prop where
  got : ∃ r, findE key es = some r ∧ K r
structure SetW (key : D) (x : V) (es : List (D × V)) (K : List (D × V) → Prop) : Prop where
  got : ∃ r, setE key x es = some r ∧ K r

/-- The next sign of a text. -/
structure NextW (s : List UInt8) (pos : Nat) (some_ : Int → Nat → Prop) (none_ : Prop) : Prop where
  yes : pos < s.length → some_ (Utf8.decode ⟨s.toArray⟩ pos).1 (Utf8.decode ⟨s.toArray⟩ pos).2
  no : ¬ pos < s.length → none_

def lookupW (kk : KK) (zero : D) (ok : Bool) (m : Mem) (x key : V) (K : V → Prop) : Prop :=
  match key with
  | .d key =>
    (match isKey kk key with
    | true => (match x with
      | .mp o => lookK m o fun ob =>
        match ob with
        | some (.map es) => Find key es fun r => K (outV zero ok r)
        | _ => False
      | .d .nilm => K (outV zero ok none)
      | _ => False)
    | false => False)
  | _ => False
theorem lookupW_ok {kk : KK} {zero : D} {ok : Bool} {m : Mem} {x key : V} {K : V → Prop} (h : lookupW kk zero ok m x key K) : ∃ v, lookupV kk zero ok m x key = some v ∧ K v := by
  unfold lookupW at h
  split at h
  · split at h
    · rename_i hk
      simp only [lookupV, if_pos hk]
      split at h
      · rw [lookK_eq] at h
        split at h
        · rename_i hl
          obtain ⟨r, h1, h2⟩ := h.got
          exact ⟨_, by simp only [hl, h1]; rfl, h2⟩
        · exact h.elim
      · exact ⟨_, rfl, h⟩
      · exact h.elim
    · exact h.elim
  · exact h.elim

def wpOp (E : Oracle) (cx : Cx) (slot : Nat) (e : Env) (m : Mem) (op : COp) (K : V → Mem → Prop) : Prop :=
  match op with
  | .mv x => opK e x fun v => K v m
  | .ownNil r => newK cx slot m fun i => updK m i (.row r.wr r.t r.sz 0 []) fun m' => K (.ref i 0 0 0) m'
  | .pick c a b => opK e c fun c =>
    match c with
    | .d (.bool t) => Br t (opK e a fun v => K v m) (opK e b fun v => K v m)
    | _ => False
  | .alloc t cs => initK cx slot cs m fun vs m1 => newK cx slot m1 fun i => updK m1 i (.cells t vs) fun m2 => K (.ptr i 0 0) m2
  | .box t x => opK e x fun v => cellsW v fun cs => newK cx slot m fun i => updK m i (.cells t cs) fun m2 => K (.ptr i 0 0) m2
  | .build zero parts => initK cx slot zero m fun vs m1 => partsK e parts fun ps => fillW vs ps fun cs => aggK cs fun v => K v m1
  | .mkList sz n parts => evsK e parts fun vs => listDW sz m vs fun ds => K (.d (.list n ds)) m
  | .mkRow r n parts => evsK e parts fun vs => listDW r.sz m vs fun ds => newK cx slot m fun i => updK m i (.row r.wr r.t r.sz n ds) fun m2 => K (.ref i 0 n n) m2
  | .load n a => opK e a fun a => loadW n m a fun v => K v m
  | .store n a x => opK e a fun a => opK e x fun x => storeW n m a x fun m' => K .skip m'
  | .nilCheck x => opK e x fun v =>
    match v with
    | .fn f a b => K (.fn f a b) m
    | .lptr cs o => K (.lptr cs o) m
    | .ptr o off top => lookK m o fun ob =>
      match ob with
      | some (.cells ..) => K (.ptr o off top) m
      | some (.row _ _ _ n _) => Need (n = top) (K (.ptr o off top) m)
      | _ => False
    | _ => False
  | .bin op x y => opK e x fun x => opK e y fun y => binW op x y fun d => K (.d d) m
  | .eqv ks neg x y => opK e x fun x => opK e y fun y => eqVW ks x y fun b =>
    match neg with
    | true => K (.d (.bool (!b))) m
    | false => K (.d (.bool b)) m
  | .un op x => opK e x fun x =>
    match op, x with
    | .not, .d (.bool b) => K (.d (.bool (!b))) m
    | .neg, .d (.int k n) => Wr k (0 - n) fun n => K (.d (.int k n)) m
    | _, _ => False
  | .conv k x => opK e x fun x =>
    match x with
    | .d (.int _ n) => Wr k n fun n => K (.d (.int k n)) m
    | _ => False
  | .mkFunc f first caps => evsK e first fun a => evsK e caps fun b => K (.fn f a b) m
  | .makeRow r zero n => opK e n fun n =>
    match n with
    | .d (.int _ n) => Need (0 ≤ n ∧ zero.length = r.sz ∧ n.toNat * r.by_ ≤ 140737488355328 ∧ n.toNat ≤ 140737488355328)
      (newK cx slot m fun i => updK m i (.row r.wr r.t r.sz n.toNat (List.replicate n.toNat zero).flatten) fun m' => K (.ref i 0 n.toNat n.toNat) m')
    | _ => False
  | .sliceS x lo hi => opK e x fun x => opK? e lo fun lo => opK? e hi fun hi =>
    match x with
    | .d (.str s) => boundsW s.length lo hi fun l h => K (.d (.str (win s l (h - l)))) m
    | _ => False
  | .slice sz x lo hi mx => opK e x fun x => opK? e lo fun lo => opK? e hi fun hi => opK? e mx fun mx => sliceW sz m x lo hi mx fun v => K v m
  | .fieldAddr off x => opK e x fun x => moveW off m x fun v => K v m
  | .field off n x => opK e x fun x => partW n x off fun v => K v m
  | .idxAddr sz x i => opK e x fun x => opK e i fun i => idxAddrW sz m x i fun v => K v m
  | .idxAddrA len sz x i => opK e x fun x => opK e i fun i =>
    match i with
    | .d (.int _ i) => Need (0 ≤ i ∧ i < len) (moveW (i.toNat * sz) m x fun v => K v m)
    | _ => False
  | .idxS x i => opK e x fun x => opK e i fun i =>
    match x, i with
    | .d (.str s), .d (.int _ i) => Need (0 ≤ i) (PickB s i.toNat fun b => K (.d (.int .u8 b.toNat)) m)
    | _, _ => False
  | .idxA len sz n x i => opK e x fun x => opK e i fun i =>
    match i with
    | .d (.int _ i) => Need (0 ≤ i ∧ i < len) (partW n x (i.toNat * sz) fun v => K v m)
    | _ => False
  | .mkMap => newK cx slot m fun i => updK m i (.map []) fun m' => K (.mp i) m'
  | .lookup kk zero ok x key => opK e x fun x => opK e key fun key => lookupW kk zero ok m x key fun v => K v m
  | .mapSet kk x key v => opK e x fun x => opK e key fun key => opK e v fun v =>
    match x, key with
    | .mp o, .d key => lookK m o fun ob =>
      (match ob with
      | some (.map es) => (match isKey kk key && (cellsOf v).isSome with
        | true => SetW key v es fun es' => updK m o (.map es') fun m' => K .skip m'
        | false => False)
      | _ => False)
    | _, _ => False
  | .rangeS x => opK e x fun x =>
    match x with
    | .d (.str s) => newK cx slot m fun i => updK m i (.iter s 0) fun m' => K (.it i) m'
    | _ => False
  | .nextS x => opK e x fun x =>
    match x with
    | .it o => lookK m o fun ob =>
      match ob with
      | some (.iter s pos) => NextW s pos (fun c w => updK m o (.iter s (pos + w)) fun m' => K (.tup [.d (.bool true), .d (.int .i64 pos), .d (.int .i32 c)]) m') (K (.tup [.d (.bool false)]) m)
      | _ => False
    | _ => False
  | .extract x i => opK e x fun x =>
    match x with
    | .tup vs => PickV vs i fun v => K v m
    | _ => False
  | .call shared imm f args => opK e f fun f => evsK e args fun vs => callW E cx slot shared imm f vs m K
  | .len k x => opK e x fun x => lenW m k x fun n => K (.d (.int .i64 (n : Int))) m
  | .append r s x => opK e s fun s => opK e x fun x => elemsW m x fun k ds => appendNW cx slot r m k ds s K
  | .appendS r s x => opK e s fun s => opK e x fun x =>
    match x, s with
    | .d (.str b), .ref o off len top => appendNW cx slot r m b.length (bytesD b) (.ref o off len top) K
    | _, _ => False
  | .copy sz a b => opK e a fun d => opK e b fun s => elemsW m s fun k ds =>
    match d with
    | .ref o off len top => lookK m o fun ob =>
      match ob with
      | some (.row true t sz' n xs) => Need (n = top ∧ off + len ≤ n ∧ sz' = sz ∧ ds.length = k * sz)
        (updK m o (.row true t sz' n (patch xs (off * sz) (ds.take (min k len * sz)))) fun m' => K (.d (.int .i64 (min k len : Nat))) m')
      | _ => False
    | _ => False
  | .minmax mx args => evsK e args fun vs => minmaxW mx vs fun d => K (.d d) m
  | .clear zero x => opK e x fun x => Some' (clearV zero m x) fun m' => K .skip m'

theorem wpOp_ok {cx : Cx} {slot : Nat} {e : Env} {m : Mem} {op : COp} {K : V → Mem → Prop} (h : wpOp E cx slot e m op K) : ∃ p, evOp E cx slot e m op = some p ∧ K p.1 p.2 := by
  cases op with
  | mv x => simp only [wpOp, opK_eq] at h; exact ⟨(_, _), rfl, h⟩
  | ownNil r => simp only [wpOp, newK_eq, updK_eq] at h; exact ⟨(_, _), rfl, h⟩
  | pick c a b =>
    simp only [wpOp, opK_eq] at h
    simp only [evOp]
    split at h
    · rename_i t ht
      rw [ht]
      refine ⟨(if t then a.ev e else b.ev e, m), rfl, ?_⟩
      cases t with
      | true => exact h.yes rfl
      | false => exact h.no rfl
    · exact h.elim
  | alloc t cs => simp only [wpOp, initK_eq, newK_eq, updK_eq] at h; exact ⟨(_, _), rfl, h⟩
  | box t x =>
    simp only [wpOp, opK_eq] at h
    obtain ⟨cs, h1, h2⟩ := cellsW_ok _ _ h
    simp only [newK_eq, updK_eq] at h2
    exact ⟨(_, _), by simp only [evOp, h1], h2⟩
  | build zero parts =>
    simp only [wpOp, initK_eq, partsK_eq] at h
    obtain ⟨cs, h1, h2⟩ := fillW_ok _ _ _ h
    rw [aggK_eq] at h2
    exact ⟨(_, _), by simp only [evOp, h1]; rfl, h2⟩
  | mkList sz n parts =>
    simp only [wpOp, evsK_eq] at h
    obtain ⟨cs, h1, h2⟩ := listDW_ok _ _ _ _ h
    exact ⟨(_, _), by simp only [evOp, h1]; rfl, h2⟩
  | mkRow r n parts =>
    simp only [wpOp, evsK_eq] at h
    obtain ⟨cs, h1, h2⟩ := listDW_ok _ _ _ _ h
    simp only [newK_eq, updK_eq] at h2
    exact ⟨(_, _), by simp only [evOp, h1]; rfl, h2⟩
  | load n a =>
    simp only [wpOp, opK_eq] at h
    obtain ⟨v, h1, h2⟩ := loadW_ok _ _ _ _ h
    exact ⟨(_, _), by simp only [evOp, h1]; rfl, h2⟩
  | store n a x =>
    simp only [wpOp, opK_eq] at h
    obtain ⟨v, h1, h2⟩ := storeW_ok _ _ _ _ _ h
    exact ⟨(_, _), by simp only [evOp, h1]; rfl, h2⟩
  | nilCheck x =>
    simp only [wpOp, opK_eq] at h
    simp only [evOp]
    split at h
    · rename_i hx; rw [hx]; exact ⟨(_, _), rfl, h⟩
    · rename_i hx; rw [hx]; exact ⟨(_, _), rfl, h⟩
    · rename_i hx; rw [hx]
      rw [lookK_eq] at h
      split at h
      · rename_i hl; exact ⟨(_, _), by simp only [sure, hl]; rfl, h⟩
      · rename_i hl; exact ⟨(_, _), by simp [sure, hl, h.need], h.go⟩
      · exact h.elim
    · exact h.elim
  | bin op x y =>
    simp only [wpOp, opK_eq] at h
    obtain ⟨v, h1, h2⟩ := binW_ok _ _ _ _ h
    exact ⟨(_, _), by simp only [evOp, h1]; rfl, h2⟩
  | eqv ks neg x y =>
    simp only [wpOp, opK_eq] at h
    obtain ⟨v, h1, h2⟩ := eqVW_ok _ _ _ _ h
    cases neg <;> exact ⟨(_, _), by simp only [evOp, h1]; rfl, h2⟩
  | un op x =>
    simp only [wpOp, opK_eq] at h
    simp only [evOp]
    split at h
    · rename_i hx; rw [hx]; exact ⟨(_, _), rfl, h⟩
    · rename_i hx; rw [hx]; exact ⟨(_, _), rfl, h.go⟩
    · exact h.elim
  | conv k x =>
    simp only [wpOp, opK_eq] at h
    simp only [evOp]
    split at h
    · rename_i hx; rw [hx]; exact ⟨(_, _), rfl, h.go⟩
    · exact h.elim
  | mkFunc f first caps => simp only [wpOp, evsK_eq] at h; exact ⟨(_, _), rfl, h⟩
  | makeRow r zero n =>
    simp only [wpOp, opK_eq] at h
    simp only [evOp]
    split at h
    · rename_i hx; rw [hx]
      obtain ⟨⟨h1, h2, h3, h4⟩, h5⟩ := h
      simp only [newK_eq, updK_eq] at h5
      exact ⟨(_, _), if_pos ⟨h1, h2, by simp [roomy, h3, h4]⟩, h5⟩
    · exact h.elim
  | sliceS x lo hi =>
    simp only [wpOp, opK_eq, opK?_eq] at h
    simp only [evOp]
    split at h
    · rename_i hx; rw [hx]
      obtain ⟨p, h1, h2⟩ := boundsW_ok _ _ _ _ h
      obtain ⟨l, hh⟩ := p
      simp only [h1]
      exact ⟨(_, _), rfl, h2⟩
    · exact h.elim
  | slice sz x lo hi mx =>
    simp only [wpOp, opK_eq, opK?_eq] at h
    obtain ⟨v, h1, h2⟩ := sliceW_ok _ _ _ _ _ _ _ h
    exact ⟨(_, _), by simp only [evOp, h1]; rfl, h2⟩
  | fieldAddr off x =>
    simp only [wpOp, opK_eq] at h
    obtain ⟨v, h1, h2⟩ := moveW_ok _ _ _ _ h
    exact ⟨(_, _), by simp only [evOp, h1]; rfl, h2⟩
  | field off n x =>
    simp only [wpOp, opK_eq] at h
    obtain ⟨v, h1, h2⟩ := partW_ok _ _ _ _ h
    exact ⟨(_, _), by simp only [evOp, h1]; rfl, h2⟩
  | idxAddr sz x i =>
    simp only [wpOp, opK_eq] at h
    obtain ⟨v, h1, h2⟩ := idxAddrW_ok _ _ _ _ _ h
    exact ⟨(_, _), by simp only [evOp, h1]; rfl, h2⟩
  | idxAddrA len sz x i =>
    simp only [wpOp, opK_eq] at h
    simp only [evOp]
    split at h
    · rename_i hx; rw [hx]
      obtain ⟨h0, h⟩ := h
      obtain ⟨v, h1, h2⟩ := moveW_ok _ _ _ _ h
      simp only [asI, if_pos h0, h1]
      exact ⟨(_, _), rfl, h2⟩
    · exact h.elim
  | idxS x i =>
    simp only [wpOp, opK_eq] at h
    simp only [evOp]
    split at h
    · rename_i hx hi; rw [hx, hi]
      obtain ⟨h0, h⟩ := h
      obtain ⟨b, h1, h2⟩ := h.got
      simp only [asI, if_pos h0, h1]
      exact ⟨(_, _), rfl, h2⟩
    · exact h.elim
  | idxA len sz n x i =>
    simp only [wpOp, opK_eq] at h
    simp only [evOp]
    split at h
    · rename_i hx; rw [hx]
      obtain ⟨h0, h⟩ := h
      obtain ⟨v, h1, h2⟩ := partW_ok _ _ _ _ h
      simp only [asI, if_pos h0, h1]
      exact ⟨(_, _), rfl, h2⟩
    · exact h.elim
  | mkMap => simp only [wpOp, newK_eq, updK_eq] at h; exact ⟨(_, _), rfl, h⟩
  | lookup kk zero ok x key =>
    simp only [wpOp, opK_eq] at h
    obtain ⟨v, h1, h2⟩ := lookupW_ok h
    exact ⟨(_, _), by simp only [evOp, h1]; rfl, h2⟩
  | mapSet kk x key v =>
    simp only [wpOp, opK_eq] at h
    simp only [evOp]
    split at h
    · rename_i hx hk; rw [hx, hk]
      rw [lookK_eq] at h
      split at h
      · rename_i hl
        split at h
        · rename_i hb
          obtain ⟨r, h1, h2⟩ := h.got
          rw [updK_eq] at h2
          exact ⟨(_, _), by simp only [mapSetV, hl, if_pos hb, h1]; rfl, h2⟩
        · exact h.elim
      · exact h.elim
    · exact h.elim
  | rangeS x =>
    simp only [wpOp, opK_eq] at h
    simp only [evOp]
    split at h
    · rename_i hx; rw [hx]
      simp only [newK_eq, updK_eq] at h
      exact ⟨(_, _), rfl, h⟩
    · exact h.elim
  | nextS x =>
    simp only [wpOp, opK_eq] at h
    simp only [evOp]
    split at h
    · rename_i hx; rw [hx]
      rw [lookK_eq] at h
      split at h
      · rename_i s pos hl
        simp only [updK_eq] at h
        simp only [nextV, hl]
        by_cases hp : pos < s.length
        · exact ⟨(_, _), if_pos hp, h.yes hp⟩
        · exact ⟨(_, _), if_neg hp, h.no hp⟩
      · exact h.elim
    · exact h.elim
  | extract x i =>
    simp only [wpOp, opK_eq] at h
    simp only [evOp]
    split at h
    · rename_i hx; rw [hx]
      obtain ⟨v, h1, h2⟩ := h.got
      exact ⟨(_, _), by simp only [h1]; rfl, h2⟩
    · exact h.elim
  | call shared imm f args =>
    simp only [wpOp, opK_eq, evsK_eq] at h
    exact callW_ok h
  | len k x =>
    simp only [wpOp, opK_eq] at h
    obtain ⟨v, h1, h2⟩ := lenW_ok _ _ _ _ h
    exact ⟨(_, _), by simp only [evOp, h1]; rfl, h2⟩
  | append r s x =>
    simp only [wpOp, opK_eq] at h
    obtain ⟨⟨k, ds⟩, h1, h2⟩ := elemsW_ok _ _ _ h
    simp only [evOp, appendV, h1]
    exact appendNW_ok _ _ _ _ _ _ _ _ h2
  | appendS r s x =>
    simp only [wpOp, opK_eq] at h
    simp only [evOp]
    split at h
    · rename_i hx hs; rw [hx, hs]
      simp only [appendSV]
      exact appendNW_ok _ _ _ _ _ _ _ _ h
    · exact h.elim
  | copy sz a b =>
    simp only [wpOp, opK_eq] at h
    obtain ⟨⟨k, ds⟩, h1, h2⟩ := elemsW_ok _ _ _ h
    simp only [evOp, copyV, h1]
    split at h2
    · rename_i hx; rw [hx]
      rw [lookK_eq] at h2
      split at h2
      · rename_i hl; simp only [hl]
        rw [updK_eq] at h2
        exact ⟨(_, _), if_pos h2.need, h2.go⟩
      · exact h2.elim
    · exact h2.elim
  | minmax mx args =>
    simp only [wpOp, evsK_eq] at h
    obtain ⟨v, h1, h2⟩ := minmaxW_ok _ _ _ h
    exact ⟨(_, _), by simp only [evOp, h1]; rfl, h2⟩
  | clear zero x =>
    simp only [wpOp, opK_eq] at h
    obtain ⟨v, h1, h2⟩ := h.got
    exact ⟨(_, _), by simp only [evOp, h1]; rfl, h2⟩

def wpOp1 (E : Oracle) (cx : Cx) (e : Env) (m : Mem) (o : CO) (K : V → Mem → Prop) : Prop :=
  match o with
  | ⟨dst, none, op⟩ => wpOp E cx (dst.getD 0) e m op K
  | ⟨dst, some (t, want), op⟩ => getK e t fun g =>
    match g with
    | .d (.bool b) => (match want with
      | true => Br b (wpOp E cx (dst.getD 0) e m op K) (K .skip m)
      | false => Br b (K .skip m) (wpOp E cx (dst.getD 0) e m op K))
    | .skip => K .skip m
    | _ => False
theorem wpOp1_ok {cx : Cx} {e : Env} {m : Mem} {o : CO} {K : V → Mem → Prop} (h : wpOp1 E cx e m o K) : ∃ p, evOp1 E cx e m o = some p ∧ K p.1 p.2 := by
  obtain ⟨dst, guard, op⟩ := o
  cases guard with
  | none => exact wpOp_ok h
  | some g =>
    obtain ⟨t, want⟩ := g
    simp only [wpOp1, getK_eq] at h
    simp only [evOp1]
    split at h
    · rename_i b hb
      rw [hb]
      cases want <;> cases b
      · exact wpOp_ok (h.no rfl)
      · exact ⟨(_, _), rfl, h.yes rfl⟩
      · exact ⟨(_, _), rfl, h.no rfl⟩
      · exact wpOp_ok (h.yes rfl)
    · rename_i hb; rw [hb]; exact ⟨(_, _), rfl, h⟩
    · exact h.elim

def wpOps (E : Oracle) (cx : Cx) : List CO → Env → Mem → (Env → Mem → Prop) → Prop
  | [], e, m, K => K e m
  | o :: r, e, m, K => wpOp1 E cx e m o fun v m' => put?K e o.dst v fun e' => wpOps E cx r e' m' K
theorem wpOps_ok {cx : Cx} : ∀ (os : List CO) (e : Env) (m : Mem) (K : Env → Mem → Prop), wpOps E cx os e m K → ∃ p, evOps E cx os e m = some p ∧ K p.1 p.2
  | [], e, m, K, h => ⟨(e, m), rfl, h⟩
  | o :: r, e, m, K, h => by
    obtain ⟨⟨v, m'⟩, h1, h2⟩ := wpOp1_ok h
    rw [put?K_eq] at h2
    obtain ⟨p, h3, h4⟩ := wpOps_ok r _ _ K h2
    exact ⟨p, by simp only [evOps, h1]; exact h3, h4⟩

/-! ### Code -/

def seqK (K1 : Env → Mem → Prop) (K : Ex → Env → Mem → Prop) (x : Ex) (e : Env) (m : Mem) : Prop :=
  match x with
  | .normal => K1 e m
  | .exit i => K (.exit i) e m
  | .ret => K .ret e m

def blockK (id : Nat) (K : Ex → Env → Mem → Prop) (x : Ex) (e : Env) (m : Mem) : Prop :=
  match x with
  | .normal => K .normal e m
  | .exit j => (match Nat.beq j id with
    | true => K .normal e m
    | false => K (.exit j) e m)
  | .ret => K .ret e m

def rangeK (cx : Cx) (i : Id) (e : Env) (K : Ex → Env → Mem → Prop) (m' : Mem) : Prop := lookK m' i fun o =>
  match o with
  | some (.loop _ _ _ _ _ false _ j) => belowK cx.nx m' fun mb =>
    (match lowB cx.nx (idsAll mb) with
    | true => updK mb i .gone fun m2 =>
      (match j with
      | none => K .normal e m2
      | some (.exit id) => K (.exit id) e m2
      | some .ret => K .ret e m2)
    | false => False)
  | _ => False

def wpC (E : Oracle) (cx : Cx) : C → Env → Mem → (Ex → Env → Mem → Prop) → Prop
  | .skip, e, m, K => K .normal e m
  | .label, e, m, K => K .normal e m
  | .reg _ ops kill, e, m, K => wpOps E cx ops e m fun e' m' => withoutK kill e' fun e'' => K .normal e'' m'
  | .seq a b, e, m, K => wpC E cx a e m (seqK (fun e' m' => wpC E cx b e' m' K) K)
  | .cond c a b, e, m, K => opK e c fun v =>
    match v with
    | .d (.bool t) => Br t (wpC E cx a e m K) (wpC E cx b e m K)
    | _ => False
  | .block id c, e, m, K => wpC E cx c e m (blockK id K)
  | .loop live c, e, m, K => onlyK e live fun e' => keysK m fun ks => gcK ks e' m fun m' => LoopW E cx live ks c e' m' K
  | .exit id, e, m, K => K (.exit id) e m
  | .ret, e, m, K => K .ret e m
  | .scope c, e, m, K => wpC E cx c e m K
  | .rangeFn slot f ps a b, e, m, K => newK cx slot m fun i => updK m i (.loop e ps a b cx.lv false false none) fun m1 => keysK m1 fun ks =>
    match lowB cx.nx ks with
    | true => opK e f fun fv =>
      (match fv with
      | .fn g first caps => In E cx.nx g (first ++ [.yld i] ++ caps) m1 fun _ m' => rangeK cx i e K m'
      | _ => False)
    | false => False

theorem wpC_ok {cx : Cx} : ∀ (c : C) (e : Env) (m : Mem) (K : Ex → Env → Mem → Prop), wpC E cx c e m K → ∃ x e' m', evC E cx c e m = some (x, e', m') ∧ K x e' m'
  | .skip, e, m, K, h => ⟨_, _, _, rfl, h⟩
  | .label, e, m, K, h => ⟨_, _, _, rfl, h⟩
  | .exit _, e, m, K, h => ⟨_, _, _, rfl, h⟩
  | .ret, e, m, K, h => ⟨_, _, _, rfl, h⟩
  | .scope c, e, m, K, h => by
    obtain ⟨x, e', m', h1, h2⟩ := wpC_ok c e m K h
    exact ⟨x, e', m', by simp only [evC]; exact h1, h2⟩
  | .reg _ ops kill, e, m, K, h => by
    obtain ⟨p, h1, h2⟩ := wpOps_ok ops e m _ h
    rw [withoutK_eq] at h2
    exact ⟨_, _, _, by simp only [evC, h1]; rfl, h2⟩
  | .seq a b, e, m, K, h => by
    obtain ⟨x, e', m', h1, h2⟩ := wpC_ok a e m _ h
    cases x with
    | normal =>
      obtain ⟨x2, e2, m2, h3, h4⟩ := wpC_ok b e' m' K h2
      exact ⟨x2, e2, m2, by simp only [evC, h1]; exact h3, h4⟩
    | _ => exact ⟨_, _, _, by simp only [evC, h1], h2⟩
  | .cond c a b, e, m, K, h => by
    simp only [wpC, opK_eq] at h
    simp only [evC]
    split at h
    · rename_i t ht
      rw [ht]
      cases t with
      | true =>
        obtain ⟨x2, e2, m2, h3, h4⟩ := wpC_ok a e m K (h.yes rfl)
        exact ⟨x2, e2, m2, by simpa using h3, h4⟩
      | false =>
        obtain ⟨x2, e2, m2, h3, h4⟩ := wpC_ok b e m K (h.no rfl)
        exact ⟨x2, e2, m2, by simpa using h3, h4⟩
    · exact h.elim
  | .block id c, e, m, K, h => by
    obtain ⟨x, e', m', h1, h2⟩ := wpC_ok c e m _ h
    cases x with
    | exit j =>
      simp only [blockK] at h2
      cases hb : Nat.beq j id with
      | true =>
        rw [hb] at h2
        exact ⟨.normal, e', m', by simp only [evC, h1]; exact if_pos (Nat.eq_of_beq_eq_true hb), h2⟩
      | false =>
        rw [hb] at h2
        have : j ≠ id := fun hh => by rw [hh, Nat.beq_refl] at hb; cases hb
        exact ⟨.exit j, e', m', by simp only [evC, h1]; exact if_neg this, h2⟩
    | _ => exact ⟨_, _, _, by simp only [evC, h1], h2⟩
  | .loop live c, e, m, K, h => by
    simp only [wpC, onlyK_eq, keysK_eq, gcK_eq] at h
    obtain ⟨x, e', m', h1, h2⟩ := h.got
    exact ⟨x, e', m', by simp only [evC, h1], h2⟩
  | .rangeFn slot f ps a b, e, m, K, h => by
    simp only [wpC, newK_eq, updK_eq, keysK_eq, lowB_eq, opK_eq] at h
    simp only [evC]
    split at h
    · rename_i hl
      rw [if_pos hl]
      split at h
      · rename_i hf
        rw [hf]
        obtain ⟨v, m', h1, h2⟩ := h.got
        simp only [h1]
        simp only [rangeK, lookK_eq, belowK_eq, lowB_eq, updK_eq] at h2
        split at h2
        · rename_i hlk
          simp only [hlk]
          split at h2
          · rename_i hl2
            simp only [if_pos hl2]
            split at h2 <;> exact ⟨_, _, _, rfl, h2⟩
          · exact h2.elim
        · exact h2.elim
      · exact h.elim
    · exact h.elim

/-! ### Functions -/

def resW (m : Mem) (e : Env) (r : RV) (K : V → Prop) : Prop :=
  match r with
  | .tmp t => getK e t K
  | .cell t n => getK e t fun a => loadW n m a K
theorem resW_ok {m : Mem} {e : Env} {r : RV} {K : V → Prop} (h : resW m e r K) : ∃ v, resV m e r = some v ∧ K v := by
  cases r with
  | tmp t => simp only [resW, getK_eq] at h; exact ⟨_, rfl, h⟩
  | cell t n => simp only [resW, getK_eq] at h; exact loadW_ok _ _ _ _ h
def resLW (m : Mem) (e : Env) : List RV → (List V → Prop) → Prop
  | [], K => K []
  | r :: q, K => resW m e r fun v => resLW m e q fun vs => K (v :: vs)
theorem resLW_ok {m : Mem} {e : Env} : ∀ (l : List RV) (K : List V → Prop), resLW m e l K → ∃ vs, resVs m e l = some vs ∧ K vs
  | [], K, h => ⟨[], rfl, h⟩
  | r :: q, K, h => by
    obtain ⟨v, h1, h2⟩ := resW_ok h
    obtain ⟨vs, h3, h4⟩ := resLW_ok q _ h2
    exact ⟨v :: vs, by simp only [resVs, h1, h3], h4⟩
def resultsW (m : Mem) (e : Env) (rs : List RV) (K : V → Prop) : Prop :=
  match rs with
  | [] => K (.tup [])
  | [r] => resW m e r K
  | r :: r2 :: rs => resLW m e (r :: r2 :: rs) fun vs => K (.tup vs)
theorem resultsW_ok {m : Mem} {e : Env} {rs : List RV} {K : V → Prop} (h : resultsW m e rs K) : ∃ v, results m e rs = some v ∧ K v := by
  unfold resultsW at h
  split at h
  · exact ⟨_, rfl, h⟩
  · exact resW_ok h
  · obtain ⟨vs, h1, h2⟩ := resLW_ok _ _ h
    exact ⟨_, by simp only [results, h1]; rfl, h2⟩

def endK (rs : List RV) (K : V → Mem → Prop) (x : Ex) (e : Env) (m : Mem) : Prop :=
  match x with
  | .normal => resultsW m e rs fun v => K v m
  | .ret => resultsW m e rs fun v => K v m
  | .exit _ => False

def parK : Nat → List V → (Env → Prop) → Prop
  | _, [], K => K []
  | i, v :: r, K => parK (i + 1) r fun e => K ((i, v) :: e)
theorem parK_eq : ∀ (i : Nat) (l : List V) (K : Env → Prop), parK i l K = K (params i l)
  | _, [], _ => rfl
  | i, v :: r, K => by simp only [parK, params, parK_eq (i + 1) r]

variable {Γ : Nat → Option CF} {X : Extern}

def bodyW (E : Oracle) (lv : Nat) (cf : CF) (args : List V) (m : Mem) (K : V → Mem → Prop) : Prop := parK 0 args fun e => wpC E ⟨lv, lv + 1⟩ cf.body e m (endK cf.results K)

theorem In.enter (hE : Lim Γ X E) {lv f : Nat} {args : List V} {m : Mem} {K : V → Mem → Prop} {cf : CF} (hX : X f = none) (hc : Γ f = some cf) (h : bodyW E lv cf args m K) : In E lv f args m K := by
  simp only [bodyW, parK_eq] at h
  obtain ⟨x, e', m', h1, h2⟩ := wpC_ok _ _ _ _ h
  refine ⟨?_⟩
  rw [hE.fix]
  simp only [step, hX, hc, h1]
  cases x with
  | normal =>
    simp only [endK] at h2
    obtain ⟨v, h3, h4⟩ := resultsW_ok h2
    exact ⟨v, m', by simp only [h3]; rfl, h4⟩
  | ret =>
    simp only [endK] at h2
    obtain ⟨v, h3, h4⟩ := resultsW_ok h2
    exact ⟨v, m', by simp only [h3]; rfl, h4⟩
  | exit i => exact h2.elim

/-- A function of the program, in memory of its own. -/
theorem Fc.enter (hE : Lim Γ X E) {f : Nat} {args : List V} {r : V} {cf : CF} (hX : X f = none) (hc : Γ f = some cf) (h : bodyW E 0 cf args [] fun v m' => thawW m' v fun d => Ret d r) : Fc E f args r := by
  obtain ⟨v, m', h1, h2⟩ := (In.enter hE hX hc h).got
  obtain ⟨d, h3, h4⟩ := thawW_ok _ _ _ h2
  exact ⟨v, m', h1, by rw [h3, h4.eq]⟩

/-- One of the library that is given whole. -/
theorem Fc.extern (hE : Lim Γ X E) {f : Nat} {args : List V} {r v : V} {m' : Mem} {x : List V → Mem → Option (V × Mem)} (hX : X f = some x) (h : x args [] = some (v, m')) (ht : thaw m' v = some r) : Fc E f args r :=
  ⟨v, m', by rw [hE.fix]; simp only [step, hX, h]; rfl, ht⟩
theorem In.extern (hE : Lim Γ X E) {lv f : Nat} {args : List V} {m : Mem} {K : V → Mem → Prop} {v : V} {m' : Mem} {x : List V → Mem → Option (V × Mem)} (hX : X f = some x) (h : x args m = some (v, m')) (hk : K v m') : In E lv f args m K :=
  ⟨v, m', by rw [hE.fix]; simp only [step, hX, h]; rfl, hk⟩

theorem CallI.of {f : Nat} {args : List V} {r : V} {K : V → Prop} (h : Fc E f args r) (hk : K r) : CallI E f args K := ⟨r, h, hk⟩

/-- A computed call. -/
theorem Fc.comp (hE : Lim Γ X E) (n : Nat) {f : Nat} {args : List V} {v r : V} {m' : Mem} (h : iter Γ X n (.call 0 f args []) = some (.val v m')) (ht : thaw m' v = some r) : Fc E f args r := ⟨v, m', hE.of_iter n _ _ h, ht⟩

/-! ### Loops -/

def againK (E : Oracle) (cx : Cx) (live : List Nat) (keep : List Id) (body : C) (K : Ex → Env → Mem → Prop) (x : Ex) (e : Env) (m : Mem) : Prop :=
  match x with
  | .normal => onlyK e live fun e2 => gcK keep e2 m fun m2 => LoopW E cx live keep body e2 m2 K
  | .exit i => K (.exit i) e m
  | .ret => K .ret e m

theorem LoopW.step (hE : Lim Γ X E) {cx : Cx} {live : List Nat} {keep : List Id} {body : C} {e : Env} {m : Mem} {K : Ex → Env → Mem → Prop} (h : wpC E cx body e m (againK E cx live keep body K)) : LoopW E cx live keep body e m K := by
  obtain ⟨x, e', m', h1, h2⟩ := wpC_ok _ _ _ _ h
  refine ⟨?_⟩
  rw [hE.fix]
  simp only [Go.Evl.step, h1]
  cases x with
  | normal =>
    simp only [againK, onlyK_eq, gcK_eq] at h2
    exact h2.got
  | exit i => exact ⟨_, _, _, rfl, h2⟩
  | ret => exact ⟨_, _, _, rfl, h2⟩

theorem LoopW.mono {cx : Cx} {live : List Nat} {keep : List Id} {body : C} {e : Env} {m : Mem} {K K' : Ex → Env → Mem → Prop} (h : LoopW E cx live keep body e m K) (hk : ∀ x e m, K x e m → K' x e m) : LoopW E cx live keep body e m K' := by
  obtain ⟨x, e', m', h1, h2⟩ := h.got
  exact ⟨x, e', m', h1, hk _ _ _ h2⟩

/-! ### A round of a range over a function -/

def zipK : List Nat → List V → Env → (Env → Prop) → Prop
  | t :: r, v :: s, e, K => putK e t v fun e' => zipK r s e' K
  | [], _, e, K => K e
  | _ :: _, [], e, K => K e
theorem zipK_eq : ∀ (ps : List Nat) (vs : List V) (e : Env) (K : Env → Prop), zipK ps vs e K = K (zipP ps vs e)
  | [], [], e, K => rfl
  | [], _ :: _, e, K => rfl
  | _ :: _, [], e, K => rfl
  | t :: r, v :: s, e, K => by simp only [zipK, zipP, putK_eq, zipK_eq r s]

def roundEnd (o : Id) (ks : List Id) (K : V → Mem → Prop) (x : Ex) (_ : Env) (m2 : Mem) : Prop := lookK m2 o fun ob =>
  match ob with
  | some (.loop e' ps' a' b' lv' true false _) =>
    (match x with
    | .normal => updK m2 o (.loop e' ps' a' b' lv' false false none) fun m3 => gcK ks [] m3 fun m4 => K (.d (.bool true)) m4
    | .exit id => updK m2 o (.loop e' ps' a' b' lv' false true (some (.exit id))) fun m3 => K (.d (.bool false)) m3
    | .ret => updK m2 o (.loop e' ps' a' b' lv' false true (some .ret)) fun m3 => K (.d (.bool false)) m3)
  | _ => False

def roundMid (E : Oracle) (nx : Nat) (o : Id) (lv : Nat) (b : C) (ks : List Id) (K : V → Mem → Prop) (x : Ex) (e1 : Env) (m1 : Mem) : Prop :=
  match x with
  | .normal => lookK m1 o fun ob =>
    (match ob with
    | some (.loop e' ps' a' b' lv' false false j') => updK m1 o (.loop e' ps' a' b' lv' true false j') fun m2 => wpC E ⟨lv, nx⟩ b e1 m2 (roundEnd o ks K)
    | _ => False)
  | _ => False

def roundW (E : Oracle) (nx : Nat) (o : Id) (args : List V) (m : Mem) (K : V → Mem → Prop) : Prop := lookK m o fun ob =>
  match ob with
  | some (.loop e ps a b lv false false _) =>
    (match Nat.beq ps.length args.length with
    | true => zipK ps args e fun e0 => keysK m fun ks => wpC E ⟨lv, nx⟩ a e0 m (roundMid E nx o lv b ks K)
    | false => False)
  | _ => False

theorem Rnd.enter (hE : Lim Γ X E) {nx : Nat} {o : Id} {args : List V} {m : Mem} {K : V → Mem → Prop} (h : roundW E nx o args m K) : Rnd E nx o args m K := by
  refine ⟨?_⟩
  rw [hE.fix]
  simp only [roundW, lookK_eq] at h
  simp only [Go.Evl.step]
  split at h
  · rename_i hl
    simp only [hl]
    split at h
    · rename_i hlen
      rw [if_pos (Nat.eq_of_beq_eq_true hlen)]
      simp only [zipK_eq, keysK_eq] at h
      obtain ⟨x, e1, m1, h1, h2⟩ := wpC_ok _ _ _ _ h
      simp only [h1]
      cases x with
      | normal =>
        simp only [roundMid, lookK_eq] at h2
        split at h2
        · rename_i hl1
          simp only [hl1]
          rw [updK_eq] at h2
          obtain ⟨x, e2, m2, h3, h4⟩ := wpC_ok _ _ _ _ h2
          simp only [h3]
          simp only [roundEnd, lookK_eq] at h4
          split at h4
          · rename_i hl2
            simp only [hl2]
            cases x with
            | normal =>
              simp only [updK_eq, gcK_eq] at h4
              exact ⟨_, _, rfl, h4⟩
            | exit i =>
              simp only [updK_eq] at h4
              exact ⟨_, _, rfl, h4⟩
            | ret =>
              simp only [updK_eq] at h4
              exact ⟨_, _, rfl, h4⟩
          · exact h4.elim
        · exact h2.elim
      | exit i => exact h2.elim
      | ret => exact h2.elim
    · exact h.elim
  · exact h.elim

end
end Go.Evl

