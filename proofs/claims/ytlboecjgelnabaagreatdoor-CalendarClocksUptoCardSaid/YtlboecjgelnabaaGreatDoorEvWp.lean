
/-
  What is to be shown for a piece of code to end well: computed off the code, in small steps that the reader may take one by one.
-/
import Derived.Test.YtlboecjgelnabaaGreatDoorEvLim
namespace Go.Evl

/-! ### What a step asks -/

structure Need (p k : Prop) : Prop where
  need : p
  go : k

structure Br (t : Bool) (a b : Prop) : Prop where
  yes : t = true → a
  no : t = false → b

/-- A comparison: its truth value goes on as a literal. -/
structure Cmp (p a b : Prop) : Prop where
  yes : p → a
  no : ¬ p → b

structure Wr (k : IntKind) (x : Int) (K : Int → Prop) : Prop where
  go : K (k.wrap x)

structure Rem (a b : Int) (K : Int → Prop) : Prop where
  ne : b ≠ 0
  go : K (a.tmod b)

structure Quo (k : IntKind) (a b : Int) (K : Int → Prop) : Prop where
  ne : b ≠ 0
  go : K (k.wrap (a.tdiv b))

structure Pick (cs : List D) (off : Nat) (K : D → Prop) : Prop where
  got : ∃ d, cs[off]? = some d ∧ K d

structure PickV (cs : List V) (off : Nat) (K : V → Prop) : Prop where
  got : ∃ d, cs[off]? = some d ∧ K d

structure PickW (cs : List D) (off n : Nat) (K : List D → Prop) : Prop where
  le : off + n ≤ cs.length
  go : K (win cs off n)

structure PickB (s : List UInt8) (i : Nat) (K : UInt8 → Prop) : Prop where
  got : ∃ b, s[i]? = some b ∧ K b

/-- An optional result that the reader is to give. -/
structure Some' {α : Type} (o : Option α) (K : α → Prop) : Prop where
  got : ∃ a, o = some a ∧ K a

/-- A function's call in memory of its own, its result data. -/
def Fc (E : Oracle) (f : Nat) (args : List V) (r : V) : Prop := ∃ v m', E (.call 0 f args []) = some (.val v m') ∧ thaw m' v = some r

structure CallI (E : Oracle) (f : Nat) (args : List V) (K : V → Prop) : Prop where
  got : ∃ r, Fc E f args r ∧ K r

structure CallS (E : Oracle) (f : Nat) (args : List V) (cx : Cx) (slot : Nat) (m : Mem) (K : V → Mem → Prop) : Prop where
  got : ∃ v m' p, E (.call 0 f args []) = some (.val v m') ∧ settle cx slot 0 m m' v = some p ∧ K p.1 p.2

structure In (E : Oracle) (lv f : Nat) (args : List V) (m : Mem) (K : V → Mem → Prop) : Prop where
  got : ∃ v m', E (.call lv f args m) = some (.val v m') ∧ K v m'

structure Rnd (E : Oracle) (nx : Nat) (o : Id) (args : List V) (m : Mem) (K : V → Mem → Prop) : Prop where
  got : ∃ v m', E (.round nx o args m) = some (.val v m') ∧ K v m'

structure LoopW (E : Oracle) (cx : Cx) (live : List Nat) (keep : List Id) (body : C) (e : Env) (m : Mem) (K : Ex → Env → Mem → Prop) : Prop where
  got : ∃ x e' m', E (.loop cx live keep body e m) = some (.st x e' m') ∧ K x e' m'

/-- A result held against the one that is to come. -/
structure Ret (a b : V) : Prop where
  eq : a = b

/-! ### Total readers, the rest behind them -/

def getK : Env → Nat → (V → Prop) → Prop
  | [], _, K => K .undef
  | (u, v) :: r, t, K => match Nat.beq u t with
    | true => K v
    | false => getK r t K

theorem getK_eq : ∀ (e : Env) (t : Nat) (K : V → Prop), getK e t K = K (get e t)
  | [], _, _ => rfl
  | (u, v) :: r, t, K => by
    simp only [getK, get]
    cases h : Nat.beq u t with
    | true => simp [Nat.eq_of_beq_eq_true h]
    | false =>
      have : u ≠ t := fun hh => by rw [hh, Nat.beq_refl] at h; cases h
      simp only [if_neg this]
      exact getK_eq r t K

def opK (e : Env) (x : Opd) (K : V → Prop) : Prop :=
  match x with
  | .t n => getK e n K
  | .k v => K v

theorem opK_eq (e : Env) (x : Opd) (K : V → Prop) : opK e x K = K (x.ev e) := by
  cases x with
  | t n => exact getK_eq e n K
  | k v => rfl

def evsK (e : Env) : List Opd → (List V → Prop) → Prop
  | [], K => K []
  | x :: r, K => opK e x fun v => evsK e r fun vs => K (v :: vs)

theorem evsK_eq (e : Env) : ∀ (l : List Opd) (K : List V → Prop), evsK e l K = K (evs e l)
  | [], _ => rfl
  | x :: r, K => by simp only [evsK, evs, opK_eq, evsK_eq e r]

def opK? (e : Env) (x : Option Opd) (K : Option V → Prop) : Prop :=
  match x with
  | none => K none
  | some x => opK e x fun v => K (some v)

theorem opK?_eq (e : Env) (x : Option Opd) (K : Option V → Prop) : opK? e x K = K (x.map (·.ev e)) := by
  cases x with
  | none => rfl
  | some x => exact opK_eq e x _

def putK : Env → Nat → V → (Env → Prop) → Prop
  | [], t, v, K => K [(t, v)]
  | (u, x) :: r, t, v, K => match Nat.beq u t with
    | true => K ((t, v) :: r)
    | false => putK r t v fun r' => K ((u, x) :: r')

theorem putK_eq : ∀ (e : Env) (t : Nat) (v : V) (K : Env → Prop), putK e t v K = K (put e t v)
  | [], _, _, _ => rfl
  | (u, x) :: r, t, v, K => by
    simp only [putK, put]
    cases h : Nat.beq u t with
    | true => simp [Nat.eq_of_beq_eq_true h]
    | false =>
      have : u ≠ t := fun hh => by rw [hh, Nat.beq_refl] at h; cases h
      simp only [if_neg this]
      exact putK_eq r t v _

def put?K (e : Env) (t : Option Nat) (v : V) (K : Env → Prop) : Prop :=
  match t with
  | none => K e
  | some t => putK e t v K

theorem put?K_eq (e : Env) (t : Option Nat) (v : V) (K : Env → Prop) : put?K e t v K = K (put? e t v) := by
  cases t with
  | none => rfl
  | some t => exact putK_eq e t v K

def memN : List Nat → Nat → Bool
  | [], _ => false
  | u :: r, t => match Nat.beq u t with
    | true => true
    | false => memN r t

theorem memN_eq : ∀ (l : List Nat) (t : Nat), memN l t = l.elem t
  | [], _ => rfl
  | u :: r, t => by
    simp only [memN]
    cases h : Nat.beq u t with
    | true => simp [Nat.eq_of_beq_eq_true h]
    | false =>
      have : t ≠ u := fun hh => by rw [hh, Nat.beq_refl] at h; cases h
      simp only [memN_eq r t, List.elem_cons]
      have : (t == u) = false := by simpa using this
      rw [this]

def withoutK (kill : List Nat) : Env → (Env → Prop) → Prop
  | [], K => K []
  | (u, v) :: r, K => match memN kill u with
    | true => withoutK kill r K
    | false => withoutK kill r fun r' => K ((u, v) :: r')

theorem withoutK_eq (kill : List Nat) : ∀ (e : Env) (K : Env → Prop), withoutK kill e K = K (without kill e)
  | [], _ => rfl
  | (u, v) :: r, K => by
    simp only [withoutK, memN_eq]
    cases h : kill.elem u with
    | true =>
      have hm : u ∈ kill := by simpa using h
      simp only [withoutK_eq kill r]; simp [without, hm]
    | false =>
      have hm : u ∉ kill := by simpa using h
      simp only [withoutK_eq kill r]; simp [without, hm]

def onlyK (e : Env) : List Nat → (Env → Prop) → Prop
  | [], K => K []
  | t :: r, K => getK e t fun v => onlyK e r fun r' => K ((t, v) :: r')

theorem onlyK_eq (e : Env) : ∀ (live : List Nat) (K : Env → Prop), onlyK e live K = K (only live e)
  | [], _ => rfl
  | t :: r, K => by simp only [onlyK, getK_eq, onlyK_eq e r]; rfl

/-! #### Memory -/

def idB (i j : Id) : Bool :=
  match Nat.beq i.slot j.slot with
  | true => (match Nat.beq i.lv j.lv with
    | true => Nat.beq i.k j.k
    | false => false)
  | false => false

theorem idB_true {i j : Id} (h : idB i j = true) : i = j := by
  obtain ⟨a, b, c⟩ := i
  obtain ⟨x, y, z⟩ := j
  simp only [idB] at h
  split at h
  · rename_i h1
    split at h
    · rename_i h2
      rw [Nat.eq_of_beq_eq_true h1, Nat.eq_of_beq_eq_true h2, Nat.eq_of_beq_eq_true h]
    · cases h
  · cases h
theorem idB_false {i j : Id} (h : idB i j = false) : i ≠ j := by
  rintro rfl
  obtain ⟨a, b, c⟩ := i
  simp [idB, Nat.beq_refl] at h

def lookK : Mem → Id → (Option Ob → Prop) → Prop
  | [], _, K => K none
  | (j, o) :: r, i, K => match idB j i with
    | true => K (some o)
    | false => lookK r i K

theorem lookK_eq : ∀ (m : Mem) (i : Id) (K : Option Ob → Prop), lookK m i K = K (look m i)
  | [], _, _ => rfl
  | (j, o) :: r, i, K => by
    simp only [lookK, look]
    cases h : idB j i with
    | true => simp [idB_true h]
    | false => simp only [if_neg (idB_false h)]; exact lookK_eq r i K

def updK : Mem → Id → Ob → (Mem → Prop) → Prop
  | [], i, o, K => K [(i, o)]
  | (j, x) :: r, i, o, K => match idB j i with
    | true => K ((i, o) :: r)
    | false => updK r i o fun r' => K ((j, x) :: r')

theorem updK_eq : ∀ (m : Mem) (i : Id) (o : Ob) (K : Mem → Prop), updK m i o K = K (upd m i o)
  | [], _, _, _ => rfl
  | (j, x) :: r, i, o, K => by
    simp only [updK, upd]
    cases h : idB j i with
    | true => simp [idB_true h]
    | false => simp only [if_neg (idB_false h)]; exact updK_eq r i o _

def memI : List Id → Id → Bool
  | [], _ => false
  | u :: r, t => match idB u t with
    | true => true
    | false => memI r t

theorem memI_eq : ∀ (l : List Id) (t : Id), memI l t = l.elem t
  | [], _ => rfl
  | u :: r, t => by
    simp only [memI]
    cases h : idB u t with
    | true => simp [idB_true h]
    | false =>
      have h' : t ≠ u := fun hh => idB_false h hh.symm
      simp only [memI_eq r t, List.elem_cons]
      have : (t == u) = false := by simpa using h'
      rw [this]

def gcF (a b c : List Id) : Mem → (Mem → Prop) → Prop
  | [], K => K []
  | (i, o) :: r, K => match memI a i with
    | true => gcF a b c r fun r' => K ((i, o) :: r')
    | false => (match memI b i with
      | true => gcF a b c r fun r' => K ((i, o) :: r')
      | false => (match memI c i with
        | true => gcF a b c r fun r' => K ((i, o) :: r')
        | false => gcF a b c r K))

theorem gcF_eq (a b c : List Id) : ∀ (m : Mem) (K : Mem → Prop), gcF a b c m K = K (m.filter fun p => a.elem p.1 || b.elem p.1 || c.elem p.1)
  | [], _ => rfl
  | (i, o) :: r, K => by
    simp only [gcF, memI_eq]
    cases ha : a.elem i <;> cases hb : b.elem i <;> cases hc : c.elem i <;> simp only [gcF_eq a b c r, List.filter_cons, ha, hb, hc] <;> rfl

/-- What nobody mentions goes: nothing is asked where memory is empty. -/
def gcK (keep : List Id) (e : Env) (m : Mem) (K : Mem → Prop) : Prop :=
  match m with
  | [] => K []
  | _ :: _ => gcF keep (idsE e) (idsAll m) m fun m1 => gcF keep (idsE e) (idsAll m1) m1 fun m2 => gcF keep (idsE e) (idsAll m2) m2 K

theorem gcK_eq (keep : List Id) (e : Env) (m : Mem) (K : Mem → Prop) : gcK keep e m K = K (gc keep e m) := by
  cases m with
  | nil => rfl
  | cons p r => simp only [gcK, gcF_eq]; rfl

def freeNK (lv slot : Nat) : Mem → (Nat → Prop) → Prop
  | [], K => K 0
  | (j, _) :: r, K => match Nat.beq j.slot slot with
    | true => (match Nat.beq j.lv lv with
      | true => freeNK lv slot r fun n => K (max (j.k + 1) n)
      | false => freeNK lv slot r K)
    | false => freeNK lv slot r K

theorem freeNK_eq (lv slot : Nat) : ∀ (m : Mem) (K : Nat → Prop), freeNK lv slot m K = K (freeK lv slot m)
  | [], _ => rfl
  | (j, o) :: r, K => by
    simp only [freeNK, freeK]
    cases h1 : Nat.beq j.slot slot with
    | false =>
      have : j.slot ≠ slot := fun hh => by rw [hh, Nat.beq_refl] at h1; cases h1
      simp only [this, and_false, if_false]
      exact freeNK_eq lv slot r K
    | true =>
      cases h2 : Nat.beq j.lv lv with
      | false =>
        have : j.lv ≠ lv := fun hh => by rw [hh, Nat.beq_refl] at h2; cases h2
        simp only [this, false_and, if_false]
        exact freeNK_eq lv slot r K
      | true => simp only [Nat.eq_of_beq_eq_true h1, Nat.eq_of_beq_eq_true h2, and_self, if_true, freeNK_eq lv slot r]

def newK (cx : Cx) (slot : Nat) (m : Mem) (K : Id → Prop) : Prop := freeNK cx.lv slot m fun n => K ⟨cx.lv, slot, n⟩
theorem newK_eq (cx : Cx) (slot : Nat) (m : Mem) (K : Id → Prop) : newK cx slot m K = K (newId cx slot m) := freeNK_eq _ _ _ _

def initK (cx : Cx) (slot : Nat) : List Init → Mem → (List V → Mem → Prop) → Prop
  | [], m, K => K [] m
  | .z x :: r, m, K => initK cx slot r m fun vs m' => K (.d x :: vs) m'
  | .own s :: r, m, K => newK cx slot m fun i => updK m i (.row s.wr s.t s.sz 0 []) fun m1 => initK cx slot r m1 fun vs m' => K (.ref i 0 0 0 :: vs) m'

theorem initK_eq (cx : Cx) (slot : Nat) : ∀ (l : List Init) (m : Mem) (K : List V → Mem → Prop), initK cx slot l m K = K (initCells cx slot l m).1 (initCells cx slot l m).2
  | [], _, _ => rfl
  | .z x :: r, m, K => by simp only [initK, initCells, initK_eq cx slot r]
  | .own s :: r, m, K => by simp only [initK, initCells, newK_eq, updK_eq, initK_eq cx slot r]

/-! #### Values -/

mutual
def freezeW (any : Bool) (m : Mem) : V → (D → Prop) → Prop
  | .d x, K => K x
  | .agg cs, K => freezeLW any m cs fun ds => K (.agg ds)
  | .ref o off len top, K => lookK m o fun x =>
    match x with
    | some (.row wr _ sz n xs) =>
      (match (!wr || any) with
      | true => Need (n = top ∧ off + len ≤ n) (K (.list len (if off = 0 ∧ len = n then xs else win xs (off * sz) (len * sz))))
      | false => False)
    | _ => False
  | _, _ => False
def freezeLW (any : Bool) (m : Mem) : List V → (List D → Prop) → Prop
  | [], K => K []
  | v :: r, K => freezeW any m v fun d => freezeLW any m r fun ds => K (d :: ds)
end

mutual
theorem freezeW_ok (any : Bool) (m : Mem) : ∀ (v : V) (K : D → Prop), freezeW any m v K → ∃ d, freeze any m v = some d ∧ K d
  | .d x, K, h => ⟨x, rfl, h⟩
  | .agg cs, K, h => by
    obtain ⟨ds, h1, h2⟩ := freezeLW_ok any m cs _ h
    exact ⟨_, by simp only [freeze, h1]; rfl, h2⟩
  | .ref o off len top, K, h => by
    simp only [freezeW, lookK_eq] at h
    simp only [freeze]
    cases hl : look m o with
    | none => rw [hl] at h; exact h.elim
    | some x =>
      rw [hl] at h
      cases x with
      | row wr t sz n xs =>
        simp only at h ⊢
        split at h
        · rename_i hw
          have hc : (wr = false ∨ any = true) ∧ n = top ∧ off + len ≤ n := ⟨by cases wr <;> simp_all, h.need⟩
          exact ⟨_, if_pos hc, h.go⟩
        · exact h.elim
      | _ => exact h.elim
  | .tup _, _, h => (by simp only [freezeW] at h)
  | .ptr .., _, h => (by simp only [freezeW] at h)
  | .lptr .., _, h => (by simp only [freezeW] at h)
  | .fn .., _, h => (by simp only [freezeW] at h)
  | .yld _, _, h => (by simp only [freezeW] at h)
  | .mp _, _, h => (by simp only [freezeW] at h)
  | .it _, _, h => (by simp only [freezeW] at h)
  | .skip, _, h => (by simp only [freezeW] at h)
  | .undef, _, h => (by simp only [freezeW] at h)
theorem freezeLW_ok (any : Bool) (m : Mem) : ∀ (vs : List V) (K : List D → Prop), freezeLW any m vs K → ∃ ds, freezeL any m vs = some ds ∧ K ds
  | [], K, h => ⟨[], rfl, h⟩
  | v :: r, K, h => by
    obtain ⟨d, h1, h2⟩ := freezeW_ok any m v _ h
    obtain ⟨ds, h3, h4⟩ := freezeLW_ok any m r _ h2
    exact ⟨d :: ds, by simp only [freezeL, h1, h3], h4⟩
end

def asVK : List D → (List V → Prop) → Prop
  | [], K => K []
  | x :: r, K => asVK r fun vs => K (.d x :: vs)
theorem asVK_eq : ∀ (l : List D) (K : List V → Prop), asVK l K = K (asV l)
  | [], _ => rfl
  | x :: r, K => by simp only [asVK, asV, asVK_eq r]

def thawW (m : Mem) (v : V) (K : V → Prop) : Prop :=
  match v with
  | .tup vs => freezeLW true m vs fun xs => asVK xs fun ys => K (.tup ys)
  | v => freezeW true m v fun d => K (.d d)

theorem thawW_ok (m : Mem) (v : V) (K : V → Prop) (h : thawW m v K) : ∃ r, thaw m v = some r ∧ K r := by
  have simple : ∀ v : V, (∀ vs, v ≠ .tup vs) → freezeW true m v (fun d => K (.d d)) → ∃ r, thaw m v = some r ∧ K r := by
    intro v hv h
    obtain ⟨d, h1, h2⟩ := freezeW_ok true m v _ h
    refine ⟨.d d, ?_, h2⟩
    unfold thaw
    split
    · rename_i vs; exact absurd rfl (hv vs)
    · rw [h1]; rfl
  cases v with
  | tup vs =>
    obtain ⟨xs, h1, h2⟩ := freezeLW_ok true m vs _ h
    rw [asVK_eq] at h2
    exact ⟨_, by simp only [thaw, h1]; rfl, h2⟩
  | _ => exact simple _ (by intro vs hh; cases hh) h

def allDK : List V → (Option (List D) → Prop) → Prop
  | [], K => K (some [])
  | .d x :: r, K => allDK r fun o =>
    match o with
    | some ds => K (some (x :: ds))
    | none => K none
  | _ :: _, K => K none
theorem allDK_eq : ∀ (l : List V) (K : Option (List D) → Prop), allDK l K = K (allD l)
  | [], _ => rfl
  | v :: r, K => by
    cases v with
    | d x => simp only [allDK, allD, allDK_eq r]; cases allD r <;> rfl
    | _ => rfl

def aggK (cs : List V) (K : V → Prop) : Prop := allDK cs fun o =>
  match o with
  | some ds => K (.d (.agg ds))
  | none => K (.agg cs)
theorem aggK_eq (cs : List V) (K : V → Prop) : aggK cs K = K (mkAgg cs) := by
  simp only [aggK, allDK_eq, mkAgg]
  cases allD cs <;> rfl

def cellsW (v : V) (K : List V → Prop) : Prop :=
  match v with
  | .d (.agg cs) => asVK cs K
  | .agg cs => K cs
  | .tup _ => False
  | .skip => False
  | .undef => False
  | v => K [v]
theorem cellsW_ok (v : V) (K : List V → Prop) (h : cellsW v K) : ∃ cs, cellsOf v = some cs ∧ K cs := by
  cases v with
  | d x =>
    cases x with
    | agg cs => simp only [cellsW, asVK_eq] at h; exact ⟨_, rfl, h⟩
    | _ => exact ⟨_, rfl, h⟩
  | tup _ => exact h.elim
  | skip => exact h.elim
  | undef => exact h.elim
  | _ => exact ⟨_, rfl, h⟩

/-- 'xs' laid over 'cs' from 'off' on. -/
def over {α : Type} : List α → Nat → List α → List α
  | cs, 0, [] => cs
  | _ :: cs, 0, x :: xs => x :: over cs 0 xs
  | c :: cs, n + 1, xs => c :: over cs n xs
  | [], _, _ => []
theorem over_zero {α : Type} : ∀ (cs xs : List α), xs.length ≤ cs.length → over cs 0 xs = xs ++ cs.drop xs.length
  | cs, [], _ => by simp [over]
  | [], x :: xs, h => by simp at h
  | c :: cs, x :: xs, h => by
    simp only [over, over_zero cs xs (by simpa using h)]
    simp
theorem over_eq {α : Type} : ∀ (cs : List α) (off : Nat) (xs : List α), off + xs.length ≤ cs.length → over cs off xs = patch cs off xs
  | cs, 0, xs, h => by
    rw [over_zero cs xs (by omega)]
    simp [patch]
  | [], n + 1, xs, h => by simp at h
  | c :: cs, n + 1, xs, h => by
    simp only [over, over_eq cs n xs (by simp at h; omega), patch]
    simp [Nat.add_right_comm]

def overK {α : Type} : List α → Nat → List α → (List α → Prop) → Prop
  | cs, 0, [], K => K cs
  | _ :: cs, 0, x :: xs, K => overK cs 0 xs fun r => K (x :: r)
  | c :: cs, n + 1, xs, K => overK cs n xs fun r => K (c :: r)
  | [], _, _, K => K []
theorem overK_eq {α : Type} : ∀ (cs : List α) (off : Nat) (xs : List α) (K : List α → Prop), overK cs off xs K = K (over cs off xs)
  | cs, 0, [], K => by simp only [overK, over]
  | [], 0, x :: xs, K => by simp only [overK, over]
  | c :: cs, 0, x :: xs, K => by simp only [overK, over, overK_eq cs 0 xs]
  | [], n + 1, xs, K => by simp only [overK, over]
  | c :: cs, n + 1, xs, K => by simp only [overK, over, overK_eq cs n xs]

def fillW (cs : List V) : List (Nat × Nat × V) → (List V → Prop) → Prop
  | [], K => K cs
  | (off, n, v) :: r, K => cellsW v fun xs =>
    match Nat.beq xs.length n with
    | true => (match Nat.ble (off + n) cs.length with
      | true => overK cs off xs fun cs' => fillW cs' r K
      | false => False)
    | false => False
theorem fillW_ok : ∀ (l : List (Nat × Nat × V)) (cs : List V) (K : List V → Prop), fillW cs l K → ∃ cs', fillV cs l = some cs' ∧ K cs'
  | [], cs, K, h => ⟨cs, rfl, h⟩
  | (off, n, v) :: r, cs, K, h => by
    obtain ⟨xs, h1, h2⟩ := cellsW_ok v _ h
    split at h2
    · rename_i e1
      split at h2
      · rename_i e2
        have e1' := Nat.eq_of_beq_eq_true e1
        have e2' := Nat.le_of_ble_eq_true e2
        rw [overK_eq] at h2
        obtain ⟨cs', h3, h4⟩ := fillW_ok r _ K h2
        refine ⟨cs', ?_, h4⟩
        simp only [fillV, h1]
        rw [if_pos ⟨e1', e2'⟩, ← over_eq cs off xs (by omega)]
        exact h3
      · exact h2.elim
    · exact h2.elim

def partsK (e : Env) : List (Nat × Nat × Opd) → (List (Nat × Nat × V) → Prop) → Prop
  | [], K => K []
  | (a, b, x) :: r, K => opK e x fun v => partsK e r fun l => K ((a, b, v) :: l)
theorem partsK_eq (e : Env) : ∀ (l : List (Nat × Nat × Opd)) (K : List (Nat × Nat × V) → Prop), partsK e l K = K (partsV e l)
  | [], _ => rfl
  | (a, b, x) :: r, K => by simp only [partsK, partsV, opK_eq, partsK_eq e r]

def cellsDW (m : Mem) (v : V) (K : List D → Prop) : Prop := freezeW false m v fun d =>
  match d with
  | .agg cs => K cs
  | x => K [x]
theorem cellsDW_ok (m : Mem) (v : V) (K : List D → Prop) (h : cellsDW m v K) : ∃ cs, cellsD m v = some cs ∧ K cs := by
  obtain ⟨d, h1, h2⟩ := freezeW_ok false m v _ h
  unfold cellsD
  rw [h1]
  cases d <;> exact ⟨_, rfl, h2⟩

def listDW (sz : Nat) (m : Mem) : List V → (List D → Prop) → Prop
  | [], K => K []
  | v :: r, K => cellsDW m v fun x => match Nat.beq x.length sz with
    | true => listDW sz m r fun xs => K (x ++ xs)
    | false => False
theorem listDW_ok (sz : Nat) (m : Mem) : ∀ (l : List V) (K : List D → Prop), listDW sz m l K → ∃ ds, listD sz m l = some ds ∧ K ds
  | [], K, h => ⟨[], rfl, h⟩
  | v :: r, K, h => by
    obtain ⟨x, h1, h2⟩ := cellsDW_ok m v _ h
    split at h2
    · rename_i e
      obtain ⟨xs, h3, h4⟩ := listDW_ok sz m r _ h2
      refine ⟨x ++ xs, ?_, h4⟩
      simp only [listD, h1, h3, if_pos (Nat.eq_of_beq_eq_true e)]
    · exact h2.elim

/-! #### Bounds -/

structure Bounds (n : Nat) (l h : Int) (K : Nat → Nat → Prop) : Prop where
  ok : 0 ≤ h ∧ h ≤ n ∧ 0 ≤ l ∧ l ≤ h
  go : K l.toNat h.toNat

def boundsW (n : Nat) (lo hi : Option V) (K : Nat → Nat → Prop) : Prop :=
  match lo, hi with
  | none, none => K 0 n
  | some (.d (.int _ l)), none => Bounds n l n K
  | none, some (.d (.int _ h)) => Bounds n 0 h K
  | some (.d (.int _ l)), some (.d (.int _ h)) => Bounds n l h K
  | _, _ => False

theorem boundsW_ok (n : Nat) (lo hi : Option V) (K : Nat → Nat → Prop) (h : boundsW n lo hi K) : ∃ p, sliceBoundsV n lo hi = some p ∧ K p.1 p.2 := by
  unfold boundsW at h
  split at h
  · refine ⟨(0, n), ?_, h⟩
    simp [sliceBoundsV]
  · rename_i k l
    refine ⟨(l.toNat, (n : Int).toNat), ?_, h.go⟩
    simp only [sliceBoundsV, asI]
    exact if_pos h.ok
  · rename_i k l
    refine ⟨((0 : Int).toNat, l.toNat), ?_, h.go⟩
    simp only [sliceBoundsV, asI]
    exact if_pos h.ok
  · rename_i k l k' l'
    refine ⟨(l.toNat, l'.toNat), ?_, h.go⟩
    simp only [sliceBoundsV, asI]
    exact if_pos h.ok
  · exact h.elim

/-! #### Loading and storing -/

def pickVW (n : Option Nat) (cs : List V) (off : Nat) (K : V → Prop) : Prop :=
  match n with
  | none => PickV cs off K
  | some n => Need (off + n ≤ cs.length) (aggK (win cs off n) K)
theorem pickVW_ok (n : Option Nat) (cs : List V) (off : Nat) (K : V → Prop) (h : pickVW n cs off K) : ∃ v, pickV n cs off = some v ∧ K v := by
  cases n with
  | none => obtain ⟨d, h1, h2⟩ := h.got; exact ⟨d, h1, h2⟩
  | some n => obtain ⟨h1, h2⟩ := h; rw [aggK_eq] at h2; exact ⟨_, if_pos h1, h2⟩

def pickDW (n : Option Nat) (cs : List D) (off : Nat) (K : V → Prop) : Prop :=
  match n with
  | none => Pick cs off fun d => K (.d d)
  | some n => PickW cs off n fun ds => K (.d (.agg ds))
theorem pickDW_ok (n : Option Nat) (cs : List D) (off : Nat) (K : V → Prop) (h : pickDW n cs off K) : ∃ v, pickD n cs off = some v ∧ K v := by
  cases n with
  | none => obtain ⟨d, h1, h2⟩ := h.got; exact ⟨_, by simp only [pickD, h1]; rfl, h2⟩
  | some n => obtain ⟨h1, h2⟩ := h; exact ⟨_, if_pos h1, h2⟩

def loadW (n : Option Nat) (m : Mem) (a : V) (K : V → Prop) : Prop :=
  match a with
  | .lptr cs off => pickDW n cs off K
  | .ptr o off top => lookK m o fun x =>
    match x with
    | some (.cells _ cs) => pickVW n cs off K
    | some (.row _ _ _ l xs) => Need (l = top) (pickDW n xs off K)
    | _ => False
  | _ => False
theorem loadW_ok (n : Option Nat) (m : Mem) (a : V) (K : V → Prop) (h : loadW n m a K) : ∃ v, loadV n m a = some v ∧ K v := by
  unfold loadW at h
  split at h
  · exact pickDW_ok _ _ _ _ h
  · rename_i o off top
    rw [lookK_eq] at h
    simp only [loadV]
    split at h
    · rename_i hl; rw [hl]; exact pickVW_ok _ _ _ _ h
    · rename_i hl; rw [hl]
      obtain ⟨v, h1, h2⟩ := pickDW_ok _ _ _ _ h.go
      exact ⟨v, (if_pos h.need).trans h1, h2⟩
    · exact h.elim
  · exact h.elim

/-- Cells replaced: at a place that is plain, one by one. -/
def storeW (n : Nat) (m : Mem) (a x : V) (K : Mem → Prop) : Prop :=
  match a with
  | .ptr o off top => lookK m o fun y =>
    match y with
    | some (.cells t cs) => cellsW x fun xs => Need (xs.length = n ∧ off + n ≤ cs.length) (overK cs off xs fun cs' => updK m o (.cells t cs') K)
    | some (.row true t sz l xs) => cellsDW m x fun ds => Need (ds.length = n ∧ off + n ≤ xs.length ∧ l = top) (updK m o (.row true t sz l (patch xs off ds)) K)
    | _ => False
  | _ => False
theorem storeW_ok (n : Nat) (m : Mem) (a x : V) (K : Mem → Prop) (h : storeW n m a x K) : ∃ m', storeV n m a x = some m' ∧ K m' := by
  unfold storeW at h
  split at h
  · rename_i o off top
    rw [lookK_eq] at h
    simp only [storeV]
    split at h
    · rename_i hl; rw [hl]
      obtain ⟨xs, h1, h2, h3⟩ := cellsW_ok x _ h
      rw [overK_eq, updK_eq, over_eq _ _ _ (by omega)] at h3
      simp only [h1]
      exact ⟨_, if_pos h2, h3⟩
    · rename_i hl; rw [hl]
      obtain ⟨ds, h1, h2, h3⟩ := cellsDW_ok m x _ h
      rw [updK_eq] at h3
      simp only [h1]
      exact ⟨_, if_pos h2, h3⟩
    · exact h.elim
  · exact h.elim

def sliceW (sz : Nat) (m : Mem) (x : V) (lo hi mx : Option V) (K : V → Prop) : Prop :=
  match x with
  | .d (.list n cs) => boundsW n lo hi fun l h =>
    match mx with
    | none => K (.d (.list (h - l) (win cs (l * sz) ((h - l) * sz))))
    | some _ => Need (hi.isSome ∧ mx.bind asI = hi.bind asI) (K (.d (.list (h - l) (win cs (l * sz) ((h - l) * sz)))))
  | .ref o off len top => lookK m o fun y =>
    match y with
    | some (.row wr _ sz' n xs) => Need (n = top ∧ off + len ≤ n ∧ sz' = sz) (boundsW len lo hi fun l h =>
      match mx with
      | none => (match wr with
        | true => K (.ref o (off + l) (h - l) top)
        | false => K (.d (.list (h - l) (win xs ((off + l) * sz) ((h - l) * sz)))))
      | some _ => False)
    | _ => False
  | _ => False
theorem sliceW_ok (sz : Nat) (m : Mem) (x : V) (lo hi mx : Option V) (K : V → Prop) (h : sliceW sz m x lo hi mx K) : ∃ v, sliceV sz m x lo hi mx = some v ∧ K v := by
  unfold sliceW at h
  split at h
  · obtain ⟨p, h1, h2⟩ := boundsW_ok _ _ _ _ h
    obtain ⟨l, hh⟩ := p
    simp only [sliceV, h1]
    cases mx with
    | none => exact ⟨_, if_pos (Or.inl rfl), h2⟩
    | some y => exact ⟨_, if_pos (Or.inr h2.need), h2.go⟩
  · rename_i o off len top
    rw [lookK_eq] at h
    simp only [sliceV]
    split at h
    · rename_i wr t1 sz1 n1 xs1 hl; rw [hl]
      obtain ⟨h0, h⟩ := h
      obtain ⟨p, h1, h2⟩ := boundsW_ok _ _ _ _ h
      obtain ⟨l, hh⟩ := p
      simp only [if_pos h0, h1]
      cases mx with
      | none =>
        cases wr with
        | true => exact ⟨_, by simp, h2⟩
        | false => exact ⟨_, by simp, h2⟩
      | some y => exact h2.elim
    · exact h.elim
  · exact h.elim

def idxAddrW (sz : Nat) (m : Mem) (x i : V) (K : V → Prop) : Prop :=
  match i with
  | .d (.int _ i) =>
    (match x with
    | .d (.list n cs) => Need (0 ≤ i ∧ i < n) (K (.lptr cs (i.toNat * sz)))
    | .ref o off len top => lookK m o fun y =>
      match y with
      | some (.row _ _ sz' n _) => Need (0 ≤ i ∧ i < len ∧ n = top ∧ off + len ≤ n ∧ sz' = sz) (K (.ptr o ((off + i.toNat) * sz) top))
      | _ => False
    | _ => False)
  | _ => False
theorem idxAddrW_ok (sz : Nat) (m : Mem) (x i : V) (K : V → Prop) (h : idxAddrW sz m x i K) : ∃ v, idxAddrV sz m x i = some v ∧ K v := by
  unfold idxAddrW at h
  split at h
  · split at h
    · exact ⟨_, if_pos h.need, h.go⟩
    · rw [lookK_eq] at h
      split at h
      · rename_i hl; simp only [idxAddrV, asI, hl]; exact ⟨_, if_pos h.need, h.go⟩
      · exact h.elim
    · exact h.elim
  · exact h.elim

def moveW (off : Nat) (m : Mem) (v : V) (K : V → Prop) : Prop :=
  match v with
  | .lptr cs b => K (.lptr cs (b + off))
  | .ptr o b top => lookK m o fun x =>
    match x with
    | some (.cells ..) => K (.ptr o (b + off) top)
    | some (.row _ _ _ n _) => Need (n = top) (K (.ptr o (b + off) top))
    | _ => False
  | _ => False
theorem moveW_ok (off : Nat) (m : Mem) (v : V) (K : V → Prop) (h : moveW off m v K) : ∃ r, moveAddr off m v = some r ∧ K r := by
  unfold moveW at h
  split at h
  · exact ⟨_, rfl, h⟩
  · rw [lookK_eq] at h
    split at h
    · rename_i hl; exact ⟨_, by simp only [moveAddr, sure, hl]; rfl, h⟩
    · rename_i hl; exact ⟨_, by simp only [moveAddr, sure, hl, h.need]; simp, h.go⟩
    · exact h.elim
  · exact h.elim

def partW (n : Option Nat) (x : V) (off : Nat) (K : V → Prop) : Prop :=
  match x with
  | .d (.agg cs) => pickDW n cs off K
  | .agg cs => pickVW n cs off K
  | _ => False
theorem partW_ok (n : Option Nat) (x : V) (off : Nat) (K : V → Prop) (h : partW n x off K) : ∃ r, partV n x off = some r ∧ K r := by
  unfold partW at h
  split at h
  · exact pickDW_ok _ _ _ _ h
  · exact pickVW_ok _ _ _ _ h
  · exact h.elim

def lenW (m : Mem) (k : Kd) (v : V) (K : Nat → Prop) : Prop :=
  match k with
  | .str => (match v with
    | .d (.str s) => K s.length
    | _ => False)
  | .slc => (match v with
    | .d (.list n _) => K n
    | .d .nil => K 0
    | .ref o _ len top => lookK m o fun x =>
      match x with
      | some (.row _ _ _ n _) => Need (n = top) (K len)
      | _ => False
    | _ => False)
  | .map => (match v with
    | .mp o => lookK m o fun x =>
      match x with
      | some (.map es) => K es.length
      | _ => False
    | _ => False)
theorem lenW_ok (m : Mem) (k : Kd) (v : V) (K : Nat → Prop) (h : lenW m k v K) : ∃ n, lenV m k v = some n ∧ K n := by
  unfold lenW at h
  split at h
  · split at h
    · exact ⟨_, rfl, h⟩
    · exact h.elim
  · split at h
    · exact ⟨_, rfl, h⟩
    · exact ⟨_, rfl, h⟩
    · rw [lookK_eq] at h
      split at h
      · rename_i hl; exact ⟨_, by simp only [lenV, hl]; exact if_pos h.need, h.go⟩
      · exact h.elim
    · exact h.elim
  · split at h
    · rw [lookK_eq] at h
      split at h
      · rename_i hl; exact ⟨_, by simp only [lenV, hl], h⟩
      · exact h.elim
    · exact h.elim

def elemsW (m : Mem) (v : V) (K : Nat → List D → Prop) : Prop :=
  match v with
  | .d (.list n cs) => K n cs
  | .d .nil => K 0 []
  | .ref o off len top => lookK m o fun x =>
    match x with
    | some (.row _ _ sz n xs) => Need (n = top ∧ off + len ≤ n) (K len (if off = 0 ∧ len = n then xs else win xs (off * sz) (len * sz)))
    | _ => False
  | _ => False
theorem elemsW_ok (m : Mem) (v : V) (K : Nat → List D → Prop) (h : elemsW m v K) : ∃ p, elemsD m v = some p ∧ K p.1 p.2 := by
  unfold elemsW at h
  split at h
  · exact ⟨_, rfl, h⟩
  · exact ⟨_, rfl, h⟩
  · rw [lookK_eq] at h
    split at h
    · rename_i hl; exact ⟨_, by simp only [elemsD, hl]; exact if_pos h.need, h.go⟩
    · exact h.elim
  · exact h.elim

def appendNW (cx : Cx) (slot : Nat) (r : RowSpec) (m : Mem) (k : Nat) (ds : List D) (s : V) (K : V → Mem → Prop) : Prop :=
  match s with
  | .ref o off len top => lookK m o fun x =>
    match x with
    | some (.row wr t sz n xs) =>
      Need (off = 0 ∧ len = n ∧ n = top ∧ t = r.t ∧ sz = r.sz ∧ ds.length = k * sz ∧ (n + k) * r.by_ ≤ 140737488355328 ∧ n + k ≤ 140737488355328)
        (updK m o (.row wr t sz (n + k) (xs ++ ds)) fun m' => K (.ref o 0 (n + k) (n + k)) m')
    | _ => False
  | .d .nil => Need (k ≠ 0 ∧ ds.length = k * r.sz ∧ k * r.by_ ≤ 140737488355328 ∧ k ≤ 140737488355328) (newK cx slot m fun i => updK m i (.row r.wr r.t r.sz k ds) fun m' => K (.ref i 0 k k) m')
  | _ => False
theorem appendNW_ok (cx : Cx) (slot : Nat) (r : RowSpec) (m : Mem) (k : Nat) (ds : List D) (s : V) (K : V → Mem → Prop) (h : appendNW cx slot r m k ds s K) :
    ∃ p, appendN cx slot r m (some (k, ds)) s = some p ∧ K p.1 p.2 := by
  unfold appendNW at h
  split at h
  · rw [lookK_eq] at h
    split at h
    · rename_i hl
      obtain ⟨⟨h1, h2, h3, h4, h5, h6, h7, h8⟩, h9⟩ := h
      rw [updK_eq] at h9
      refine ⟨(_, _), ?_, h9⟩
      simp only [appendN, hl]
      exact if_pos ⟨h1, h2, h3, h4, h5, h6, by simp [roomy, h7, h8]⟩
    · exact h.elim
  · obtain ⟨⟨h1, h2, h3, h4⟩, h9⟩ := h
    rw [newK_eq, updK_eq] at h9
    refine ⟨(_, _), ?_, h9⟩
    simp only [appendN]
    exact if_pos ⟨h1, h2, by simp [roomy, h3, h4]⟩
  · exact h.elim

/-! #### Integers, truth, strings -/

/-- When are two data equal? -/
def eqB : D → D → (Prop → Prop) → Prop
  | .int k a, .int l b, K => (match decide (k = l) with
    | true => K (a = b)
    | false => False)
  | .bool a, .bool b, K => K (a = b)
  | .str a, .str b, K => K (a = b)
  | _, _, _ => False
def eqBL : List D → List D → (Prop → Prop) → Prop
  | [], [], K => K True
  | [x], [y], K => eqB x y K
  | x :: x2 :: r, y :: y2 :: s, K => eqB x y fun p => eqBL (x2 :: r) (y2 :: s) fun q => K (p ∧ q)
  | _, _, _ => False
theorem eqB_ok (x y : D) (K : Prop → Prop) (h : eqB x y K) : ∃ b p, eqD x y = some b ∧ (b = true ↔ p) ∧ K p := by
  unfold eqB at h
  split at h
  · split at h
    · rename_i a _ b _ e
      exact ⟨decide (a = b), a = b, by simp only [eqD]; exact if_pos (of_decide_eq_true e), by simp, h⟩
    · exact h.elim
  · rename_i a b
    exact ⟨a == b, a = b, rfl, by simp, h⟩
  · rename_i a b
    exact ⟨a == b, a = b, rfl, by simp, h⟩
  · exact h.elim
theorem eqBL_ok : ∀ (xs ys : List D) (K : Prop → Prop), eqBL xs ys K → ∃ b p, eqL xs ys = some b ∧ (b = true ↔ p) ∧ K p
  | [], [], _, h => ⟨true, True, rfl, by simp, h⟩
  | [x], [y], K, h => by
    obtain ⟨a, p, h1, h2, h3⟩ := eqB_ok x y _ h
    exact ⟨a && true, p, by simp only [eqL, h1], by simpa using h2, h3⟩
  | x :: x2 :: r, y :: y2 :: s, K, h => by
    obtain ⟨a, p, h1, h2, h3⟩ := eqB_ok x y _ h
    obtain ⟨b, q, h4, h5, h6⟩ := eqBL_ok (x2 :: r) (y2 :: s) _ h3
    refine ⟨a && b, p ∧ q, ?_, by simp [h2, h5], h6⟩
    rw [eqL, h1, h4]
  | [], _ :: _, _, h => (by simp only [eqBL] at h)
  | _ :: _, [], _, h => (by simp only [eqBL] at h)
  | [_], _ :: _ :: _, _, h => (by simp only [eqBL] at h)
  | _ :: _ :: _, [_], _, h => (by simp only [eqBL] at h)

def eqVW (ks : Option (List KK)) (x y : V) (K : Bool → Prop) : Prop :=
  match ks with
  | none =>
    (match x, y with
    | .d (.bool a), .d (.bool b) => K (a == b)
    | _, _ => False)
  | some ks =>
    (match x, y with
    | .d (.agg a), .d (.agg b) =>
      (match areKeys ks a && areKeys ks b with
      | true => eqBL a b fun p => Cmp p (K true) (K false)
      | false => False)
    | _, _ => False)
theorem eqVW_ok (ks : Option (List KK)) (x y : V) (K : Bool → Prop) (h : eqVW ks x y K) : ∃ b, eqV ks x y = some b ∧ K b := by
  unfold eqVW at h
  split at h
  · split at h
    · exact ⟨_, rfl, h⟩
    · exact h.elim
  · split at h
    · split at h
      · rename_i hk
        obtain ⟨b, p, h1, h2, h3⟩ := eqBL_ok _ _ _ h
        refine ⟨b, by simp only [eqV]; rw [if_pos hk]; exact h1, ?_⟩
        cases b with
        | true => exact h3.yes (h2.1 rfl)
        | false => exact h3.no fun hp => Bool.noConfusion (h2.2 hp)
      · exact h.elim
    · exact h.elim

/-- A comparison's literal. -/
def cmpK (p : Prop) (K : D → Prop) : Prop := Cmp p (K (.bool true)) (K (.bool false))
theorem cmpK_ok {p : Prop} [Decidable p] {K : D → Prop} (h : cmpK p K) : K (.bool (decide p)) := by
  by_cases hp : p
  · have := h.yes hp; simpa [hp] using this
  · have := h.no hp; simpa [hp] using this
def ncmpK (p : Prop) (K : D → Prop) : Prop := Cmp p (K (.bool false)) (K (.bool true))
theorem ncmpK_ok {p : Prop} [Decidable p] {K : D → Prop} (h : ncmpK p K) : K (.bool (!decide p)) := by
  by_cases hp : p
  · have := h.yes hp; simpa [hp] using this
  · have := h.no hp; simpa [hp] using this

def binIntW (op : BinOp) (k : IntKind) (a b : Int) (K : D → Prop) : Prop :=
  match op with
  | .add => Wr k (a + b) fun n => K (.int k n)
  | .sub => Wr k (a - b) fun n => K (.int k n)
  | .mul => Wr k (a * b) fun n => K (.int k n)
  | .quo => Quo k a b fun n => K (.int k n)
  | .rem => Rem a b fun n => K (.int k n)
  | .and => K (.int k (k.wrap ((BitVec.ofInt k.bits a &&& BitVec.ofInt k.bits b).toNat)))
  | .or => K (.int k (k.wrap ((BitVec.ofInt k.bits a ||| BitVec.ofInt k.bits b).toNat)))
  | .xor => K (.int k (k.wrap ((BitVec.ofInt k.bits a ^^^ BitVec.ofInt k.bits b).toNat)))
  | .andNot => K (.int k (k.wrap ((BitVec.ofInt k.bits a &&& ~~~ BitVec.ofInt k.bits b).toNat)))
  | .eql => cmpK (a = b) K
  | .neq => ncmpK (a = b) K
  | .lss => cmpK (a < b) K
  | .leq => cmpK (a ≤ b) K
  | .gtr => cmpK (b < a) K
  | .geq => cmpK (b ≤ a) K
  | _ => False
theorem binIntW_ok (op : BinOp) (k : IntKind) (a b : Int) (K : D → Prop) (h : binIntW op k a b K) : ∃ d, binInt op k a b = some d ∧ K d := by
  cases op <;> simp only [binIntW] at h <;> simp only [binInt]
  all_goals first
    | exact ⟨_, rfl, h.go⟩
    | exact ⟨_, if_neg h.ne, h.go⟩
    | exact ⟨_, rfl, h⟩
    | exact ⟨_, rfl, cmpK_ok h⟩
    | exact ⟨_, rfl, ncmpK_ok h⟩

def binStrW (op : BinOp) (a b : List UInt8) (K : D → Prop) : Prop :=
  match op with
  | .add => Need (a.length + b.length ≤ maxStr) (K (.str (a ++ b)))
  | .eql => cmpK (a = b) K
  | .neq => ncmpK (a = b) K
  | .lss => K (.bool (strLess a b))
  | .leq => K (.bool (strLess a b || a == b))
  | .gtr => K (.bool (!(strLess a b || a == b)))
  | .geq => K (.bool (!strLess a b))
  | _ => False
theorem binStrW_ok (op : BinOp) (a b : List UInt8) (K : D → Prop) (h : binStrW op a b K) : ∃ d, binStr op a b = some d ∧ K d := by
  have hb : (a == b) = decide (a = b) := by by_cases e : a = b <;> simp [e]
  cases op <;> simp only [binStrW] at h <;> simp only [binStr]
  all_goals first
    | exact ⟨_, if_pos h.need, h.go⟩
    | exact ⟨_, rfl, by rw [hb]; exact cmpK_ok h⟩
    | exact ⟨_, rfl, by rw [hb]; exact ncmpK_ok h⟩
    | exact ⟨_, rfl, h⟩

def binW (op : BinOp) (x y : V) (K : D → Prop) : Prop :=
  match x, y with
  | .d (.int k a), .d (.int l b) =>
    (match op with
    | .shl => Need (0 ≤ b) (Wr k (a * 2 ^ (min b.toNat k.bits)) fun n => K (.int k n))
    | .shr => Need (0 ≤ b) (K (.int k (a.fdiv (2 ^ (min b.toNat k.bits)))))
    | _ => (match decide (k = l) with
      | true => binIntW op k a b K
      | false => False))
  | .d (.str a), .d (.str b) => binStrW op a b K
  | _, _ => False
theorem binW_ok (op : BinOp) (x y : V) (K : D → Prop) (h : binW op x y K) : ∃ d, binD op x y = some d ∧ K d := by
  unfold binW at h
  split at h
  · simp only [binD]
    split at h
    · exact ⟨_, if_pos h.need, h.go.go⟩
    · exact ⟨_, if_pos h.need, h.go⟩
    · rename_i n1 n2
      split at h
      · rename_i e
        obtain ⟨d, h1, h2⟩ := binIntW_ok _ _ _ _ _ h
        refine ⟨d, ?_, h2⟩
        cases op <;> first | exact (if_pos (of_decide_eq_true e)).trans h1 | exact absurd rfl n1 | exact absurd rfl n2
      · exact h.elim
  · exact binStrW_ok _ _ _ _ h
  · exact h.elim

def minmaxGo (mx : Bool) (k : IntKind) : Int → List V → (D → Prop) → Prop
  | a, [], K => K (.int k a)
  | a, .d (.int _ b) :: r, K =>
    (match mx with
    | true => minmaxGo mx k (if b > a then b else a) r K
    | false => minmaxGo mx k (if b < a then b else a) r K)
  | _, _ :: _, _ => False
def minmaxW (mx : Bool) (l : List V) (K : D → Prop) : Prop :=
  match l with
  | .d (.int k a) :: r => minmaxGo mx k a r K
  | _ => False
theorem minmaxGo_ok (mx : Bool) (k : IntKind) : ∀ (l : List V) (a : Int) (K : D → Prop), minmaxGo mx k a l K → ∃ d, minmaxD.go mx k a l = some d ∧ K d
  | [], a, K, h => ⟨.int k a, rfl, h⟩
  | v :: r, a, K, h => by
    unfold minmaxGo at h
    split at h
    · rename_i e; cases e
    · rename_i _ _ _ a' b r' K' e
      obtain ⟨rfl, rfl⟩ := (List.cons.injEq ..).mp e
      simp only [minmaxD.go]
      cases mx with
      | true => exact minmaxGo_ok true k r _ _ h
      | false => exact minmaxGo_ok false k r _ _ h
    · exact h.elim
theorem minmaxW_ok (mx : Bool) (l : List V) (K : D → Prop) (h : minmaxW mx l K) : ∃ d, minmaxD mx l = some d ∧ K d := by
  unfold minmaxW at h
  split at h
  · exact minmaxGo_ok mx _ _ _ K h
  · exact h.elim

end Go.Evl

