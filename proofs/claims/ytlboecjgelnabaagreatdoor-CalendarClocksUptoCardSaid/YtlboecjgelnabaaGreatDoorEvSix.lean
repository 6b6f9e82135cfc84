
/-
  Maps, and ranging over a text.
-/
import Derived.Test.YtlboecjgelnabaaGreatDoorEvFive
namespace Go.Evl
open Go.RowKit

section
variable {P : Program} {oc : Codes} {gl : Globs} {s : S} {A : Act} {o : Oper} {e : Env}

/-- A new block, and an object in it. -/
theorem newBlock (hs : Sim oc gl s) (i : Id) (hi : look s.m i = none) (o' : Ob) (p : Value) (obj : Obj) (hp : blk p = some s.w.heap.size)
    (ho : Ext (fun _ => True) s ⟨fun k => if i = k then p else s.φ k, upd s.m i o', s.w.alloc obj, s.Im⟩ → ObR oc ⟨fun k => if i = k then p else s.φ k, upd s.m i o', s.w.alloc obj, s.Im⟩ p o') :
    Sim oc gl ⟨fun k => if i = k then p else s.φ k, upd s.m i o', s.w.alloc obj, s.Im⟩ ∧ Ext (fun _ => True) s ⟨fun k => if i = k then p else s.φ k, upd s.m i o', s.w.alloc obj, s.Im⟩ :=
  hs.change i _ _ _ s.Im rfl rfl rfl (by simp) (fun b hb _ => heap_alloc_old _ _ _ hb) (fun _ _ h => h)
    (fun b j hj => World.cell?_of_block (heap_alloc_old _ _ _ (hs.imlt b j hj))) (fun _ _ h => .inl h) (fun b j h => Nat.lt_of_lt_of_le (hs.imlt b j h) (by simp))
    (fun b h => by rw [hp] at h; obtain rfl := Option.some.inj h; exact .inl (Nat.le_refl _)) (fun o h => by rw [hi] at h; cases h) ho

def isCells : Obj → Bool
  | .cells .. => true
  | _ => false

theorem cell_none {w : World} {b : Nat} {x : Obj} (h : w.heap[b]? = some x) (hx : isCells x = false) (j : Nat) : w.cell? ⟨b, j, none⟩ = none := by
  unfold World.cell?
  simp only [h]
  cases x <;> simp [isCells] at hx <;> rfl

/-- An old block that bears no cells, written whole. -/
theorem putBlock (hs : Sim oc gl s) (i : Id) (o o' : Ob) (hi : look s.m i = some o) (hg : o ≠ .gone) (b : Nat) (p : Value) (hp : s.φ i = p) (hb : blk p = some b) (x obj : Obj) (hx : s.w.heap[b]? = some x) (hxc : isCells x = false) (hoc : isCells obj = false)
    (ht : Turned o o' p p)
    (ho : Ext (fun _ => True) s ⟨fun k => if i = k then p else s.φ k, upd s.m i o', { s.w with heap := s.w.heap.setIfInBounds b obj }, s.Im⟩ →
      ObR oc ⟨fun k => if i = k then p else s.φ k, upd s.m i o', { s.w with heap := s.w.heap.setIfInBounds b obj }, s.Im⟩ p o') :
    Sim oc gl ⟨fun k => if i = k then p else s.φ k, upd s.m i o', { s.w with heap := s.w.heap.setIfInBounds b obj }, s.Im⟩ ∧
    Ext (fun _ => True) s ⟨fun k => if i = k then p else s.φ k, upd s.m i o', { s.w with heap := s.w.heap.setIfInBounds b obj }, s.Im⟩ := by
  have hlt : b < s.w.heap.size := (Array.getElem?_eq_some_iff.1 hx).1
  have hoth : ∀ c, c ≠ b → (s.w.heap.setIfInBounds b obj)[c]? = s.w.heap[c]? := fun c h => by simp [Ne.symm h]
  have hnew : (s.w.heap.setIfInBounds b obj)[b]? = some obj := by simp [hlt]
  refine hs.change i o' p _ s.Im rfl rfl rfl (by simp) (fun c hc hne => hoth c fun e => ?_) (fun _ _ h => h) (fun c j hj => ?_) (fun _ _ h => .inl h) (fun c j h => by simpa using hs.imlt c j h)
    (fun c h => .inr ⟨⟨o, hi, hg⟩, by rw [hp]; exact h⟩) (fun o2 h => ?_) ho
  · subst e; exact hne ⟨o, hi, hg⟩ (by rw [hp]; exact hb)
  · by_cases e : c = b
    · subst e
      rw [cell_none (w := { s.w with heap := s.w.heap.setIfInBounds c obj }) hnew hoc j, cell_none hx hxc j]
    · exact World.cell?_of_block (hoth c e)
  · rw [hi] at h; obtain rfl := Option.some.inj h; rw [hp]; exact ht

/-! ### Maps -/

def okMkMap (o : Oper) : Bool :=
  match o.op with
  | .makeMap _ none => true
  | _ => false

theorem sound_mkMap (hs : Sim oc gl s) (cx : Cx) (slot : Nat) (ok : okMkMap o = true) : Gives P oc gl s A o (.mp (newId cx slot s.m)) (upd s.m (newId cx slot s.m) (.map [])) := by
  unfold okMkMap at ok
  split at ok <;> try cases ok
  rename_i t ho
  obtain ⟨k1, k2⟩ := newBlock hs (newId cx slot s.m) (newId_fresh _ _ _) (.map []) (.map (some s.w.heap.size)) (.map #[] 0) rfl
    (fun _ => ⟨s.w.heap.size, #[], 0, rfl, heap_alloc_new _ _, rfl⟩)
  refine ⟨_, .map (some s.w.heap.size), ?_, k1, k2, rfl, ?_⟩
  · simp [execOp, ho, Instr.makeMap, run_newObj]
  · refine ⟨rfl, ?_⟩
    show MpR _ _ (look (upd s.m (newId cx slot s.m) (.map [])) _)
    rw [look_upd_same]
    simp [MpR]

def kkP (P : Program) (t : TypeId) (kk : KK) : Bool :=
  match P.underlying t, kk with
  | some (.int _), .int => true
  | some .string, .str => true
  | some .bool, .bool => true
  | _, _ => false

def mapP (P : Program) (t : TypeId) : Option (TypeId × TypeId) :=
  match P.underlying t with
  | some (.map k v) => some (k, v)
  | _ => none
theorem mapP_eq {t : TypeId} {r : TypeId × TypeId} (h : mapP P t = some r) : P.underlying t = some (.map r.1 r.2) := by
  unfold mapP at h
  split at h
  · rename_i hu; obtain rfl := Option.some.inj h; exact hu
  · cases h

theorem kkP_desc {t : TypeId} {kk : KK} (h : kkP P t kk = true) : ∃ d, P.underlying t = some d ∧
    (∀ (w : World) (em : Bool) (n : Nat) (v : Value), (Instr.checkKey em (n + 1) t v).run P w = .ok () w) ∧
    (∀ (w : World) (Im : Nat → Nat → Prop) (x y : D) (v u : Value) (r : Bool), isKey kk x = true → DR w Im x v → DR w Im y u → eqD x y = some r → Instr.sameNow d v u = some r ∧ (r = true → v = u ∧ x = y)) := by
  unfold kkP at h
  split at h <;> try cases h
  · rename_i k hu
    refine ⟨_, hu, fun w em n v => by simp [Instr.checkKey, run_underlying hu], fun w Im x y v u r hx hv hu he => ?_⟩
    · cases x <;> simp [isKey] at hx
      cases y <;> simp [eqD] at he
      obtain rfl := hv
      obtain rfl := hu
      obtain ⟨rfl, rfl⟩ := he
      refine ⟨by simp [Instr.sameNow]; rfl, fun h => ?_⟩
      simp at h; subst h; exact ⟨rfl, rfl⟩
  · rename_i hu
    refine ⟨_, hu, fun w em n v => by simp [Instr.checkKey, run_underlying hu], fun w Im x y v u r hx hv hu he => ?_⟩
    · cases x <;> simp [isKey] at hx
      cases y <;> simp [eqD] at he
      obtain rfl := hv
      obtain rfl := hu
      subst he
      refine ⟨by simp [Instr.sameNow, beq_toListBytes, ByteArray.toList_eq], fun h => ?_⟩
      simp at h; subst h; exact ⟨rfl, rfl⟩
  · rename_i hu
    refine ⟨_, hu, fun w em n v => by simp [Instr.checkKey, run_underlying hu], fun w Im x y v u r hx hv hu he => ?_⟩
    · cases x <;> simp [isKey] at hx
      cases y <;> simp [eqD] at he
      obtain rfl := hv
      obtain rfl := hu
      subst he
      refine ⟨by simp [Instr.sameNow], fun h => ?_⟩
      simp at h; subst h; exact ⟨rfl, rfl⟩

theorem isKey_KeyD {kk : KK} {x : D} (h : isKey kk x = true) : KeyD x := by
  cases kk <;> cases x <;> simp [isKey] at h <;> trivial

theorem findE_ok {kk : KK} {d : TypeDesc} {x : D} {v : Value} (hx : isKey kk x = true) (hv : DR s.w s.Im x v)
    (hd : ∀ (w : World) (Im : Nat → Nat → Prop) (x y : D) (v u : Value) (r : Bool), isKey kk x = true → DR w Im x v → DR w Im y u → eqD x y = some r → Instr.sameNow d v u = some r ∧ (r = true → v = u ∧ x = y)) :
    ∀ (es : List (D × V)) (q : List MapEntry) (i : Nat) (r : Option V), MapR s es q → findE x es = some r →
      (r = none ∧ Instr.findNow d v q i = some none) ∨ (∃ y j u, r = some y ∧ Instr.findNow d v q i = some (some (j, u)) ∧ VR s y u)
  | [], _, i, r, hm, h => by
    obtain rfl := hm
    simp [findE] at h; subst h
    exact .inl ⟨rfl, rfl⟩
  | (k, y) :: es, _, i, r, hm, h => by
    obtain ⟨en, q, rfl, _, hk, hy, hrest⟩ := hm
    simp only [findE] at h
    split at h
    · rename_i he
      obtain rfl := Option.some.inj h
      have := (hd _ _ x k v en.key true hx hv hk he).1
      exact .inr ⟨y, i, en.val, rfl, by simp [Instr.findNow, this], hy⟩
    · rename_i he
      have := (hd _ _ x k v en.key false hx hv hk he).1
      simp only [Instr.findNow, this]
      exact findE_ok hx hv hd es q (i + 1) r hrest h
    · cases h

def okLookup (P : Program) (gl : Globs) (o : Oper) (kk : KK) (zero : D) (ok : Bool) (x key : Opd) : Bool :=
  match o.op with
  | .lookup t a b c => c == ok && okX gl a x && okX gl b key &&
    (match mapP P t with
    | some (k, v) => kkP P k kk && (match (P.info? v).bind (·.zero) with | some z => constD zero z | none => false)
    | none => false)
  | _ => false

theorem sound_lookup (hs : Sim oc gl s) (he : EnvR s e A.tmps) {kk : KK} {zero : D} {c : Bool} {x key : Opd} {v : V} (ok : okLookup P gl o kk zero c x key = true) (h : lookupV kk zero c s.m (x.ev e) (key.ev e) = some v) : Gives P oc gl s A o v s.m := by
  unfold okLookup at ok
  split at ok <;> try cases ok
  rename_i t a b c' ho
  simp only [Bool.and_eq_true, beq_iff_eq] at ok
  obtain ⟨⟨⟨rfl, okx⟩, okk⟩, hty⟩ := ok
  split at hty <;> try cases hty
  rename_i kt vt hmt
  simp only [Bool.and_eq_true] at hty
  obtain ⟨hkk, hz⟩ := hty
  split at hz <;> try cases hz
  rename_i z hzz
  have hu := mapP_eq hmt
  obtain ⟨d, hd, hck, hsame⟩ := kkP_desc hkk
  have h1 := okX_ok hs he okx
  have h2 := okX_ok hs he okk
  generalize x.ev e = vx at h1 h
  generalize key.ev e = vk at h2 h
  obtain ⟨info, hinfo, hiz⟩ : ∃ i, P.info? vt = some i ∧ i.zero = some z := by
    simpa only [Option.bind_eq_some_iff] using hzz
  have hzr : ∀ w, (zeroValue vt).run P w = .ok z w := fun w => by simp [zeroValue, typeInfo, hinfo, hiz]
  have hzd : DR s.w s.Im zero z := constD_ok _ _ _ _ hz
  unfold lookupV at h
  split at h <;> try cases h
  rename_i kd
  split at h <;> try cases h
  rename_i hkey
  have fin : ∀ (q : List MapEntry) (es : List (D × V)) (r : Option V), MapR s es q → findE kd es = some r →
      ((Instr.findKey kt (A.eval b) q).run P s.w = .ok none s.w ∧ r = none) ∨ (∃ j u y, (Instr.findKey kt (A.eval b) q).run P s.w = .ok (some (j, u)) s.w ∧ r = some y ∧ VR s y u) := by
    intro q es r hm hf
    rcases findE_ok hkey h2 hsame es q 0 r hm hf with ⟨rfl, hfn⟩ | ⟨y, j, u, rfl, hfn, hvu⟩
    · exact .inl ⟨MapKept.run_findKey (P := P) (w := s.w) hd hfn, rfl⟩
    · exact .inr ⟨j, u, y, MapKept.run_findKey (P := P) (w := s.w) hd hfn, rfl, hvu⟩
  have vnone : VR s (outV zero c' none) (if c' then Value.tuple #[z, .bool false] else z) := by
    cases c'
    · simpa [outV, VR] using hzd
    · exact ⟨_, rfl, z, _, rfl, hzd, .bool false, [], rfl, rfl, rfl⟩
  have vsome : ∀ y u, VR s y u → VR s (outV zero c' (some y)) (if c' then Value.tuple #[u, .bool true] else u) := by
    intro y u hvu
    cases c'
    · simpa [outV] using hvu
    · exact ⟨_, rfl, u, _, rfl, hvu, .bool true, [], rfl, rfl, rfl⟩
  split at h
  · rename_i i
    split at h <;> try cases h
    rename_i es hl
    simp only [Option.map_eq_some_iff] at h
    obtain ⟨r, hf, rfl⟩ := h
    obtain ⟨bm, ces, clock, hp, hh, hm⟩ := hs.objs i _ hl
    have hx : A.eval a = .map (some bm) := by
      have := h1.2
      rw [hl] at this
      exact this.trans hp
    rcases fin ces.toList es r hm hf with ⟨hr, rfl⟩ | ⟨j, u, y, hr, rfl, hv⟩
    · exact gives_same hs (by simp [execOp, ho, Instr.lookup, run_underlying hu, hx, MapKept.run_getObj_map hh, hck, hr, hzr]) vnone
    · exact gives_same hs (by simp [execOp, ho, Instr.lookup, run_underlying hu, hx, MapKept.run_getObj_map hh, hck, hr]) (vsome y u hv)
  · obtain rfl := Option.some.inj h
    have hx : A.eval a = .map none := h1
    rcases fin [] [] none rfl rfl with ⟨hr, _⟩ | ⟨j, u, y, _, hc, _⟩
    · exact gives_same hs (by simp [execOp, ho, Instr.lookup, run_underlying hu, hx, hck, hr, hzr]) vnone
    · cases hc
  · cases h

theorem setE_ok {kk : KK} {d : TypeDesc} {x : D} {v : Value} (hx : isKey kk x = true) (hv : DR s.w s.Im x v)
    (hd : ∀ (w : World) (Im : Nat → Nat → Prop) (x y : D) (v u : Value) (r : Bool), isKey kk x = true → DR w Im x v → DR w Im y u → eqD x y = some r → Instr.sameNow d v u = some r ∧ (r = true → v = u ∧ x = y)) (y : V) (u : Value) (hy : VR s y u) :
    ∀ (es : List (D × V)) (q : List MapEntry) (i : Nat) (es' : List (D × V)), MapR s es q → setE x y es = some es' →
      (Instr.findNow d v q i = some none ∧ ∀ born, MapR s es' (q ++ [{ key := v, val := u, born }])) ∨
      (∃ j old, Instr.findNow d v q i = some (some (i + j, old)) ∧ (q[j]?).map (·.key) = some v ∧ MapR s es' (q.modify j fun e => { e with key := v, val := u }))
  | [], _, i, es', hm, h => by
    obtain rfl := hm
    simp [setE] at h; subst h
    exact .inl ⟨rfl, fun born => ⟨_, [], rfl, isKey_KeyD hx, hv, hy, rfl⟩⟩
  | (k, z) :: es, _, i, es', hm, h => by
    obtain ⟨en, q, rfl, hkd, hk, hz, hrest⟩ := hm
    simp only [setE] at h
    split at h
    · rename_i he
      obtain rfl := Option.some.inj h
      obtain ⟨h1, h2⟩ := hd _ _ x k v en.key true hx hv hk he
      obtain ⟨h3, rfl⟩ := h2 rfl
      refine .inr ⟨0, en.val, by simp [Instr.findNow, h1], by simp [h3], ?_⟩
      exact ⟨_, q, rfl, hkd, hv, hy, hrest⟩
    · rename_i he
      simp only [Option.map_eq_some_iff] at h
      obtain ⟨es2, h2, rfl⟩ := h
      have h1 := (hd _ _ x k v en.key false hx hv hk he).1
      simp only [Instr.findNow, h1]
      rcases setE_ok hx hv hd y u hy es q (i + 1) es2 hrest h2 with ⟨k1, k2⟩ | ⟨j, old, k1, k2, k3⟩
      · exact .inl ⟨k1, fun born => ⟨en, _, rfl, hkd, hk, hz, k2 born⟩⟩
      · refine .inr ⟨j + 1, old, by rw [k1]; congr 3; omega, by simpa using k2, ?_⟩
        exact ⟨en, _, rfl, hkd, hk, hz, k3⟩
    · cases h

theorem sameBits_key {kk : KK} {w : World} {Im : Nat → Nat → Prop} {x : D} {v : Value} (h : isKey kk x = true) (hv : DR w Im x v) (n : Nat) : Instr.sameBits n v v = true := by
  cases kk <;> cases x <;> simp [isKey] at h <;> obtain rfl := hv <;> simp [Instr.sameBits, beq_toListBytes]

def okMapSet (P : Program) (gl : Globs) (o : Oper) (kk : KK) (x key y : Opd) : Bool :=
  match o.op with
  | .mapUpdate t a b c => okX gl a x && okX gl b key && okX gl c y && (match mapP P t with | some (k, _) => kkP P k kk | none => false)
  | .insert t a b c => okX gl a x && okX gl b key && okX gl c y && (match mapP P t with | some (k, _) => kkP P k kk | none => false)
  | _ => false

theorem sound_mapSet (hs : Sim oc gl s) (he : EnvR s e A.tmps) {kk : KK} {x key y : Opd} {m' : Mem} (ok : okMapSet P gl o kk x key y = true) (h : mapSetV kk s.m (x.ev e) (key.ev e) (y.ev e) = some m') : GivesU P oc gl s A o m' := by
  obtain ⟨t, a, b, c, hex, okx, okk, oky, hty⟩ : ∃ t a b c, execOp A.eval o = (do Instr.mapUpdate t (A.eval a) (A.eval b) (A.eval c); pure .skip) ∧ okX gl a x = true ∧ okX gl b key = true ∧ okX gl c y = true ∧
      (match mapP P t with | some (k, _) => kkP P k kk | none => false) = true := by
    unfold okMapSet at ok
    split at ok <;> try cases ok
    · rename_i t a b c ho
      simp only [Bool.and_eq_true] at ok
      exact ⟨t, a, b, c, by simp only [execOp, ho], ok.1.1.1, ok.1.1.2, ok.1.2, ok.2⟩
    · rename_i t a b c ho
      simp only [Bool.and_eq_true] at ok
      exact ⟨t, a, b, c, by simp only [execOp, ho], ok.1.1.1, ok.1.1.2, ok.1.2, ok.2⟩
  split at hty <;> try cases hty
  rename_i kt vt hmt
  have hu := mapP_eq hmt
  obtain ⟨d, hd, hck, hsame⟩ := kkP_desc hty
  have h1 := okX_ok hs he okx
  have h2 := okX_ok hs he okk
  have h3 := okX_ok hs he oky
  generalize x.ev e = vx at h1 h
  generalize key.ev e = vk at h2 h
  generalize y.ev e = vy at h3 h
  unfold mapSetV at h
  split at h <;> try cases h
  rename_i i kd
  split at h <;> try cases h
  rename_i es hl
  split at h <;> try cases h
  rename_i hkey
  simp only [Bool.and_eq_true] at hkey
  simp only [Option.map_eq_some_iff] at h
  obtain ⟨es', hset, rfl⟩ := h
  obtain ⟨bm, ces, clock, hp, hh, hm⟩ := hs.objs i _ hl
  have hx : A.eval a = .map (some bm) := by
    have := h1.2
    rw [hl] at this
    exact this.trans hp
  have done : ∀ (ces' : Array MapEntry) (clock' : Nat), MapR s es' ces'.toList → (Instr.mapUpdate t (A.eval a) (A.eval b) (A.eval c)).run P s.w = .ok () { s.w with heap := s.w.heap.setIfInBounds bm (.map ces' clock') } → GivesU P oc gl s A o (upd s.m i (.map es')) := by
    intro ces' clock' hm' hr
    have hlt : bm < s.w.heap.size := (Array.getElem?_eq_some_iff.1 hh).1
    obtain ⟨k1, k2⟩ := putBlock hs i (.map es) (.map es') hl (by simp) bm (.map (some bm)) hp rfl _ (.map ces' clock') hh rfl rfl rfl
      (fun hE => ⟨bm, ces', clock', rfl, by simp [hlt], MapR.ext hE es' _ hm'⟩)
    exact ⟨_, by rw [hex]; simp [hr], k1, k2, rfl⟩
  rcases setE_ok hkey.1 h2 hsame vy _ h3 es ces.toList 0 es' hm hset with ⟨k1, k2⟩ | ⟨j, old, k1, k2, k3⟩
  · refine done (ces.push { key := A.eval b, val := A.eval c, born := clock }) (clock + 1) (by simpa using k2 clock) ?_
    have hfk := MapKept.run_findKey (P := P) (w := s.w) hd k1
    simp [Instr.mapUpdate, run_underlying hu, hx, MapKept.run_getObj_map hh, hck, hfk, MapKept.run_setObj_map _ hh]
  · refine done (ces.modify j fun e => { e with key := A.eval b, val := A.eval c }) clock (by simpa using k3) ?_
    have hfk := MapKept.run_findKey (P := P) (w := s.w) hd k1
    rw [Nat.zero_add] at hfk
    have hold : ((ces[j]?).map (·.key)).getD (A.eval b) = A.eval b := by
      rw [← Array.getElem?_toList, k2]; rfl
    simp [Instr.mapUpdate, run_underlying hu, hx, MapKept.run_getObj_map hh, hck, hfk, Instr.keyThatStays, hold, sameBits_key hkey.1 h2, MapKept.run_setObj_map _ hh]

/-! ### Ranging over a text -/

def strP (P : Program) (t : TypeId) : Bool := match P.underlying t with | some .string => true | _ => false
theorem strP_eq {t : TypeId} (h : strP P t = true) : P.underlying t = some .string := by
  unfold strP at h; split at h <;> first | assumption | cases h

def okRange (P : Program) (gl : Globs) (o : Oper) (x : Opd) : Bool :=
  match o.op with
  | .range t a => okX gl a x && strP P t
  | _ => false

theorem sound_range (hs : Sim oc gl s) (he : EnvR s e A.tmps) (cx : Cx) (slot : Nat) {x : Opd} {str : List UInt8} (ok : okRange P gl o x = true) (hx : x.ev e = .d (.str str)) :
    Gives P oc gl s A o (.it (newId cx slot s.m)) (upd s.m (newId cx slot s.m) (.iter str 0)) := by
  unfold okRange at ok
  split at ok <;> try cases ok
  rename_i t a ho
  simp only [Bool.and_eq_true] at ok
  have h1 := okX_ok hs he ok.1
  rw [hx] at h1
  have h1 : A.eval a = .string ⟨str.toArray⟩ := h1
  have hu := strP_eq ok.2
  obtain ⟨k1, k2⟩ := newBlock hs (newId cx slot s.m) (newId_fresh _ _ _) (.iter str 0) (.pointer (some ⟨s.w.heap.size, 0, none⟩)) (.stringIter ⟨str.toArray⟩ 0) rfl
    (fun _ => ⟨s.w.heap.size, rfl, heap_alloc_new _ _⟩)
  refine ⟨_, .pointer (some ⟨s.w.heap.size, 0, none⟩), ?_, k1, k2, rfl, rfl, ?_⟩
  · simp [execOp, ho, h1, run_range_string _ _ _ hu, World.iter]
  · show ItR _ _ (look (upd s.m (newId cx slot s.m) (.iter str 0)) _)
    rw [look_upd_same]
    simp [ItR]

def okNext (gl : Globs) (o : Oper) (x : Opd) : Bool :=
  match o.op with
  | .next a b => b && okX gl a x
  | _ => false

theorem sound_next (hs : Sim oc gl s) (he : EnvR s e A.tmps) {x : Opd} {v : V} {m' : Mem} (ok : okNext gl o x = true) (h : nextV s.m (x.ev e) = some (v, m')) : Gives P oc gl s A o v m' := by
  unfold okNext at ok
  split at ok <;> try cases ok
  rename_i a b ho
  simp only [Bool.and_eq_true] at ok
  obtain ⟨rfl, okx⟩ := ok
  have h1 := okX_ok hs he okx
  generalize x.ev e = vx at h1 h
  unfold nextV at h
  split at h <;> try cases h
  rename_i i
  split at h <;> try cases h
  rename_i str pos hl
  obtain ⟨b, hp, hh⟩ := hs.objs i _ hl
  have hx : A.eval a = .pointer (some ⟨b, 0, none⟩) := by
    have := h1.2
    rw [hl] at this
    exact this.trans hp
  have hsz : (ByteArray.mk str.toArray).size = str.length := by simp [ByteArray.size]
  split at h
  · rename_i hlt
    simp only [Option.some.injEq, Prod.mk.injEq] at h
    obtain ⟨rfl, rfl⟩ := h
    have hlt2 : b < s.w.heap.size := (Array.getElem?_eq_some_iff.1 hh).1
    obtain ⟨k1, k2⟩ := putBlock hs i (.iter str pos) (.iter str (pos + (Utf8.decode ⟨str.toArray⟩ pos).2)) hl (by simp) b _ hp rfl _ (.stringIter ⟨str.toArray⟩ (pos + (Utf8.decode ⟨str.toArray⟩ pos).2)) hh rfl rfl rfl
      (fun hE => ⟨b, rfl, by simp [hlt2]⟩)
    refine ⟨_, .tuple #[.bool true, .int .i64 pos, .int .i32 (Utf8.decode ⟨str.toArray⟩ pos).1], ?_, k1, k2, rfl, ?_⟩
    · simp [execOp, ho, hx, Instr.next, getObj, setObj, Sem.run, hh, hsz, hlt, goInt]
    · exact ⟨_, rfl, .bool true, _, rfl, rfl, _, _, rfl, rfl, _, [], rfl, rfl, rfl⟩
  · rename_i hlt
    simp only [Option.some.injEq, Prod.mk.injEq] at h
    obtain ⟨rfl, rfl⟩ := h
    refine gives_same hs (x := .tuple #[.bool false]) ?_ ⟨_, rfl, .bool false, [], rfl, rfl, rfl⟩
    simp [execOp, ho, hx, Instr.next, getObj, Sem.run, hh, hsz, hlt]

end
end Go.Evl

