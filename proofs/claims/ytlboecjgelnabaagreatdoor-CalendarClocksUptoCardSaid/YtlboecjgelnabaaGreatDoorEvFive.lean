
/-
  Equality of structs and arrays; maps; ranging over a text.
-/
import Derived.Test.YtlboecjgelnabaaGreatDoorEvFour
import Derived.Laws.StructEq
import Derived.ChangeKeysEq
import Derived.MapKept
import Derived.Laws.RangeAny
namespace Go.Evl
open Go.RowKit

section
variable {P : Program} {oc : Codes} {gl : Globs} {s : S} {A : Act} {o : Oper} {e : Env}

/-! ### Equality -/

def kindsFs (P : Program) (kinds : TypeId → Option (List KK)) : Nat → List Field → Option (List KK)
  | _, [] => some []
  | off, f :: r =>
    if f.offset = off ∧ f.name ≠ "_" then
      match kinds f.type with
      | some ks => if sizeP P f.type = some ks.length then (kindsFs P kinds (off + ks.length) r).map (ks ++ ·) else none
      | none => none
    else none

def kindsP (P : Program) : Nat → TypeId → Option (List KK)
  | 0, _ => none
  | n + 1, t =>
    match P.underlying t with
    | some (.int _) => some [.int]
    | some .string => some [.str]
    | some .bool => some [.bool]
    | some (.struct fs) => if P.stoodInHeld t then none else kindsFs P (kindsP P n) 0 fs.toList
    | some (.array len el) =>
      match kindsP P n el with
      | some ks => if sizeP P el = some ks.length then some (List.replicate len ks).flatten else none
      | none => none
    | _ => none

/-- The value that cells make at a type. -/
def shape (P : Program) (t : TypeId) (xs : List Value) : Value := if aggP P t = some true then .agg xs.toArray else xs.headD undef

theorem areKeys_length : ∀ (ks : List KK) (ds : List D), areKeys ks ds = true → ds.length = ks.length
  | [], [], _ => rfl
  | [], _ :: _, h => by simp [areKeys] at h
  | _ :: _, [], h => by simp [areKeys] at h
  | _ :: r, _ :: q, h => by simp only [areKeys, Bool.and_eq_true] at h; simp [areKeys_length r q h.2]

theorem areKeys_split : ∀ (k1 k2 : List KK) (ds : List D), areKeys (k1 ++ k2) ds = true → areKeys k1 (ds.take k1.length) = true ∧ areKeys k2 (ds.drop k1.length) = true
  | [], _, _, h => ⟨rfl, h⟩
  | _ :: _, _, [], h => by simp [areKeys] at h
  | _ :: r, k2, _ :: q, h => by
    simp only [List.cons_append, areKeys, Bool.and_eq_true] at h
    obtain ⟨h1, h2⟩ := areKeys_split r k2 q h.2
    exact ⟨by simp [areKeys, h.1, h1], by simpa using h2⟩

theorem eqL_split : ∀ (n : Nat) (a b : List D) (r : Bool), n ≤ a.length → n ≤ b.length → eqL a b = some r → ∃ r1 r2, eqL (a.take n) (b.take n) = some r1 ∧ eqL (a.drop n) (b.drop n) = some r2 ∧ r = (r1 && r2)
  | 0, a, b, r, _, _, h => ⟨true, r, by simp [eqL], by simpa using h, by simp⟩
  | n + 1, [], b, r, h1, _, _ => by simp at h1
  | n + 1, _ :: _, [], r, _, h2, _ => by simp at h2
  | n + 1, x :: a, y :: b, r, h1, h2, h => by
    simp only [eqL] at h
    split at h
    · rename_i p q hp hq
      obtain rfl := Option.some.inj h
      obtain ⟨r1, r2, k1, k2, rfl⟩ := eqL_split n a b q (by simpa using h1) (by simpa using h2) hq
      refine ⟨p && r1, r2, ?_, ?_, by simp [Bool.and_assoc]⟩
      · simp [eqL, hp, k1]
      · simpa using k2
    · cases h

theorem kinds_agg {n : Nat} {t : TypeId} {ks : List KK} (h : kindsP P n t = some ks) : aggP P t = some true ∨ (aggP P t = some false ∧ ks.length = 1) := by
  cases n with
  | zero => simp [kindsP] at h
  | succ n =>
    simp only [kindsP] at h
    split at h <;> rename_i hu <;> simp only [aggP, hu, Option.map_some]
    · obtain rfl := Option.some.inj h; simp
    · obtain rfl := Option.some.inj h; simp
    · obtain rfl := Option.some.inj h; simp
    · simp
    · simp
    · cases h

theorem part_shape {n : Nat} {t : TypeId} {ks : List KK} (h : kindsP P n t = some ks) (hz : sizeP P t = some ks.length) (xs : Array Value) (off : Nat) (hl : off + ks.length ≤ xs.size) (w : World) :
    (part t xs off).run P w = .ok (shape P t (win xs.toList off ks.length)) w := by
  rcases kinds_agg h with ha | ⟨ha, h1⟩
  · refine run_part (n := some ks.length) (by simp [cellP, ha, hz]) ?_ w
    simp [readN, hl, shape, ha]
  · refine run_part (n := none) (by simp [cellP, ha]) ?_ w
    have hlt : off < xs.size := by omega
    simp [readN, shape, ha, win, h1, hlt, List.headD_eq_head?_getD, List.head?_take, List.head?_drop]

theorem leaf_eq {w : World} {Im : Nat → Nat → Prop} {kk : KK} {x y : D} {vx vy : Value} {t : TypeId} {r : Bool} (d : Nat) (hx : DR w Im x vx) (hy : DR w Im y vy) (kx : isKey kk x = true) (ky : isKey kk y = true) (h : eqD x y = some r)
    (ht : (∃ k, P.underlying t = some (.int k) ∧ kk = .int) ∨ (P.underlying t = some .string ∧ kk = .str) ∨ (P.underlying t = some .bool ∧ kk = .bool)) (w' : World) : (Op.equalIn (d + 1) t vx vy).run P w' = .ok r w' := by
  rcases ht with ⟨k, hu, rfl⟩ | ⟨hu, rfl⟩ | ⟨hu, rfl⟩
  · cases x <;> simp [isKey] at kx
    cases y <;> simp [isKey] at ky
    obtain rfl := hx
    obtain rfl := hy
    simp only [eqD] at h
    split at h
    · rename_i e; subst e
      obtain rfl := Option.some.inj h
      rw [run_equalIn_int w' d t _ k _ _ hu]
      rfl
    · cases h
  · cases x <;> simp [isKey] at kx
    cases y <;> simp [isKey] at ky
    obtain rfl := hx
    obtain rfl := hy
    simp only [eqD, Option.some.injEq] at h
    subst h
    rw [run_equalIn_string w' d t _ _ hu]
    simp [ByteArray.toList_eq]
  · cases x <;> simp [isKey] at kx
    cases y <;> simp [isKey] at ky
    obtain rfl := hx
    obtain rfl := hy
    simp only [eqD, Option.some.injEq] at h
    subst h
    rw [run_equalIn_bool' w' d t _ _ hu]

theorem eqFields_ok {kinds : TypeId → Option (List KK)} {w : World} {Im : Nat → Nat → Prop} (d : Nat) (w' : World)
    (hpart : ∀ t ks, kinds t = some ks → sizeP P t = some ks.length → ∀ (xs : Array Value) off, off + ks.length ≤ xs.size → (part t xs off).run P w' = .ok (shape P t (win xs.toList off ks.length)) w')
    (ih : ∀ t ks, kinds t = some ks → ∀ a b xs ys r, DRs w Im a xs → DRs w Im b ys → areKeys ks a = true → areKeys ks b = true → eqL a b = some r → (Op.equalIn d t (shape P t xs) (shape P t ys)).run P w' = .ok r w')
    (X Y : Array Value) : ∀ (fs : List Field) (off : Nat) (ks : List KK) (a b : List D) (r : Bool), kindsFs P kinds off fs = some ks → off + ks.length ≤ X.size → off + ks.length ≤ Y.size →
      DRs w Im a (win X.toList off ks.length) → DRs w Im b (win Y.toList off ks.length) → areKeys ks a = true → areKeys ks b = true → eqL a b = some r → (Op.eqFields d X Y fs).run P w' = .ok r w'
  | [], off, ks, a, b, r, h, _, _, _, _, ka, kb, he => by
    simp only [kindsFs, Option.some.injEq] at h
    subst h
    cases a <;> simp [areKeys] at ka
    cases b <;> simp [areKeys] at kb
    simp only [eqL, Option.some.injEq] at he
    subst he
    simp [Op.eqFields]
  | f :: fs, off, ks, a, b, r, h, hX, hY, ha, hb, ka, kb, he => by
    simp only [kindsFs] at h
    split at h
    · rename_i hf
      obtain ⟨hoff, hname⟩ := hf
      split at h
      · rename_i k1 hk
        split at h
        · rename_i hz
          simp only [Option.map_eq_some_iff] at h
          obtain ⟨k2, h2, rfl⟩ := h
          simp only [List.length_append] at hX hY ha hb
          obtain ⟨ka1, ka2⟩ := areKeys_split k1 k2 a ka
          obtain ⟨kb1, kb2⟩ := areKeys_split k1 k2 b kb
          have la := areKeys_length _ _ ka
          have lb := areKeys_length _ _ kb
          simp only [List.length_append] at la lb
          obtain ⟨r1, r2, e1, e2, rfl⟩ := eqL_split k1.length a b r (by omega) (by omega) he
          have wt : ∀ (Z : Array Value), (win Z.toList off (k1.length + k2.length)).take k1.length = win Z.toList off k1.length := by
            intro Z; simp [win, List.take_take]
          have wd : ∀ (Z : Array Value), (win Z.toList off (k1.length + k2.length)).drop k1.length = win Z.toList (off + k1.length) k2.length := by
            intro Z; simp [win, List.drop_take, List.drop_drop]
          have p1 := hpart f.type k1 hk hz X off (by omega)
          have p2 := hpart f.type k1 hk hz Y off (by omega)
          have q := ih f.type k1 hk _ _ _ _ r1 (wt X ▸ DRs.take k1.length _ _ ha) (wt Y ▸ DRs.take k1.length _ _ hb) ka1 kb1 e1
          have rest := eqFields_ok d w' hpart ih X Y fs (off + k1.length) k2 _ _ r2 h2 (by omega) (by omega) (wd X ▸ DRs.drop k1.length _ _ ha) (wd Y ▸ DRs.drop k1.length _ _ hb) ka2 kb2 e2
          simp only [Op.eqFields, hname, ne_eq, not_false_eq_true, if_true, Sem.run_bind, hoff, p1, p2, q, Result.andThen_ok]
          cases r1
          · simp
          · simpa using rest
        · cases h
      · cases h
    · cases h

theorem eqItems_ok {w : World} {Im : Nat → Nat → Prop} (d : Nat) (w' : World) (el : TypeId) (k1 : List KK)
    (hpart : ∀ (xs : Array Value) off, off + k1.length ≤ xs.size → (part el xs off).run P w' = .ok (shape P el (win xs.toList off k1.length)) w')
    (ih : ∀ a b xs ys r, DRs w Im a xs → DRs w Im b ys → areKeys k1 a = true → areKeys k1 b = true → eqL a b = some r → (Op.equalIn d el (shape P el xs) (shape P el ys)).run P w' = .ok r w')
    (X Y : Array Value) : ∀ (n i : Nat) (a b : List D) (r : Bool), i * k1.length + n * k1.length ≤ X.size → i * k1.length + n * k1.length ≤ Y.size →
      DRs w Im a (win X.toList (i * k1.length) (n * k1.length)) → DRs w Im b (win Y.toList (i * k1.length) (n * k1.length)) → areKeys (List.replicate n k1).flatten a = true → areKeys (List.replicate n k1).flatten b = true → eqL a b = some r →
      (Op.eqItems d el k1.length X Y (List.range' i n)).run P w' = .ok r w'
  | 0, i, a, b, r, _, _, _, _, ka, kb, he => by
    cases a <;> simp [areKeys] at ka
    cases b <;> simp [areKeys] at kb
    simp only [eqL, Option.some.injEq] at he
    subst he
    simp [Op.eqItems]
  | n + 1, i, a, b, r, hX, hY, ha, hb, ka, kb, he => by
    rw [List.replicate_succ, List.flatten_cons] at ka kb
    obtain ⟨ka1, ka2⟩ := areKeys_split _ _ a ka
    obtain ⟨kb1, kb2⟩ := areKeys_split _ _ b kb
    have la := areKeys_length _ _ ka
    have lb := areKeys_length _ _ kb
    simp only [List.length_append] at la lb
    obtain ⟨r1, r2, e1, e2, rfl⟩ := eqL_split k1.length a b r (by omega) (by omega) he
    have hm : (n + 1) * k1.length = k1.length + n * k1.length := by rw [Nat.succ_mul]; omega
    have hm' : (i + 1) * k1.length = i * k1.length + k1.length := Nat.succ_mul _ _
    rw [hm] at hX hY ha hb
    have wt : ∀ (Z : Array Value), (win Z.toList (i * k1.length) (k1.length + n * k1.length)).take k1.length = win Z.toList (i * k1.length) k1.length := by
      intro Z; simp [win, List.take_take]
    have wd : ∀ (Z : Array Value), (win Z.toList (i * k1.length) (k1.length + n * k1.length)).drop k1.length = win Z.toList ((i + 1) * k1.length) (n * k1.length) := by
      intro Z; simp [win, List.drop_take, List.drop_drop, hm']
    have p1 := hpart X (i * k1.length) (by omega)
    have p2 := hpart Y (i * k1.length) (by omega)
    have q := ih _ _ _ _ r1 (wt X ▸ DRs.take k1.length _ _ ha) (wt Y ▸ DRs.take k1.length _ _ hb) ka1 kb1 e1
    have rest := eqItems_ok d w' el k1 hpart ih X Y n (i + 1) _ _ r2 (by rw [hm']; omega) (by rw [hm']; omega) (wd X ▸ DRs.drop k1.length _ _ ha) (wd Y ▸ DRs.drop k1.length _ _ hb) ka2 kb2 e2
    simp only [List.range'_succ, Op.eqItems, Sem.run_bind, p1, p2, q, Result.andThen_ok]
    cases r1
    · simp
    · simpa using rest

theorem equal_ok {w : World} {Im : Nat → Nat → Prop} (w' : World) : ∀ (n : Nat) (t : TypeId) (ks : List KK), kindsP P n t = some ks → ∀ d, n ≤ d → ∀ (a b : List D) (xs ys : List Value) (r : Bool), DRs w Im a xs → DRs w Im b ys →
    areKeys ks a = true → areKeys ks b = true → eqL a b = some r → (Op.equalIn d t (shape P t xs) (shape P t ys)).run P w' = .ok r w'
  | 0, t, ks, h, _, _, _, _, _, _, _, _, _, _, _, _ => by simp [kindsP] at h
  | n + 1, t, ks, h, d, hd, a, b, xs, ys, r, ha, hb, ka, kb, he => by
    obtain ⟨d, rfl⟩ : ∃ d', d = d' + 1 := ⟨d - 1, by omega⟩
    have h0 := h
    simp only [kindsP] at h
    have leaf : ∀ kk, ks = [kk] → aggP P t = some false → ((∃ k, P.underlying t = some (.int k) ∧ kk = .int) ∨ (P.underlying t = some .string ∧ kk = .str) ∨ (P.underlying t = some .bool ∧ kk = .bool)) →
        (Op.equalIn (d + 1) t (shape P t xs) (shape P t ys)).run P w' = .ok r w' := by
      intro kk hk hag ht
      subst hk
      have la := areKeys_length _ _ ka
      have lb := areKeys_length _ _ kb
      match a, b, la, lb with
      | [x], [y], _, _ =>
        obtain ⟨vx, xs', rfl, _, hx, hxs⟩ := ha
        obtain ⟨vy, ys', rfl, _, hy, hys⟩ := hb
        simp only [areKeys, Bool.and_true] at ka kb
        have he' : eqD x y = some r := by
          simp only [eqL] at he
          split at he
          · rename_i p q hp hq
            simp only [Option.some.injEq] at he hq
            subst hq
            simp at he
            subst he
            exact hp
          · cases he
        simpa [shape, hag] using leaf_eq d hx hy ka kb he' ht w'
    split at h
    · rename_i k hu
      exact leaf .int (by simpa using h.symm) (by simp [aggP, hu]) (.inl ⟨k, hu, rfl⟩)
    · rename_i hu
      exact leaf .str (by simpa using h.symm) (by simp [aggP, hu]) (.inr (.inl ⟨hu, rfl⟩))
    · rename_i hu
      exact leaf .bool (by simpa using h.symm) (by simp [aggP, hu]) (.inr (.inr ⟨hu, rfl⟩))
    · rename_i fs hu
      split at h
      · cases h
      rename_i hst
      have hag : aggP P t = some true := by simp [aggP, hu]
      have hfs : P.fieldsOf t = fs := by simp [Program.fieldsOf, hu]
      simp only [shape, hag, if_true]
      rw [run_equalIn_struct w' d t _ _ (by rw [hfs]; exact hu) (by simpa using hst), hfs]
      have lx := (DRs.length _ _ ha).symm.trans (areKeys_length _ _ ka)
      have ly := (DRs.length _ _ hb).symm.trans (areKeys_length _ _ kb)
      refine eqFields_ok (w := w) (Im := Im) (kinds := kindsP P n) d w' (fun t ks hk hz X off hl => part_shape hk hz X off hl w') (fun t ks hk a b xs ys r h1 h2 h3 h4 h5 => equal_ok w' n t ks hk d (by omega) a b xs ys r h1 h2 h3 h4 h5)
        _ _ fs.toList 0 ks a b r h (by simp [lx]) (by simp [ly]) ?_ ?_ ka kb he
      · simpa [win, ← lx] using ha
      · simpa [win, ← ly] using hb
    · rename_i len el hu
      split at h
      · rename_i k1 hk
        split at h
        · rename_i hz
          obtain rfl := Option.some.inj h
          have hag : aggP P t = some true := by simp [aggP, hu]
          simp only [shape, hag, if_true]
          obtain ⟨i, hi, his⟩ : ∃ i, P.info? el = some i ∧ i.size = k1.length := by
            simpa only [sizeP, Option.map_eq_some_iff] using hz
          have hc : P.cellsOf el = k1.length := by simp [Program.cellsOf, hi, his]
          rw [run_equalIn_array w' d _ _ hu hi, hc]
          have hfl : (List.replicate len k1).flatten.length = len * k1.length := by simp
          have lx := ((DRs.length _ _ ha).symm.trans (areKeys_length _ _ ka)).trans hfl
          have ly := ((DRs.length _ _ hb).symm.trans (areKeys_length _ _ kb)).trans hfl
          rw [List.range_eq_range']
          refine eqItems_ok (w := w) (Im := Im) d w' el k1 (fun X off hl => part_shape hk hz X off hl w') (fun a b xs ys r h1 h2 h3 h4 h5 => equal_ok w' n el k1 hk d (by omega) a b xs ys r h1 h2 h3 h4 h5)
            _ _ len 0 a b r (by simp [lx]) (by simp [ly]) ?_ ?_ ka kb he
          · simpa [win, ← lx] using ha
          · simpa [win, ← ly] using hb
        · cases h
      · cases h
    · cases h

def boolP (P : Program) (t : TypeId) : Bool := match P.underlying t with | some .bool => true | _ => false
theorem boolP_eq {t : TypeId} (h : boolP P t = true) : P.underlying t = some .bool := by
  unfold boolP at h; split at h <;> first | assumption | cases h

def okEqv (P : Program) (gl : Globs) (o : Oper) (ks : Option (List KK)) (neg : Bool) (x y : Opd) : Bool :=
  match o.op with
  | .binOp op t a b _ =>
    (op == (if neg then .neq else .eql)) && okX gl a x && okX gl b y &&
      (match ks with
      | none => boolP P t
      | some ks => decide (aggP P t = some true) && decide (kindsP P 100 t = some ks) && !P.eqGuardType P.depth t)
  | _ => false

theorem sound_eqv (hs : Sim oc gl s) (he : EnvR s e A.tmps) {ks : Option (List KK)} {neg : Bool} {x y : Opd} {r : Bool} (ok : okEqv P gl o ks neg x y = true) (h : eqV ks (x.ev e) (y.ev e) = some r) :
    Gives P oc gl s A o (.d (.bool (if neg then !r else r))) s.m := by
  unfold okEqv at ok
  split at ok <;> try cases ok
  rename_i op t a b t2 ho
  simp only [Bool.and_eq_true, beq_iff_eq] at ok
  obtain ⟨⟨⟨rfl, okx⟩, oky⟩, hty⟩ := ok
  have h1 := okX_ok hs he okx
  have h2 := okX_ok hs he oky
  generalize x.ev e = v at h1 h
  generalize y.ev e = u at h2 h
  refine gives_same hs (x := .bool (if neg then !r else r)) ?_ rfl
  unfold eqV at h
  split at h
  · split at h
    · rename_i p q
      simp only [Option.some.injEq] at h
      subst h
      have ha : A.eval a = .bool p := h1
      have hb : A.eval b = .bool q := h2
      have hu := boolP_eq hty
      have hg : ∀ op, (eqGuard op t a b (.bool p) (.bool q)).run P s.w = .ok () s.w := fun op => by cases op <;> rfl
      have he1 : (Op.equalIn 10000 t (.bool p) (.bool q)).run P s.w = .ok (p == q) s.w := run_equalIn_bool' s.w 9999 t p q hu
      cases neg <;> simp [execOp, ho, ha, hb, hg, binOp, Op.equal, Op.maxDepth, he1]
    · cases h
  · rename_i ks
    split at h
    · rename_i p q
      split at h
      · rename_i hk
        simp only [Bool.and_eq_true] at hk
        obtain ⟨xs, hxs, hd1⟩ := h1
        obtain ⟨ys, hys, hd2⟩ := h2
        simp only [Bool.and_eq_true, decide_eq_true_eq, Bool.not_eq_true'] at hty
        obtain ⟨⟨hag, hks⟩, hgt⟩ := hty
        have he1 := equal_ok (P := P) (w := s.w) (Im := s.Im) s.w 100 t ks hks 10000 (by omega) p q xs.toList ys.toList r hd1 hd2 hk.1 hk.2 h
        simp only [shape, hag, if_true] at he1
        have hg := fun op => run_eqGuard_agg (P := P) s.w op t a b xs ys hgt
        cases neg
        · simp [execOp, ho, hxs, hys, hg, run_eql_struct, he1]
        · simp [execOp, ho, hxs, hys, hg, run_neq_struct, he1]
      · cases h
    · cases h

end
end Go.Evl

