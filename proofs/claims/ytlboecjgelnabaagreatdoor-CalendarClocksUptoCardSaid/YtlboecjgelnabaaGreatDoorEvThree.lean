
/-
  Each operation that calls nobody does what the evaluator says (third part: slices).
-/
import Derived.Test.YtlboecjgelnabaaGreatDoorEvTwo
import Derived.Maps.AppendAt
import Derived.Deep.AppendLies
namespace Go.Evl
open Go.RowKit

section
variable {P : Program} {oc : Codes} {gl : Globs} {s : S} {A : Act} {o : Oper} {e : Env}

/-! ### Literal slices -/

def ElemsR (s : S) : List V → List Value → Prop := VRt s

theorem listD_ok (hs : Sim oc gl s) {sz : Nat} : ∀ (vs : List V) (xs : List Value) (ds : List D), VRt s vs xs → listD sz s.m vs = some ds →
    DRs s.w s.Im ds (xs.flatMap (·.cells.toList)) ∧ (∀ x ∈ xs, x.cells.size = sz) ∧ vs.length = xs.length
  | [], xs, ds, hv, h => by
    simp only [VRt] at hv; subst hv
    simp only [listD, Option.some.injEq] at h; subst h
    exact ⟨rfl, by simp, rfl⟩
  | v :: r, xs, ds, hv, h => by
    obtain ⟨x, ys, rfl, h1, h2⟩ := hv
    simp only [listD] at h
    split at h
    · rename_i d ds' e1 e2
      split at h
      · rename_i hl
        obtain rfl := Option.some.inj h
        have hd := cellsD_ok hs e1 h1
        obtain ⟨k1, k2, k3⟩ := listD_ok hs r ys ds' h2 e2
        refine ⟨by simpa using DRs.append _ _ _ _ hd k1, fun y hy => ?_, by simp [k3]⟩
        rcases List.mem_cons.1 hy with rfl | hy
        · have := DRs.length _ _ hd; simp at this; omega
        · exact k2 y hy
      · cases h
    · cases h

theorem fill_all (size : Nat) : ∀ (xs : List Value) (i : Nat) (cells : Array Value), (∀ x ∈ xs, x.cells.size = size) → cells.size = (i + xs.length) * size →
    ∃ r, Instr.fill (fun i => some (i * size, size)) cells (xs.zipIdx i |>.map fun p => (p.2, p.1)) = some r ∧ r.toList = cells.toList.take (i * size) ++ xs.flatMap (·.cells.toList)
  | [], i, cells, _, hsz => by
    refine ⟨cells, rfl, ?_⟩
    simp only [List.length_nil, Nat.add_zero] at hsz
    simp [List.take_of_length_le, hsz]
  | x :: r, i, cells, h1, hsz => by
    have hx : x.cells.size = size := h1 x (by simp)
    have hmul : (i + (r.length + 1)) * size = i * size + size + r.length * size := by rw [Nat.add_mul, Nat.add_mul]; omega
    simp only [List.length_cons] at hsz
    rw [hmul] at hsz
    have hle : i * size + x.cells.size ≤ cells.size := by omega
    have hlaid := laid_cells (i * size) x cells hle
    have hsz2 : (x.cells.zipIdx.foldl (fun cs p => cs.setIfInBounds (i * size + p.2) p.1) cells).size = (i + 1 + r.length) * size := by
      have : (x.cells.zipIdx.foldl (fun cs p => cs.setIfInBounds (i * size + p.2) p.1) cells).toList.length = cells.toList.length := by
        rw [hlaid, patch_length _ _ _ (by simpa using hle)]
      simp only [Array.length_toList] at this
      rw [this, hsz, Nat.add_mul, Nat.add_mul]; omega
    obtain ⟨res, k1, k2⟩ := fill_all size r (i + 1) _ (fun y hy => h1 y (by simp [hy])) hsz2
    refine ⟨res, ?_, ?_⟩
    · simp only [List.zipIdx_cons, List.map_cons, Instr.fill]
      rw [if_neg (by simp [hx]; omega)]
      exact k1
    · rw [k2, hlaid]
      simp only [List.flatMap_cons]
      rw [← List.append_assoc]
      congr 1
      rw [patch, Nat.add_mul, Nat.one_mul]
      have e1 : (cells.toList.take (i * size) ++ x.cells.toList).length = i * size + size := by
        simp [hx]; omega
      rw [← e1, List.take_left]

def okMk (P : Program) (gl : Globs) (o : Oper) (sz n : Nat) (parts : List Opd) : Bool :=
  match o.op with
  | .buildSlice t len ps => len == n && parts.length == n && okElems gl 0 ps.toList parts && decide (n * sz ≤ 16777216) &&
      (match sliceP P t with | some el => sizeP P el == some sz && (zeroP P el).isSome | none => false)
  | _ => false

theorem okElems_ok (hs : Sim oc gl s) (he : EnvR s e A.tmps) : ∀ (ps : List (Nat × Operand)) (parts : List Opd) (i : Nat), okElems gl i ps parts = true →
    VRt s (evs e parts) (ps.map fun p => A.eval p.2) ∧ (ps.map fun p => (p.1, A.eval p.2)) = ((ps.map fun p => A.eval p.2).zipIdx i).map fun p => (p.2, p.1)
  | [], [], _, _ => ⟨rfl, rfl⟩
  | [], _ :: _, _, h => by simp [okElems] at h
  | (_, _) :: _, [], _, h => by simp [okElems] at h
  | (j, a) :: r, x :: q, i, h => by
    simp only [okElems, Bool.and_eq_true, beq_iff_eq] at h
    obtain ⟨⟨rfl, h1⟩, h2⟩ := h
    obtain ⟨k1, k2⟩ := okElems_ok hs he r q (j + 1) h2
    refine ⟨⟨_, _, rfl, okX_ok hs he h1, k1⟩, ?_⟩
    simp only [List.map_cons, List.zipIdx_cons, k2]

theorem evs_length (e : Env) : ∀ (l : List Opd), (evs e l).length = l.length
  | [] => rfl
  | _ :: r => by simp [evs, evs_length e r]

theorem zeroV_range (zero : Array Value) (n : Nat) : ((Array.range n).map (zero[· % zero.size]!)).size = n := by simp

theorem run_buildSlice {t el : TypeId} {sz len : Nat} {z : Value} {parts : Array (Nat × Value)} {r : Array Value} (hu : P.underlying t = some (.slice el)) (hsz : sizeP P el = some sz) (hz : ∀ w, (zeroValue el).run P w = .ok z w)
    (hb : ¬ 2 ^ 24 < len * sz) (zc : Array Value) (hzc : zc = if len * sz = 0 then #[] else z.cells)
    (hfill : Instr.fill (fun i => some (i * sz, sz)) ((Array.range (len * sz)).map (zc[· % zc.size]!)) parts.toList = some r) (w : World) :
    (Instr.buildSlice t len parts).run P w = .ok (.slice (some ⟨w.heap.size, 0, none⟩) len len) (w.alloc (.cells r el)) := by
  unfold Instr.buildSlice
  simp only [Sem.run_bind, run_underlying hu, Result.andThen_ok, run_sizeOf hsz, gt_iff_lt, hb, if_false]
  by_cases h0 : len * sz = 0
  · rw [if_pos h0] at hzc ⊢
    subst hzc
    simp only [Sem.run_bind, Sem.run_pure, Result.andThen_ok]
    rw [hfill]
    simp [newRow]
  · rw [if_neg h0] at hzc ⊢
    subst hzc
    simp only [Sem.run_bind, Sem.run_pure, Result.andThen_ok, hz]
    rw [hfill]
    simp [newRow]

/-- What a literal slice comes to. -/
theorem run_mk (hs : Sim oc gl s) (he : EnvR s e A.tmps) {sz n : Nat} {parts : List Opd} {ds : List D} (ok : okMk P gl o sz n parts = true) (h : listD sz s.m (evs e parts) = some ds) :
    ∃ el cells, (execOp A.eval o).run P s.w = .ok (.value (.slice (some ⟨s.w.heap.size, 0, none⟩) n n)) (s.w.alloc (.cells cells el)) ∧ DRs s.w s.Im ds cells.toList ∧ cells.size = n * sz ∧ ∃ t len ps, o.op = .buildSlice t len ps ∧ sliceP P t = some el := by
  unfold okMk at ok
  split at ok <;> try cases ok
  rename_i t len ps ho
  simp only [Bool.and_eq_true, beq_iff_eq, decide_eq_true_eq] at ok
  obtain ⟨⟨⟨⟨rfl, hn⟩, okp⟩, hbig⟩, hty⟩ := ok
  split at hty <;> try cases hty
  rename_i el hel
  simp only [Bool.and_eq_true, beq_iff_eq] at hty
  obtain ⟨hsz, hz⟩ := hty
  obtain ⟨vals, hvals⟩ := Option.isSome_iff_exists.1 hz
  obtain ⟨z, hzr, _⟩ := zeroP_eq hvals
  have hu := sliceP_eq hel
  obtain ⟨hv, hzip⟩ := okElems_ok (A := A) hs he ps.toList parts 0 okp
  obtain ⟨hd, hall, hlen⟩ := listD_ok hs _ _ ds hv h
  rw [evs_length, hn] at hlen
  obtain ⟨zc, hzc⟩ : ∃ zc : Array Value, zc = if len * sz = 0 then #[] else z.cells := ⟨_, rfl⟩
  obtain ⟨r, hr, hrl⟩ := fill_all sz (ps.toList.map fun p => A.eval p.2) 0 ((Array.range (len * sz)).map (zc[· % zc.size]!)) hall (by simp [← hlen])
  refine ⟨el, r, ?_, ?_, ?_, t, len, ps, ho, hel⟩
  · have hfill : Instr.fill (fun i => some (i * sz, sz)) ((Array.range (len * sz)).map (zc[· % zc.size]!)) (ps.map fun (i, x) => (i, A.eval x)).toList = some r := by
      rw [← hr, ← hzip]; simp
    have := run_buildSlice (P := P) hu hsz hzr (by omega) zc hzc hfill s.w
    simp only [execOp, ho, Sem.run_bind, this, Result.andThen_ok]
    rfl
  · rw [hrl]; simpa using hd
  · have := DRs.length _ _ hd
    have hl2 : r.toList.length = len * sz := by
      rw [hrl]
      simp only [Nat.zero_mul, List.take_zero, List.nil_append]
      have gen : ∀ (l : List Value), (∀ x ∈ l, x.cells.size = sz) → (l.flatMap (·.cells.toList)).length = l.length * sz := by
        intro l
        induction l with
        | nil => intro _; simp
        | cons y l ih => intro hy; simp only [List.flatMap_cons, List.length_append, ih (fun x hx => hy x (by simp [hx])), Array.length_toList, hy y (by simp), List.length_cons, Nat.add_mul]; omega
      rw [gen _ hall, ← hlen]
    simpa using hl2

theorem sound_mkList (hs : Sim oc gl s) (he : EnvR s e A.tmps) {sz n : Nat} {parts : List Opd} {ds : List D} (ok : okMk P gl o sz n parts = true) (h : listD sz s.m (evs e parts) = some ds) :
    Gives P oc gl s A o (.d (.list n ds)) s.m := by
  obtain ⟨el, cells, hr, hd, hsz, _⟩ := run_mk (P := P) hs he ok h
  obtain ⟨k1, k2⟩ := hs.calm (s.w.alloc (.cells cells el)) (fun b j => s.Im b j ∨ (b = s.w.heap.size ∧ j < n * sz)) rfl rfl rfl (by simp) (fun b hb => heap_alloc_old _ _ _ hb) (fun _ _ h => .inl h)
    (fun b j h => h.imp id fun h => by omega) (fun b j h => h.elim (fun h => Nat.lt_of_lt_of_le (hs.imlt b j h) (by simp)) (fun h => by simp; omega))
  refine ⟨_, _, hr, k1, k2, rfl, ?_⟩
  refine ⟨_, _, rfl, Nat.le_refl _, .inr ⟨_, 0, rfl, CR.mk ds cells.toList 0 (DRs.ext k2.im k2.keep ds _ hd) (fun j v hj => ?_) (fun j hj => .inr ⟨rfl, ?_⟩)⟩⟩
  · rw [Nat.zero_add, cell_of_row _ _ j cells el (0, 0) (heap_alloc_new _ _)]
    simpa using hj
  · simp at hj; omega

/-- A new row of the call's own. -/
theorem newRow_own (hs : Sim oc gl s) (i : Id) (hi : look s.m i = none) (wr : Bool) (t sz n : Nat) (ds : List D) (cells : Array Value) (hz : 0 < sz) (hm : n ≤ maxLen) (hd : DRs s.w s.Im ds cells.toList) (hsz : cells.size = n * sz) :
    Sim oc gl ⟨fun k => if i = k then .slice (some ⟨s.w.heap.size, 0, none⟩) n n else s.φ k, upd s.m i (.row wr t sz n ds), s.w.alloc (.cells cells t), fun b j => s.Im b j ∨ (wr = false ∧ b = s.w.heap.size ∧ j < n * sz)⟩ ∧
    Ext (fun _ => True) s ⟨fun k => if i = k then .slice (some ⟨s.w.heap.size, 0, none⟩) n n else s.φ k, upd s.m i (.row wr t sz n ds), s.w.alloc (.cells cells t), fun b j => s.Im b j ∨ (wr = false ∧ b = s.w.heap.size ∧ j < n * sz)⟩ :=
  hs.change i _ _ _ _ rfl rfl rfl (by simp) (fun b hb _ => heap_alloc_old _ _ _ hb) (fun _ _ h => .inl h)
    (fun b j hj => World.cell?_of_block (heap_alloc_old _ _ _ (hs.imlt b j hj))) (fun b j h => h.imp id fun h => by rw [h.2.1]; rfl)
    (fun b j h => by
      rcases h with h | h
      · exact Nat.lt_of_lt_of_le (hs.imlt b j h) (by simp)
      · simp; omega)
    (fun b h => by simp [blk] at h; subst h; exact .inl (Nat.le_refl _)) (fun o h => by rw [hi] at h; cases h)
    (fun hE => ⟨hz, cells.toList, ⟨by simpa using hsz, .inr ⟨s.w.heap.size, n, cells, rfl, Nat.zero_le _, heap_alloc_new _ _, Nat.le_refl _, hm, hsz, by rw [List.take_of_length_le (by simp [hsz])]⟩⟩,
      DRs.ext hE.im hE.keep ds _ hd, fun b hb j => by
        simp [Value.ownBlock] at hb; subst hb
        exact ⟨fun h => by
          rcases h with h | h
          · exact absurd (hs.imlt _ j h) (Nat.lt_irrefl _)
          · exact ⟨h.1, h.2.2⟩, fun h => .inr ⟨h.1, rfl, h.2⟩⟩⟩)

def okMkRow (P : Program) (gl : Globs) (o : Oper) (r : RowSpec) (n : Nat) (parts : List Opd) : Bool :=
  okMk P gl o r.sz n parts && decide (0 < r.sz) && (match o.op with | .buildSlice t _ _ => sliceP P t == some r.t | _ => false)

theorem sound_mkRow (hs : Sim oc gl s) (he : EnvR s e A.tmps) (cx : Cx) (slot : Nat) {r : RowSpec} {n : Nat} {parts : List Opd} {ds : List D} (ok : okMkRow P gl o r n parts = true) (h : listD r.sz s.m (evs e parts) = some ds) :
    Gives P oc gl s A o (.ref (newId cx slot s.m) 0 n n) (upd s.m (newId cx slot s.m) (.row r.wr r.t r.sz n ds)) := by
  simp only [okMkRow, Bool.and_eq_true, decide_eq_true_eq] at ok
  obtain ⟨⟨ok, hz⟩, ht⟩ := ok
  obtain ⟨el, cells, hr, hd, hsz, t, len, ps, ho, hel⟩ := run_mk (P := P) hs he ok h
  have hn : n * r.sz ≤ 16777216 := by
    unfold okMk at ok
    split at ok <;> try cases ok
    simp only [Bool.and_eq_true, decide_eq_true_eq] at ok
    exact ok.1.2
  rw [ho] at ht
  simp only [beq_iff_eq] at ht
  obtain rfl : el = r.t := by rw [hel] at ht; exact Option.some.inj ht
  have hn2 : n ≤ n * r.sz := Nat.le_mul_of_pos_right _ hz
  obtain ⟨k1, k2⟩ := newRow_own hs (newId cx slot s.m) (newId_fresh _ _ _) r.wr r.t r.sz n ds cells hz (by simp only [maxLen]; omega) hd hsz
  exact ⟨_, _, hr, k1, k2, rfl, newRow_ref s _ (.slice (some ⟨s.w.heap.size, 0, none⟩) n n) rfl _ _ _ _ _ _ _ _ (by simp)⟩

/-! ### Cuts of slices -/

theorem slice_at (a : Addr) (b q sz l : Nat) (h : a = ⟨b, q, none⟩) : a.add (l * sz) = ⟨b, q + l * sz, none⟩ := by subst h; exact addr_add _ _ _

def okSlice (P : Program) (gl : Globs) (o : Oper) (sz : Nat) (x : Opd) (lo hi mx : Option Opd) : Bool :=
  match o.op with
  | .slice t a l h m => okX gl a x && okX? gl l lo && okX? gl h hi && okX? gl m mx && (match sliceP P t with | some el => sizeP P el == some sz | none => false)
  | _ => false

/-- With the third index at the second's place, the capacity is what the length is. -/
theorem bounds3_ok {lo hi mx : Option Operand} {lo' hi' mx' : Option Opd} {n l h : Nat} (hs : Sim oc gl s) (he : EnvR s e A.tmps) (ol : okX? gl lo lo' = true) (oh : okX? gl hi hi' = true) (om : okX? gl mx mx' = true)
    (hb : sliceBoundsV n (lo'.map (·.ev e)) (hi'.map (·.ev e)) = some (l, h)) (hmx : (mx'.map (·.ev e)).isNone = true ∨ ((hi'.map (·.ev e)).isSome = true ∧ (mx'.map (·.ev e)).bind asI = (hi'.map (·.ev e)).bind asI))
    (cap : Nat) (hcap : n ≤ cap) (w : World) :
    ∃ m, (Instr.sliceBounds true n cap (lo.map A.eval) (hi.map A.eval) (mx.map A.eval)).run P w = .ok (l, h, m) w ∧ l ≤ h ∧ h ≤ n ∧ h ≤ m ∧ m ≤ cap := by
  cases mx with
  | none =>
    obtain ⟨k1, k2, k3⟩ := bounds_ok (P := P) hs he ol oh hb true cap hcap w
    exact ⟨cap, k1, k2, k3, by omega, Nat.le_refl _⟩
  | some ma =>
    cases mx' with
    | none => simp [okX?] at om
    | some m' =>
      simp only [okX?] at om
      simp only [Option.map_some, Option.isNone_some, Bool.false_eq_true, false_or, Option.bind_some] at hmx
      obtain ⟨h1, h2⟩ := hmx
      obtain ⟨k1, k2, k3⟩ := bounds_ok (P := P) hs he ol oh hb true cap hcap w
      cases hi' with
      | none => simp at h1
      | some hx =>
        cases hi with
        | none => simp [okX?] at oh
        | some ha =>
          simp only [okX?] at oh
          simp only [Option.map_some, Option.bind_some] at h2 hb
          -- the second bound's number
          unfold sliceBoundsV at hb
          simp only at hb
          cases hh : asI (hx.ev e) with
          | none => rw [hh] at hb; cases hb
          | some hv =>
            rw [hh] at hb h2
            obtain ⟨q1, hq1⟩ := asI_ok (okX_ok hs he oh) hh
            obtain ⟨q2, hq2⟩ := asI_ok (okX_ok hs he om) h2
            split at hb
            · rename_i hv' lv e1 e2
              injection e1 with e1
              subst e1
              split at hb
              · rename_i hr
                obtain ⟨r1, r2, r3, r4⟩ := hr
                simp only [Option.some.injEq, Prod.mk.injEq] at hb
                obtain ⟨rfl, rfl⟩ := hb
                refine ⟨hv.toNat, ?_, by omega, by omega, Nat.le_refl _, by omega⟩
                have b1 : ∀ c, (Instr.sliceBound (A.eval ma) cap c).run P w = .ok hv.toNat w := fun c => run_sliceBound hq2 r1 (by omega) c w
                have b2 : ∀ c, (Instr.sliceBound (A.eval ha) hv.toNat c).run P w = .ok hv.toNat w := fun c => run_sliceBound hq1 r1 (by omega) c w
                cases lo with
                | none =>
                  cases lo' <;> simp [okX?] at ol
                  simp at e2
                  subst e2
                  simp [Instr.sliceBounds, b1, b2]
                | some la =>
                  cases lo' with
                  | none => simp [okX?] at ol
                  | some lx =>
                    simp only [okX?] at ol
                    obtain ⟨q3, hq3⟩ := asI_ok (okX_ok hs he ol) e2
                    have b3 : ∀ c, (Instr.sliceBound (A.eval la) hv.toNat c).run P w = .ok lv.toNat w := fun c => run_sliceBound hq3 r3 (by omega) c w
                    simp [Instr.sliceBounds, b1, b2, b3]
              · cases hb
            · cases hb

theorem sound_slice (hs : Sim oc gl s) (he : EnvR s e A.tmps) {sz : Nat} {x : Opd} {lo hi mx : Option Opd} {v : V} (ok : okSlice P gl o sz x lo hi mx = true)
    (h : sliceV sz s.m (x.ev e) (lo.map (·.ev e)) (hi.map (·.ev e)) (mx.map (·.ev e)) = some v) : Gives P oc gl s A o v s.m := by
  unfold okSlice at ok
  split at ok <;> try cases ok
  rename_i t a l' h' m' ho
  simp only [Bool.and_eq_true] at ok
  obtain ⟨⟨⟨⟨okx, ol⟩, oh⟩, om⟩, hty⟩ := ok
  split at hty <;> try cases hty
  rename_i el hel
  have hsz : sizeP P el = some sz := by simpa using hty
  have hu := sliceP_eq hel
  have h1 := okX_ok hs he okx
  generalize x.ev e = vx at h1 h
  -- the run, once the slice is known
  have fin : ∀ (ad : Option Addr) (n cap l hh m : Nat), A.eval a = .slice ad n cap → (Instr.sliceBounds true n cap (l'.map A.eval) (h'.map A.eval) (m'.map A.eval)).run P s.w = .ok (l, hh, m) s.w →
      (execOp A.eval o).run P s.w = .ok (.value (.slice (if m = l then ad else ad.map (·.add (l * sz))) (hh - l) (m - l))) s.w := by
    intro ad n cap l hh m ha hr
    simp [execOp, ho, Instr.sliceAt, Instr.slice, run_underlying hu, ha, hr, run_sizeOf hsz]
  unfold sliceV at h
  split at h
  · rename_i n cs
    obtain ⟨ad, cap, ha, hn0, hc⟩ := h1
    split at h
    · rename_i l hh hb
      split at h
      · rename_i hm
        obtain rfl := Option.some.inj h
        obtain ⟨m, hr, k1, k2, k3, k4⟩ := bounds3_ok (P := P) hs he ol oh om hb (by simpa using hm) cap hn0 s.w
        refine gives_same hs (fin ad n cap l hh m ha hr) ?_
        rcases hc with ⟨rfl, rfl⟩ | ⟨b, q, rfl, hc⟩
        · exact ⟨_, _, rfl, by omega, .inl ⟨by omega, by simp [win]⟩⟩
        · by_cases hml : m = l
          · have : hh - l = 0 := by omega
            exact ⟨_, _, rfl, by omega, .inl ⟨this, by simp [win, this]⟩⟩
          · refine ⟨_, _, rfl, by omega, .inr ⟨b, q + l * sz, by rw [if_neg hml]; simp [addr_add], ?_⟩⟩
            exact CR.take _ _ _ (CR.drop _ _ _ hc)
      · cases h
    · cases h
  · rename_i i off len top
    split at h
    · rename_i wr ty sz' n xs hl
      split at h
      · rename_i hcond
        obtain ⟨rfl, hle, rfl⟩ := hcond
        split at h
        · rename_i l hh hb
          split at h
          · rename_i hm
            -- the row, and the slice's place in it
            have h2 := h1.2
            rw [hl] at h2
            obtain ⟨hz, ys, hown, hd, him⟩ := hs.objs i _ hl
            have hlen : xs.length = n * sz' := (DRs.length _ _ hd).trans hown.1
            have shape : ∃ ad cap, A.eval a = .slice ad len cap ∧ len ≤ cap ∧ ((len = 0) ∨ ∃ b capp, s.φ i = .slice (some ⟨b, 0, none⟩) n capp ∧ ad = some ⟨b, off * sz', none⟩ ∧ off + cap ≤ capp) := by
              rcases h2.2 rfl with ⟨rfl, rfl, hx⟩ | ⟨hne, b, cap, capp, hp, _, hoc, hlc, hx⟩ | ⟨hne, _, rfl, ad, c, hx⟩
              · rcases hown.2 with ⟨hp, h0⟩ | ⟨g, cap, cur, hp, _, _, hnc, _⟩
                · exact ⟨none, 0, by rw [h0]; exact hx.trans hp, by omega, .inl h0⟩
                · exact ⟨_, cap, hx.trans hp, hnc, .inr ⟨g, cap, hp, by simp, by omega⟩⟩
              · exact ⟨_, cap, hx, hlc, .inr ⟨b, capp, hp, rfl, hoc⟩⟩
              · exact ⟨ad, c, hx, Nat.zero_le _, .inl rfl⟩
            obtain ⟨ad, cap, ha, hlc, hsh⟩ := shape
            obtain ⟨m, hr, k1, k2, k3, k4⟩ := bounds3_ok (P := P) hs he ol oh om hb (.inl (by simpa using hm)) cap hlc s.w
            have hrun := fin ad len cap l hh m ha hr
            split at h
            · rename_i hwr
              obtain rfl := Option.some.inj h
              refine gives_same hs hrun ⟨rfl, ?_⟩
              show RefR _ _ _ _ _ (look s.m i)
              rw [hl]
              refine ⟨Nat.le_refl _, fun _ => ?_⟩
              by_cases hwhole : off + l = 0 ∧ hh - l = n
              · refine .inl ⟨hwhole.1, hwhole.2, ?_⟩
                have e1 : off = 0 := by omega
                have e2 : l = 0 := by omega
                have e3 : hh = n := by omega
                have e4 : len = n := by omega
                rcases h2.2 rfl with ⟨_, _, hx⟩ | ⟨hne, _⟩ | ⟨hne, _⟩
                · -- the cut of the whole is the slice itself
                  have hm' : m = cap := by
                    have hmx : (m'.map A.eval) = none := by
                      cases mx with
                      | none => cases m' <;> simp [okX?] at om; rfl
                      | some q => simp at hm
                    have hc2 := bounds_ok (P := P) hs he ol oh hb true cap hlc s.w
                    rw [hmx] at hr
                    rw [hc2.1] at hr
                    simp only [Result.ok.injEq, Prod.mk.injEq, and_true, true_and] at hr
                    exact hr.symm
                  rw [← hx, ha, e2, e3, e4, hm']
                  by_cases hc0 : cap = 0
                  · simp [hc0]
                  · rw [if_neg hc0]
                    cases ad with
                    | none => simp
                    | some ad => simp [Addr.add]
                · exact absurd ⟨e1, e4⟩ hne
                · exact absurd ⟨e1, e4⟩ hne
              by_cases hz0 : hh - l = 0
              · exact .inr (.inr ⟨hwhole, by omega, hz0, _, _, by rw [hz0]⟩)
              · rcases hsh with h0 | ⟨b, capp, hp, rfl, hoc⟩
                · omega
                · refine .inr (.inl ⟨hwhole, b, m - l, capp, hp, by omega, by omega, by omega, ?_⟩)
                  rw [if_neg (by omega)]
                  simp [addr_add, Nat.add_mul]
            · rename_i hwr
              obtain rfl := Option.some.inj h
              have hwr : wr = false := by simpa using hwr
              subst hwr
              refine gives_same hs hrun ?_
              by_cases hz0 : hh - l = 0
              · exact ⟨_, _, rfl, by omega, .inl ⟨hz0, by simp [win, hz0]⟩⟩
              · rcases hsh with h0 | ⟨b, capp, hp, rfl, hoc⟩
                · omega
                · refine ⟨_, _, rfl, by omega, .inr ⟨b, (off + l) * sz', by rw [if_neg (by omega)]; simp [addr_add, Nat.add_mul], ?_⟩⟩
                  have hcl := ownsRow_cells hown hp
                  have hcr : CR s.w s.Im b 0 xs := CR.mk xs ys 0 hd (fun j v hj => by rw [Nat.zero_add]; exact hcl j v hj) (fun j hj => by
                    rw [Nat.zero_add]
                    refine (him b (by rw [hp]; rfl) j).2 ⟨rfl, ?_⟩
                    have := hown.1; omega)
                  have := CR.drop ((off + l) * sz') xs 0 hcr
                  rw [Nat.zero_add] at this
                  exact CR.take _ _ _ this
          · cases h
        · cases h
      · cases h
    · cases h
  · cases h

/-! ### make -/

def okMake (P : Program) (gl : Globs) (o : Oper) (r : RowSpec) (zero : List D) (n : Opd) : Bool :=
  match o.op with
  | .makeSlice t a b => okX gl a n && okX gl b n && sliceP P t == some r.t && specP P r.t r && (match zeroP P r.t with | some vals => constL zero vals | none => false)
  | _ => false

theorem specP_eq {e : TypeId} {r : RowSpec} (h : specP P e r = true) : r.t = e ∧ 0 < r.sz ∧ ∃ i z, P.info? e = some i ∧ i.size = r.sz ∧ i.bytes = r.by_ ∧ i.zero = some z ∧ z.cells.size = r.sz := by
  unfold specP at h
  simp only [Bool.and_eq_true, beq_iff_eq, decide_eq_true_eq] at h
  obtain ⟨⟨h1, h2⟩, h3⟩ := h
  split at h3
  · rename_i i hi
    simp only [Bool.and_eq_true, beq_iff_eq] at h3
    obtain ⟨⟨h4, h5⟩, h6⟩ := h3
    split at h6
    · rename_i z hz
      exact ⟨h1, h2, i, z, hi, h4, h5, hz, by simpa using h6⟩
    · cases h6
  · cases h3

theorem roomy_eq {n b : Nat} (h : roomy n b = true) : n * b ≤ 140737488355328 ∧ n ≤ 140737488355328 := by
  simpa [roomy] using h

theorem DRs.replicate {w : World} {Im : Nat → Nat → Prop} {zero : List D} {zs : List Value} (h : DRs w Im zero zs) : ∀ n : Nat, DRs w Im (List.replicate n zero).flatten (List.replicate n zs).flatten
  | 0 => rfl
  | n + 1 => by
    simp only [List.replicate_succ, List.flatten_cons]
    exact DRs.append _ _ _ _ h (DRs.replicate h n)

theorem flat_rep (l : List Value) (hl : 0 < l.length) : ∀ (n j : Nat), (List.replicate n l).flatten[j]? = if j < n * l.length then l[j % l.length]? else none
  | 0, j => by simp
  | n + 1, j => by
    simp only [List.replicate_succ, List.flatten_cons, List.getElem?_append, Nat.add_mul, Nat.one_mul]
    split
    · rename_i h
      rw [Nat.mod_eq_of_lt h, if_pos (by omega)]
    · rename_i h
      rw [flat_rep l hl n, Nat.mod_eq_sub_mod (by omega : j ≥ l.length)]
      by_cases h2 : j - l.length < n * l.length
      · rw [if_pos h2, if_pos (by omega)]
      · rw [if_neg h2, if_neg (by omega)]

theorem madeCells_flat (zs : Array Value) (n : Nat) (h : 0 < zs.size) : (madeCells zs (n * zs.size)).toList = (List.replicate n zs.toList).flatten := by
  apply List.ext_getElem?
  intro j
  rw [flat_rep _ (by simpa using h)]
  simp only [madeCells, Array.toList_map, Array.toList_range, List.getElem?_map, Array.length_toList]
  split
  · rename_i hj
    rw [List.getElem?_range hj]
    have hm : j % zs.size < zs.size := Nat.mod_lt _ h
    simp [hm]
  · rename_i hj
    rw [List.getElem?_eq_none (by simp; omega)]
    rfl

theorem sound_make (hs : Sim oc gl s) (he : EnvR s e A.tmps) (cx : Cx) (slot : Nat) {r : RowSpec} {zero : List D} {n : Opd} {k : IntKind} {l : Int} (ok : okMake P gl o r zero n = true) (hn : n.ev e = .d (.int k l)) (h0 : 0 ≤ l) (hr : roomy l.toNat r.by_ = true) :
    Gives P oc gl s A o (.ref (newId cx slot s.m) 0 l.toNat l.toNat) (upd s.m (newId cx slot s.m) (.row r.wr r.t r.sz l.toNat (List.replicate l.toNat zero).flatten)) := by
  unfold okMake at ok
  split at ok <;> try cases ok
  rename_i t a b ho
  simp only [Bool.and_eq_true, beq_iff_eq] at ok
  obtain ⟨⟨⟨⟨oka, okb⟩, hel⟩, hsp⟩, hzc⟩ := ok
  obtain ⟨_, hz, i, z, hi, h4, h5, hzz, h6⟩ := specP_eq hsp
  have hu := sliceP_eq hel
  have hza : zeroP P r.t = some z.cells.toList := by simp [zeroP, hi, hzz]
  rw [hza] at hzc
  have ha := okX_ok hs he oka
  have hb := okX_ok hs he okb
  rw [hn] at ha hb
  have ha : A.eval a = .int k l := ha
  have hb : A.eval b = .int k l := hb
  obtain ⟨hr1, hr2⟩ := roomy_eq hr
  have hrun := run_make (P := P) s.w t r.t i z hu hi hzz k k l l h0 (Int.le_refl _) (by
    rw [h5]
    have : (r.by_ : Int) * l = ((l.toNat * r.by_ : Nat) : Int) := by rw [Int.natCast_mul, Int.mul_comm]; congr 1; omega
    rw [this]; omega) (by omega)
  have hd : DRs s.w s.Im (List.replicate l.toNat zero).flatten (madeCells z.cells (l.toNat * i.size)).toList := by
    rw [h4, ← h6, madeCells_flat z.cells _ (by omega)]
    exact DRs.replicate (constL_ok _ _ _ _ hzc) _
  have hsz : (madeCells z.cells (l.toNat * i.size)).size = l.toNat * r.sz := by
    rw [h4]; simp [madeCells]
  obtain ⟨k1, k2⟩ := newRow_own hs (newId cx slot s.m) (newId_fresh _ _ _) r.wr r.t r.sz l.toNat _ _ hz (by simp only [maxLen]; omega) hd hsz
  refine ⟨_, _, ?_, k1, k2, rfl, newRow_ref s _ (.slice (some ⟨s.w.heap.size, 0, none⟩) l.toNat l.toNat) rfl _ _ _ _ _ _ _ _ (by simp)⟩
  simp only [execOp, ho, ha, hb, Sem.run_bind, hrun, Result.andThen_ok]
  rfl

/-! ### append -/

/-- The elements of a slice, as both sides have them. -/
theorem elems_ok (hs : Sim oc gl s) {v : V} {x : Value} {k : Nat} {ds : List D} (hv : VR s v x) (h : elemsD s.m v = some (k, ds)) :
    ∃ ad c xs, x = .slice ad k c ∧ DRs s.w s.Im ds xs ∧ ((k = 0 ∧ ds = []) ∨ ∃ b q, ad = some ⟨b, q, none⟩ ∧ ∀ j v, xs[j]? = some v → s.w.cell? ⟨b, q + j, none⟩ = some v) := by
  unfold elemsD at h
  split at h
  · rename_i n cs
    simp only [Option.some.injEq, Prod.mk.injEq] at h
    obtain ⟨rfl, rfl⟩ := h
    obtain ⟨ad, cap, rfl, _, hc⟩ := hv
    rcases hc with ⟨rfl, rfl⟩ | ⟨b, q, rfl, hc⟩
    · exact ⟨ad, cap, [], rfl, rfl, .inl ⟨rfl, rfl⟩⟩
    · obtain ⟨xs, h1, h2⟩ := CR.cells cs q hc
      exact ⟨_, cap, xs, rfl, h1, .inr ⟨b, q, rfl, h2⟩⟩
  · simp only [Option.some.injEq, Prod.mk.injEq] at h
    obtain ⟨rfl, rfl⟩ := h
    obtain ⟨ad, rfl⟩ := hv
    exact ⟨ad, 0, [], rfl, rfl, .inl ⟨rfl, rfl⟩⟩
  · rename_i i off len top
    split at h
    · rename_i wr t sz n xs hl
      split at h
      · rename_i hc
        obtain ⟨rfl, hle⟩ := hc
        simp only [Option.some.injEq, Prod.mk.injEq] at h
        obtain ⟨rfl, rfl⟩ := h
        have h2 := hv.2
        rw [hl] at h2
        obtain ⟨hz, ys, hown, hd, him⟩ := hs.objs i _ hl
        have hlen : xs.length = n * sz := (DRs.length _ _ hd).trans hown.1
        rcases h2.2 rfl with ⟨rfl, rfl, hx⟩ | ⟨hne, b, cap, capp, hp, _, _, hlc, hx⟩ | ⟨hne, _, rfl, a, c, hx⟩
        · simp only [and_self, if_true]
          rcases hown.2 with ⟨hp, h0⟩ | ⟨g, cap, cur, hp, _⟩
          · refine ⟨none, 0, ys, by rw [h0]; exact hx.trans hp, hd, .inl ⟨h0, List.eq_nil_of_length_eq_zero (by rw [hlen, h0]; simp)⟩⟩
          · exact ⟨_, _, ys, hx.trans hp, hd, .inr ⟨g, 0, rfl, fun j v hj => by rw [Nat.zero_add]; exact ownsRow_cells hown hp j v hj⟩⟩
        · refine ⟨_, _, (if off = 0 ∧ len = n then ys else win ys (off * sz) (len * sz)), hx, ?_, .inr ⟨b, off * sz, rfl, fun j v hj => ?_⟩⟩
          · split
            · exact hd
            · exact DRs.take _ _ _ (DRs.drop _ _ _ hd)
          · have hcl := ownsRow_cells hown hp
            split at hj
            · rename_i hc0
              rw [hc0.1, Nat.zero_mul, Nat.zero_add]; exact hcl j v hj
            · simp only [win, List.getElem?_take, List.getElem?_drop] at hj
              split at hj
              · exact hcl _ v hj
              · cases hj
        · refine ⟨a, c, [], hx, ?_, .inl ⟨rfl, ?_⟩⟩
          · split
            · rename_i hc0
              have : xs = [] := List.eq_nil_of_length_eq_zero (by rw [hlen, ← hc0.2]; simp)
              subst this; rfl
            · simp [win]; rfl
          · split
            · rename_i hc0
              exact List.eq_nil_of_length_eq_zero (by rw [hlen, ← hc0.2]; simp)
            · simp [win]
      · cases h
    · cases h
  · cases h

theorem run_append_zero {t ty el : TypeId} {i : TypeInfo} (w : World) (ht : P.underlying t = some (.slice el)) (hi : P.info? el = some i) (a : Option Addr) (n c : Nat) (hnc : n ≤ c) (ad : Option Addr) (k : Nat) :
    (Builtin.append_ #[t, t] ty #[.slice a n c, .slice ad 0 k]).run P w = .ok (.slice a n c) w := by
  cases ad with
  | none => cases a <;> simp [Builtin.append_, run_underlying ht, sizeOf, typeInfo, hi, Builtin.lenOf, Builtin.firstCells, hnc, storeCells]
  | some ad => cases a <;> simp [Builtin.append_, run_underlying ht, sizeOf, typeInfo, hi, Builtin.lenOf, Builtin.firstCells, loadCells, loadCellsFrom, hnc, storeCells]

/-- append onto a row of the call's own: what becomes of the world, to the cell. -/
theorem append_own (w : World) (t ty el : TypeId) (i : TypeInfo) (z : Value) (sz by_ : Nat) (ht : P.underlying t = some (.slice el)) (hi : P.info? el = some i) (hz : i.zero = some z)
    (hsize : i.size = sz) (hby : i.bytes = by_) (hzs : z.cells.size = sz)
    (v : Value) (n : Nat) (ys : List Value) (hown : w.ownsRow 0 el sz v n ys)
    (ad : Option Addr) (k c : Nat) (xs : List Value) (hl : xs.length = k * sz) (hx : (k = 0 ∧ xs = []) ∨ ∃ b q, ad = some ⟨b, q, none⟩ ∧ ∀ j v, xs[j]? = some v → w.cell? ⟨b, q + j, none⟩ = some v)
    (h1 : ∀ u ∈ xs, u.oneCell' = true) (hbytes : (n + k) * by_ ≤ 140737488355328) (hlen : n + k ≤ 140737488355328) :
    ∃ v' w', (Builtin.append_ #[t, t] ty #[v, .slice ad k c]).run P w = .ok v' w' ∧ w'.ownsRow 0 el sz v' (n + k) (ys ++ xs) ∧ w'.os = w.os ∧ w'.tape = w.tape ∧ w'.output = w.output ∧ w.heap.size ≤ w'.heap.size ∧
      (∀ b, b < w.heap.size → v.ownBlock ≠ some b → w'.heap[b]? = w.heap[b]?) ∧ (∀ g, v.ownBlock = some g → ∀ j, j < n * sz → w'.cell? ⟨g, j, none⟩ = w.cell? ⟨g, j, none⟩) ∧
      (v'.ownBlock = v.ownBlock ∨ v'.ownBlock = some w.heap.size) ∧ (k = 0 → v' = v) := by
  subst hsize; subst hby
  have hll : (ys ++ xs).length = (n + k) * i.size := by rw [List.length_append, hown.1, hl, Nat.add_mul]
  rcases Nat.eq_zero_or_pos k with hk | hk
  · subst hk
    have hxs : xs = [] := List.eq_nil_of_length_eq_zero (by simpa using hl)
    subst hxs
    refine ⟨v, w, ?_, by simpa using hown, rfl, rfl, rfl, Nat.le_refl _, fun _ _ _ => rfl, fun _ _ _ _ => rfl, .inl rfl, fun _ => rfl⟩
    rcases hown.2 with ⟨rfl, rfl⟩ | ⟨g, cap, cur, rfl, _, _, hnc, _⟩
    · exact run_append_zero w ht hi _ _ _ (Nat.le_refl _) ad c
    · exact run_append_zero w ht hi _ _ _ hnc ad c
  · obtain ⟨b, q, rfl, hcell⟩ : ∃ b q, ad = some ⟨b, q, none⟩ ∧ ∀ j v, xs[j]? = some v → w.cell? ⟨b, q + j, none⟩ = some v := by
      rcases hx with ⟨h0, _⟩ | h
      · omega
      · exact h
    have hnews : ∀ j v, xs[j]? = some v → w.cell? ((⟨b, q, none⟩ : Addr).add j) = some v := fun j v hj => by rw [addr_add]; exact hcell j v hj
    have hcm : n + k ≤ maxLen := by simp only [maxLen]; omega
    have grown : ∀ (old : Nat), old < n + k →
        (w.drew.alloc (.cells (ys.toArray ++ xs.toArray ++ Builtin.zeroCells z.cells (grownCap w (n + k) old el - (n + k))) el)).ownsRow 0 el i.size
          (.slice (some ⟨w.heap.size, 0, none⟩) (n + k) (grownCap w (n + k) old el)) (n + k) (ys ++ xs) := by
      intro old ho
      have hge := grownCap_ge w (n + k) old el
      have hcm2 : grownCap w (n + k) old el ≤ maxLen := grownCap_le_maxLen w (n + k) old el hcm
      refine ⟨hll, .inr ⟨w.heap.size, _, _, rfl, Nat.zero_le _, heap_alloc_new w.drew _, hge, hcm2, ?_, ?_⟩⟩
      · simp only [Array.size_append, List.size_toArray, size_zeroCells, hzs, hown.1, hl, ← Nat.add_mul]
        congr 1; omega
      · simp only [Array.toList_append, List.append_assoc]
        rw [← List.append_assoc, ← hll]
        exact List.take_left
    rcases hown.2 with ⟨rfl, rfl⟩ | ⟨g, cap, cur, rfl, hbg, hg, hnc, hcm3, hcs, htake⟩
    · have hy : ys = [] := List.eq_nil_of_length_eq_zero (by simpa using hown.1)
      subst hy
      have hr := run_append_nil (P := P) w t ty el i z ht hi hz ⟨b, q, none⟩ k c xs hl hnews hk (by omega) (by have hb := hbytes; simp only [Nat.zero_add] at hb; omega)
      have hgr := grown 0 (by omega)
      simp only [Nat.zero_add, List.nil_append, Array.empty_append] at hgr ⊢
      exact ⟨_, _, hr, hgr, rfl, rfl, rfl, by simp, fun b hb _ => heap_alloc_old w.drew _ b hb, fun g hg => by simp [Value.ownBlock] at hg, .inr rfl, fun h0 => by omega⟩
    · by_cases hroom : n + k ≤ cap
      · have hfit : n * i.size + xs.length ≤ cur.size := by rw [hl, hcs, ← Nat.add_mul]; exact Nat.mul_le_mul_right _ hroom
        have hr := run_append_room (P := P) w t ty el i ht hi g n cap cur hg ⟨b, q, none⟩ k c xs hl hnews h1 hroom hfit
        refine ⟨_, _, hr, ⟨hll, .inr ⟨g, cap, _, rfl, hbg, setRow_heap w g cur _ el _ hg, hroom, hcm3, ?_, ?_⟩⟩, rfl, rfl, rfl, by simp, fun k2 _ hk2 => setRow_other w g k2 _ (fun e => hk2 (by simp [Value.ownBlock, e])), fun g2 hg2 j hj => ?_, .inl rfl, fun h0 => by omega⟩
        · simp only [List.size_toArray, List.length_append, List.length_take, List.length_drop, Array.length_toList]
          omega
        · rw [htake, ← hll]
          exact List.take_left
        · simp [Value.ownBlock] at hg2; subst hg2
          rw [cell_of_row _ g j _ el (0, 0) (setRow_heap w g cur _ el _ hg), cell_of_row _ g j cur el (0, 0) hg]
          simp only [List.getElem?_toArray, List.append_assoc]
          rw [List.getElem?_append_left (by simp; omega), List.getElem?_take, if_pos hj]
          simp
      · have holds : ∀ j u, ys[j]? = some u → w.cell? ((⟨g, 0, none⟩ : Addr).add j) = some u := hown.cells (g := g) rfl
        have hr := run_append_grow (P := P) w t ty el i z ht hi hz ⟨g, 0, none⟩ n cap ys hown.1 holds ⟨b, q, none⟩ k c xs hl hnews (by omega) (by omega) (growslice_fits (by omega) hbytes)
        have hgr := grown cap (by omega)
        exact ⟨_, _, hr, hgr, rfl, rfl, rfl, by simp, fun b hb _ => heap_alloc_old w.drew _ b hb, fun g2 hg2 j _ => World.cell?_of_block (heap_alloc_old w.drew _ _ (by
          simp [Value.ownBlock] at hg2; subst hg2; exact (Array.getElem?_eq_some_iff.1 hg).1)), .inr rfl, fun h0 => by omega⟩

def okAppend (P : Program) (gl : Globs) (o : Oper) (r : RowSpec) (a x : Opd) : Bool :=
  match bi o.op with
  | some (.append, [a', x'], [t, t']) => okX gl a' a && okX gl x' x && t == t' && (match sliceP P t with | some el => specP P el r | none => false)
  | _ => false

theorem ownBlock_blk {w : World} {el sz n : Nat} {v : Value} {ys : List Value} (h : w.ownsRow 0 el sz v n ys) : blk v = v.ownBlock ∧ one v := by
  rcases h.2 with ⟨rfl, _⟩ | ⟨g, cap, cur, rfl, _⟩
  · exact ⟨rfl, rfl⟩
  · exact ⟨rfl, rfl⟩

theorem sound_append (hs : Sim oc gl s) (he : EnvR s e A.tmps) (cx : Cx) (slot : Nat) {r : RowSpec} {a x : Opd} {v : V} {m' : Mem} (ok : okAppend P gl o r a x = true) (h : appendV cx slot r s.m (a.ev e) (x.ev e) = some (v, m')) :
    Gives P oc gl s A o v m' := by
  unfold okAppend at ok
  split at ok
  rotate_left
  · cases ok
  rename_i a' x' t t' ho
  simp only [Bool.and_eq_true, beq_iff_eq] at ok
  obtain ⟨⟨⟨oka, okx⟩, rfl⟩, hty⟩ := ok
  split at hty <;> try cases hty
  rename_i el hel
  obtain ⟨hrt, hz, i, z, hi, h4, h5, hzz, h6⟩ := specP_eq hty
  have hu := sliceP_eq hel
  have ha := okX_ok hs he oka
  have hx := okX_ok hs he okx
  generalize a.ev e = va at ha h
  generalize x.ev e = vx at hx h
  obtain ⟨cn, hrun⟩ := bi_run (P := P) (A := A) ho s.w
  unfold appendV appendN at h
  cases hel2 : elemsD s.m vx with
  | none => rw [hel2] at h; cases h
  | some p =>
    obtain ⟨k, ds⟩ := p
    rw [hel2] at h
    obtain ⟨ad, c, xs, hxv, hd, hxc⟩ := elems_ok hs hx hel2
    simp only at h
    have hxc' : ∀ ds', ds = ds' → (k = 0 ∧ xs = []) ∨ ∃ b q, ad = some ⟨b, q, none⟩ ∧ ∀ j v, xs[j]? = some v → s.w.cell? ⟨b, q + j, none⟩ = some v := by
      intro ds' _
      rcases hxc with ⟨h0, h1⟩ | h
      · subst h1; simp only [DRs] at hd; exact .inl ⟨h0, hd⟩
      · exact .inr h
    split at h
    · rename_i j off len top
      split at h
      · rename_i wr ty sz n rs hl
        split at h
        · rename_i hc
          obtain ⟨rfl, rfl, rfl, rfl, rfl, hdl, hroom⟩ := hc
          simp only [Option.some.injEq, Prod.mk.injEq] at h
          obtain ⟨rfl, rfl⟩ := h
          have h2 := ha.2
          rw [hl] at h2
          obtain ⟨hz2, ys, hown, hdr, him⟩ := hs.objs j _ hl
          have hav : A.eval a' = s.φ j := by
            rcases h2.2 rfl with ⟨_, _, hx⟩ | ⟨hne, _⟩ | ⟨hne, _⟩
            · exact hx
            · exact absurd ⟨rfl, rfl⟩ hne
            · exact absurd ⟨rfl, rfl⟩ hne
          obtain ⟨hr1, hr2⟩ := roomy_eq hroom
          have hxl : xs.length = k * r.sz := (DRs.length _ _ hd).symm.trans hdl
          have hel' : el = r.t := hrt.symm
          obtain ⟨v', w', hr, hown', hos, htp, hout, hsize, hfar, hnear, hblk, hk0⟩ := append_own (P := P) s.w t o.type el i z r.sz r.by_ hu hi hzz h4 h5 h6 (s.φ j) len ys (by rw [hel']; exact hown) ad k c xs hxl (hxc' _ rfl) (DRs.ones _ _ hd) hr1 hr2
          obtain ⟨hb1, _⟩ := ownBlock_blk hown
          obtain ⟨hb2, hone⟩ := ownBlock_blk hown'
          have hlt' : ∀ b, blk v' = some b → b < w'.heap.size := by
            intro b hb
            rw [hb2] at hb
            exact (hown'.lt b hb).2
          obtain ⟨k1, k2⟩ := hs.change j (.row wr r.t r.sz (len + k) (rs ++ ds)) v' w' (fun b q => s.Im b q ∨ (wr = false ∧ blk v' = some b ∧ q < (len + k) * r.sz)) hos htp hout hsize
            (fun b hb hne => hfar b hb (by rw [← hb1]; exact hne ⟨_, hl, by simp⟩)) (fun _ _ h => .inl h)
            (fun b q hi => by
              by_cases hbo : (s.φ j).ownBlock = some b
              · have := ((him b hbo q).1 hi).2
                exact hnear b hbo q this
              · exact World.cell?_of_block (hfar b (hs.imlt b q hi) hbo))
            (fun b q h => h.imp id (fun h => h.2.1))
            (fun b q h => h.elim (fun h => Nat.lt_of_lt_of_le (hs.imlt b q h) hsize) (fun h => hlt' b h.2.1))
            (fun b hb => by
              rw [hb2] at hb
              rcases hblk with e1 | e1
              · exact .inr ⟨⟨_, hl, by simp⟩, by rw [hb1, ← e1]; exact hb⟩
              · rw [e1] at hb; cases hb; exact .inl (Nat.le_refl _))
            (fun o2 ho2 => by
              rw [hl] at ho2; cases ho2
              exact ⟨rfl, rfl, rfl, Nat.le_add_right _ _, fun e => hk0 (by omega)⟩)
            (fun hE => ⟨hz2, ys ++ xs, by rw [← hel']; exact hown', DRs.append _ _ _ _ (DRs.ext hE.im hE.keep rs _ hdr) (DRs.ext hE.im hE.keep ds _ hd), fun b hb q => by
              constructor
              · rintro (h | ⟨h1, h2, h3⟩)
                · rcases hblk with e1 | e1
                  · have hbo : (s.φ j).ownBlock = some b := by rw [← e1]; exact hb
                    have := (him b hbo q).1 h
                    refine ⟨this.1, ?_⟩
                    rw [Nat.add_mul]; omega
                  · rw [e1] at hb; cases hb
                    exact absurd (hs.imlt _ q h) (Nat.lt_irrefl _)
                · exact ⟨h1, h3⟩
              · rintro ⟨h1, h2⟩
                exact .inr ⟨h1, by rw [hb2]; exact hb, h2⟩⟩)
          refine ⟨_, v', ?_, k1, k2, rfl, newRow_ref s j v' hone _ _ _ _ _ _ _ _ (by simp)⟩
          rw [hrun]
          simp only [List.map_cons, List.map_nil, builtin, hav, hxv]
          simp [hr]
        · cases h
      · cases h
    · split at h
      · rename_i hc
        obtain ⟨hk, hdl, hroom⟩ := hc
        simp only [Option.some.injEq, Prod.mk.injEq] at h
        obtain ⟨rfl, rfl⟩ := h
        obtain ⟨a0, hav⟩ := ha
        obtain ⟨hr1, hr2⟩ := roomy_eq hroom
        have hxl : xs.length = k * r.sz := (DRs.length _ _ hd).symm.trans hdl
        have hel' : el = r.t := hrt.symm
        obtain ⟨b, q, rfl, hcell⟩ : ∃ b q, ad = some ⟨b, q, none⟩ ∧ ∀ j v, xs[j]? = some v → s.w.cell? ⟨b, q + j, none⟩ = some v := by
          rcases hxc' _ rfl with ⟨h0, _⟩ | h
          · exact absurd h0 hk
          · exact h
        have hnews : ∀ j v, xs[j]? = some v → s.w.cell? ((⟨b, q, none⟩ : Addr).add j) = some v := fun j v hj => by rw [addr_add]; exact hcell j v hj
        -- whatever address it had, a new row is made
        obtain ⟨cap, hge, hcm, hr⟩ : ∃ cap, k ≤ cap ∧ cap ≤ maxLen ∧ (Builtin.append_ #[t, t] o.type #[.slice a0 0 0, .slice (some ⟨b, q, none⟩) k c]).run P s.w =
            .ok (.slice (some ⟨s.w.heap.size, 0, none⟩) k cap) (s.w.drew.alloc (.cells (xs.toArray ++ Builtin.zeroCells z.cells (cap - k)) el)) := by
          have hcmk : k ≤ maxLen := by simp only [maxLen]; omega
          cases a0 with
          | none =>
            exact ⟨_, grownCap_ge s.w k 0 el, grownCap_le_maxLen s.w k 0 el hcmk, run_append_nil (P := P) s.w t o.type el i z hu hi hzz ⟨b, q, none⟩ k c xs (by rw [h4]; exact hxl) hnews (by omega) (by omega) (by rw [h5]; omega)⟩
          | some a1 =>
            have := run_append_grow (P := P) s.w t o.type el i z hu hi hzz a1 0 0 [] (by simp) (by simp) ⟨b, q, none⟩ k c xs (by rw [h4]; exact hxl) hnews (by omega) (by omega) (growslice_fits (by omega) (by rw [h5]; simpa using hr1))
            simp only [Nat.zero_add, Array.empty_append] at this
            exact ⟨_, grownCap_ge s.w k 0 el, grownCap_le_maxLen s.w k 0 el hcmk, this⟩
        have hcs : (xs.toArray ++ Builtin.zeroCells z.cells (cap - k)).size = cap * r.sz := by
          simp only [Array.size_append, List.size_toArray, size_zeroCells, h6, hxl, ← Nat.add_mul]
          congr 1; omega
        obtain ⟨k1, k2⟩ := hs.change (newId cx slot s.m) (.row r.wr r.t r.sz k ds) (.slice (some ⟨s.w.heap.size, 0, none⟩) k cap) (s.w.drew.alloc (.cells (xs.toArray ++ Builtin.zeroCells z.cells (cap - k)) el))
          (fun b q => s.Im b q ∨ (r.wr = false ∧ b = s.w.heap.size ∧ q < k * r.sz)) rfl rfl rfl (by simp) (fun b hb _ => heap_alloc_old s.w.drew _ _ hb) (fun _ _ h => .inl h)
          (fun b q hi => World.cell?_of_block (heap_alloc_old s.w.drew _ _ (hs.imlt b q hi))) (fun b q h => h.imp id (fun h => by rw [h.2.1]; rfl))
          (fun b q h => h.elim (fun h => Nat.lt_of_lt_of_le (hs.imlt b q h) (by simp)) (fun h => by simp; omega))
          (fun b hb => by simp [blk] at hb; subst hb; exact .inl (Nat.le_refl _)) (fun o2 ho2 => by rw [newId_fresh] at ho2; cases ho2)
          (fun hE => ⟨hz, xs, ⟨hxl, .inr ⟨s.w.heap.size, cap, _, rfl, Nat.zero_le _, by rw [← hel']; exact heap_alloc_new s.w.drew _, hge, hcm, hcs, by
              simp only [Array.toList_append]
              rw [← hxl]; exact List.take_left⟩⟩, DRs.ext hE.im hE.keep ds _ hd, fun b hb q => by
              simp [Value.ownBlock] at hb; subst hb
              exact ⟨fun h => by
                rcases h with h | h
                · exact absurd (hs.imlt _ q h) (Nat.lt_irrefl _)
                · exact ⟨h.1, h.2.2⟩, fun h => .inr ⟨h.1, rfl, h.2⟩⟩⟩)
        refine ⟨_, _, ?_, k1, k2, rfl, newRow_ref s (newId cx slot s.m) (.slice (some ⟨s.w.heap.size, 0, none⟩) k cap) rfl _ _ _ _ _ _ _ _ (by simp)⟩
        rw [hrun]
        simp only [List.map_cons, List.map_nil, builtin, hav, hxv]
        simp [hr]
      · cases h
    · cases h

end
end Go.Evl

