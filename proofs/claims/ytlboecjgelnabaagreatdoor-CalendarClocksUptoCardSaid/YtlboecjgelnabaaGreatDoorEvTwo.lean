
/-
  Each operation that calls nobody does what the evaluator says (second part: loads, stores, what makes memory).
-/
import Derived.Test.YtlboecjgelnabaaGreatDoorEvOne
namespace Go.Evl
open Go.RowKit

section
variable {P : Program} {oc : Codes} {gl : Globs} {s : S} {A : Act} {o : Oper} {e : Env}

theorem run_loadVar {t : TypeId} {n : Option Nat} {b q off : Nat} {xs : List Value} {y : Value} (hc : cellP P t n = true) (w : World) (hcell : ∀ j v, xs[j]? = some v → w.cell? ⟨b, q + j, none⟩ = some v)
    (h : readN n xs off = some y) : (loadVar t ⟨b, q + off, none⟩).run P w = .ok y w := by
  cases n with
  | none =>
    simp only [cellP, beq_iff_eq] at hc
    have hy : w.cell? ⟨b, q + off, none⟩ = some y := hcell off y h
    simp [loadVar, run_isAgg hc, run_load, hy]
  | some k =>
    simp only [cellP, Bool.and_eq_true, beq_iff_eq] at hc
    simp only [readN] at h
    split at h
    · rename_i hle
      obtain rfl := Option.some.inj h
      have hl : (win xs off k).length = k := by simp [win]; omega
      have hr := run_loadCells_list (P := P) w ⟨b, q + off, none⟩ (win xs off k) (fun j v hj => by
        have hj' : xs[off + j]? = some v := by
          simp only [win, List.getElem?_take, List.getElem?_drop] at hj
          split at hj
          · exact hj
          · cases hj
        rw [addr_add, Nat.add_assoc]
        exact hcell (off + j) v hj')
      rw [hl] at hr
      simp [loadVar, run_isAgg hc.1, run_sizeOf hc.2, hr]
    · cases h

theorem ownsRow_cells {w : World} {t sz n : Nat} {p : Value} {xs : List Value} {b c : Nat} (h : w.ownsRow 0 t sz p n xs) (hp : p = .slice (some ⟨b, 0, none⟩) n c) : ∀ j v, xs[j]? = some v → w.cell? ⟨b, j, none⟩ = some v := by
  intro j v hj
  have := h.cells (g := b) (by rw [hp]; rfl) j v hj
  rwa [addr_add, Nat.zero_add] at this

def okLoad (P : Program) (gl : Globs) (o : Oper) (n : Option Nat) (a : Opd) : Bool :=
  match o.op with
  | .load t x => okX gl x a && cellP P t n
  | _ => false

/-- A load: what the address gives. -/
theorem loadV_ok (hs : Sim oc gl s) {t : TypeId} {n : Option Nat} {v r : V} {x : Value} (hc : cellP P t n = true) (hv : VR s v x) (h : loadV n s.m v = some r) :
    ∃ a y, x = .pointer (some a) ∧ (loadVar t a).run P s.w = .ok y s.w ∧ VR s r y := by
  unfold loadV at h
  split at h
  · rename_i cs off
    obtain ⟨b, q, rfl, hcr⟩ := hv
    obtain ⟨xs, hd, hcell⟩ := CR.cells cs q hcr
    obtain ⟨y, hy, hvy⟩ := pickD_ok (s := s) hd h
    exact ⟨_, y, rfl, run_loadVar hc s.w hcell hy, hvy⟩
  · rename_i i off top
    have h2 := hv.2
    split at h
    · rename_i cs hl
      rw [hl] at h2
      obtain ⟨b, hp, rfl⟩ := h2
      obtain ⟨b', xs, hp', hh, hvs, _⟩ := hs.objs i _ hl
      have hbb : b' = b := by rw [hp] at hp'; injection hp' with e1; injection e1 with e1; injection e1 with e1 _; exact e1.symm
      subst hbb
      obtain ⟨y, hy, hvy⟩ := pickV_ok hvs h
      refine ⟨_, y, rfl, ?_, hvy⟩
      have := run_loadVar (q := 0) hc s.w (fun j v hj => by
        rw [Nat.zero_add, cell_of_row s.w b' j xs _ (0, 0) hh]
        simpa using hj) hy
      simpa using this
    · rename_i wr tt sz l ds hl
      rw [hl] at h2
      split at h
      · rename_i hlt
        subst hlt
        obtain ⟨b, cap, hp, rfl⟩ := h2.2 rfl
        obtain ⟨hz, xs, hown, hd, _⟩ := hs.objs i _ hl
        obtain ⟨y, hy, hvy⟩ := pickD_ok (s := s) hd h
        refine ⟨_, y, rfl, ?_, hvy⟩
        have hcl := ownsRow_cells hown hp
        have := run_loadVar (q := 0) hc s.w (fun j v hj => by rw [Nat.zero_add]; exact hcl j v hj) hy
        simpa using this
      · cases h
    · cases h
  · cases h

theorem sound_load (hs : Sim oc gl s) (he : EnvR s e A.tmps) {n : Option Nat} {a : Opd} {v : V} (ok : okLoad P gl o n a = true) (h : loadV n s.m (a.ev e) = some v) : Gives P oc gl s A o v s.m := by
  unfold okLoad at ok
  split at ok <;> try cases ok
  rename_i t x ho
  simp only [Bool.and_eq_true] at ok
  obtain ⟨ad, y, hx, hr, hv⟩ := loadV_ok hs ok.2 (okX_ok hs he ok.1) h
  exact gives_same hs (x := y) (by simp [execOp, ho, Instr.loadAt, Instr.sureAddr, hx, hr]) hv

/-! ### Stores -/

def okStore (P : Program) (gl : Globs) (o : Oper) (n : Nat) (a x : Opd) : Bool :=
  match o.op with
  | .store t b y => okX gl b a && okX gl y x && sizeP P t == some n
  | _ => false

theorem patch_length {α : Type} (cs : List α) (off : Nat) (xs : List α) (h : off + xs.length ≤ cs.length) : (patch cs off xs).length = cs.length := by
  simp [patch]; omega

theorem getElem?_patch {α : Type} (cs : List α) (off : Nat) (xs : List α) (h : off ≤ cs.length) (j : Nat) :
    (patch cs off xs)[j]? = if j < off then cs[j]? else if j < off + xs.length then xs[j - off]? else cs[j]? := by
  unfold patch
  rw [List.append_assoc, List.getElem?_append, List.length_take, Nat.min_eq_left h]
  split
  · rename_i hj; rw [List.getElem?_take, if_pos hj]
  · rename_i hj
    rw [List.getElem?_append]
    split
    · rename_i hj2; rw [if_pos (by omega)]
    · rename_i hj2
      rw [if_neg (by omega), List.getElem?_drop]
      congr 1; omega

theorem patch_take {α : Type} (cs : List α) (off : Nat) (xs : List α) (k : Nat) (h : off + xs.length ≤ k) (hk : k ≤ cs.length) : (patch cs off xs).take k = patch (cs.take k) off xs := by
  apply List.ext_getElem?
  intro j
  rw [List.getElem?_take, getElem?_patch _ _ _ (by omega), getElem?_patch _ _ _ (by simp; omega)]
  simp only [List.getElem?_take]
  by_cases hj : j < k
  · simp only [hj, if_true]
  · rw [if_neg hj, if_neg (by omega), if_neg (by omega), if_neg hj]

theorem setRow_cells (w : World) (g : Nat) (cs : Array Value) (a : Addr) (h : a.block ≠ g) : (w.setRow g cs).cell? a = w.cell? a :=
  World.cell?_of_block (setRow_other w g a.block cs h)

/-- Storing several cells into a block that is known whole. -/
theorem run_storeVar {t : TypeId} {n b off : Nat} {v : Value} {cur : Array Value} {ty : TypeId} (hsz : sizeP P t = some n) (w : World) (hg : w.heap[b]? = some (.cells cur ty (0, 0))) (hn : v.cells.toList.length = n)
    (hle : off + n ≤ cur.size) (h1 : ∀ x ∈ v.cells.toList, x.oneCell' = true) :
    (storeVar t ⟨b, off, none⟩ v).run P w = .ok () (w.setRow b (patch cur.toList off v.cells.toList).toArray) := by
  have hr := run_storeCells_at P b off ty v.cells.toList 0 cur w hg (by rw [hn]; omega) h1
  simp only [Nat.add_zero] at hr
  have hn' : v.cells.size = n := by simpa using hn
  simp [storeVar, run_sizeOf hsz, hn', hr, patch]

theorem VRs.patch {cs : List V} {xs : List Value} {off : Nat} {ds : List V} {ys : List Value} (h : VRs s cs xs) (k : VRs s ds ys) : VRs s (patch cs off ds) (patch xs off ys) := by
  unfold Evl.patch
  rw [VRs.length _ _ k]
  exact VRs.append _ _ _ _ (VRs.append _ _ _ _ (VRs.take _ _ _ h) k) (VRs.drop _ _ _ h)
theorem DRs.patch {w : World} {Im : Nat → Nat → Prop} {cs : List D} {xs : List Value} {off : Nat} {ds : List D} {ys : List Value} (h : DRs w Im cs xs) (k : DRs w Im ds ys) : DRs w Im (Evl.patch cs off ds) (Evl.patch xs off ys) := by
  unfold Evl.patch
  rw [DRs.length _ _ k]
  exact DRs.append _ _ _ _ (DRs.append _ _ _ _ (DRs.take _ _ _ h) k) (DRs.drop _ _ _ h)

/-- A block of an object's own is written: nothing else that is known turns. -/
theorem sim_setRow (hs : Sim oc gl s) {i : Id} {b : Nat} {ob o' : Ob} {cur : Array Value} {ty : TypeId} (cs : Array Value) (hl : look s.m i = some ob) (hng : ob ≠ .gone) (hb : blk (s.φ i) = some b)
    (hg : s.w.heap[b]? = some (.cells cur ty (0, 0))) (him : ∀ j, s.Im b j → cs[j]? = cur[j]?) (ht : Turned ob o' (s.φ i) (s.φ i))
    (ho : Ext (fun _ => True) s ⟨fun k => if i = k then s.φ i else s.φ k, upd s.m i o', s.w.setRow b cs, s.Im⟩ → ObR oc ⟨fun k => if i = k then s.φ i else s.φ k, upd s.m i o', s.w.setRow b cs, s.Im⟩ (s.φ i) o') :
    Sim oc gl ⟨fun k => if i = k then s.φ i else s.φ k, upd s.m i o', s.w.setRow b cs, s.Im⟩ ∧ Ext (fun _ => True) s ⟨fun k => if i = k then s.φ i else s.φ k, upd s.m i o', s.w.setRow b cs, s.Im⟩ := by
  refine hs.change i o' (s.φ i) (s.w.setRow b cs) s.Im rfl rfl rfl (by simp) (fun c hc hne => ?_) (fun _ _ h => h) (fun c j hj => ?_) (fun _ _ h => .inl h) (fun c j h => by simpa using hs.imlt c j h)
    (fun c hc => .inr ⟨⟨ob, hl, hng⟩, hc⟩) (fun x hx => by rw [hl] at hx; cases hx; exact ht) ho
  · exact setRow_other _ _ _ _ (fun e => hne ⟨ob, hl, hng⟩ (by rw [e]; exact hb))
  · by_cases hcb : c = b
    · subst hcb
      rw [cell_of_row _ c j cs ty (0, 0) (setRow_heap _ c cur cs ty (0, 0) hg), cell_of_row _ c j cur ty (0, 0) hg]
      exact him j hj
    · exact setRow_cells _ _ _ _ hcb

theorem phi_same (φ : Id → Value) (i : Id) : (fun k => if i = k then φ i else φ k) = φ := by
  funext k; split
  · rename_i h; rw [h]
  · rfl

/-- A value as data, in the state's own words. -/
theorem freeze_row (hs : Sim oc gl s) {i : Id} {off len top : Nat} {wr : Bool} {t sz n : Nat} {xs : List D} {x : Value} (hl : look s.m i = some (.row wr t sz n xs)) (hw : wr = false) (hn : n = top) (hle : off + len ≤ n)
    (hv : VR s (.ref i off len top) x) : DR s.w s.Im (.list len (if off = 0 ∧ len = n then xs else win xs (off * sz) (len * sz))) x := by
  have h2 := hv.2
  rw [hl] at h2
  subst hn; subst hw
  obtain ⟨hz, ys, hown, hd, him⟩ := hs.objs i _ hl
  have hlen : xs.length = n * sz := (DRs.length _ _ hd).trans hown.1
  -- the cells of the row, sealed
  have row : ∀ b cap, s.φ i = .slice (some ⟨b, 0, none⟩) n cap → CR s.w s.Im b 0 xs := by
    intro b cap hp
    have hcl := ownsRow_cells hown hp
    refine CR.mk xs ys 0 hd (fun j v hj => by rw [Nat.zero_add]; exact hcl j v hj) (fun j hj => ?_)
    rw [Nat.zero_add]
    refine (him b (by rw [hp]; rfl) j).2 ⟨rfl, ?_⟩
    have := hown.1; omega
  have part : ∀ b cap, s.φ i = .slice (some ⟨b, 0, none⟩) n cap → CR s.w s.Im b (off * sz) (win xs (off * sz) (len * sz)) := by
    intro b cap hp
    have := CR.drop (off * sz) xs 0 (row b cap hp)
    rw [Nat.zero_add] at this
    exact CR.take _ _ _ this
  have hzero : len = 0 → (if off = 0 ∧ len = n then xs else win xs (off * sz) (len * sz)) = [] := by
    intro h0
    subst h0
    split
    · rename_i h; have : n = 0 := h.2.symm; subst this; exact List.eq_nil_of_length_eq_zero (by simpa using hlen)
    · simp [win]
  rcases h2.2 rfl with ⟨rfl, rfl, hx⟩ | ⟨hne, b, cap, capp, hp, _, _, hlc, hx⟩ | ⟨hne, _, rfl, a, c, hx⟩
  · rcases hown.2 with ⟨hp, h0⟩ | ⟨g, cap, cur, hp, _, _, hnc, _⟩
    · rw [hzero h0, h0]
      exact ⟨none, 0, hx.trans hp, Nat.le_refl _, .inl ⟨rfl, rfl⟩⟩
    · simp only [and_self, if_true]
      exact ⟨_, _, hx.trans hp, hnc, .inr ⟨g, 0, rfl, row g cap hp⟩⟩
  · refine ⟨_, _, hx, hlc, .inr ⟨b, off * sz, rfl, ?_⟩⟩
    split
    · rename_i h; obtain ⟨rfl, rfl⟩ := h; rw [Nat.zero_mul]; exact row b capp hp
    · exact part b capp hp
  · rw [hzero rfl]
    exact ⟨_, _, hx, Nat.zero_le _, .inl ⟨rfl, rfl⟩⟩

mutual
theorem freeze_ok (hs : Sim oc gl s) : ∀ (v : V) (d : D) (x : Value), freeze false s.m v = some d → VR s v x → DR s.w s.Im d x
  | .d y, d, x, h, hv => by simp only [freeze, Option.some.injEq] at h; subst h; exact hv
  | .agg cs, d, x, h, hv => by
    simp only [freeze, Option.map_eq_some_iff] at h
    obtain ⟨ds, h1, rfl⟩ := h
    obtain ⟨xs, rfl, hv⟩ := hv
    exact ⟨xs, rfl, freezeL_ok hs cs ds _ h1 hv⟩
  | .ref i off len top, d, x, h, hv => by
    simp only [freeze] at h
    split at h
    · rename_i wr t sz n xs hl
      split at h
      · rename_i hc
        obtain ⟨h1, h2, h3⟩ := hc
        obtain rfl := Option.some.inj h
        exact freeze_row hs hl (by simpa using h1) h2 h3 hv
      · cases h
    · cases h
  | .tup _, _, _, h, _ => by simp [freeze] at h
  | .ptr .., _, _, h, _ => by simp [freeze] at h
  | .lptr .., _, _, h, _ => by simp [freeze] at h
  | .fn .., _, _, h, _ => by simp [freeze] at h
  | .yld _, _, _, h, _ => by simp [freeze] at h
  | .mp _, _, _, h, _ => by simp [freeze] at h
  | .it _, _, _, h, _ => by simp [freeze] at h
  | .skip, _, _, h, _ => by simp [freeze] at h
  | .undef, _, _, h, _ => by simp [freeze] at h
theorem freezeL_ok (hs : Sim oc gl s) : ∀ (cs : List V) (ds : List D) (xs : List Value), freezeL false s.m cs = some ds → VRs s cs xs → DRs s.w s.Im ds xs
  | [], ds, xs, h, hv => by simp only [freezeL, Option.some.injEq] at h; subst h; exact hv
  | v :: r, ds, xs, h, hv => by
    obtain ⟨x, ys, rfl, h1, h2, h3⟩ := hv
    simp only [freezeL] at h
    split at h
    · rename_i d ds' e1 e2
      obtain rfl := Option.some.inj h
      exact ⟨x, ys, rfl, h1, freeze_ok hs v d x e1 h2, freezeL_ok hs r ds' ys e2 h3⟩
    · cases h
end

theorem cellsD_ok (hs : Sim oc gl s) {v : V} {ds : List D} {x : Value} (h : cellsD s.m v = some ds) (hv : VR s v x) : DRs s.w s.Im ds x.cells.toList := by
  unfold cellsD at h
  split at h
  · rename_i cs hf
    obtain rfl := Option.some.inj h
    obtain ⟨xs, rfl, hd⟩ := freeze_ok hs v _ x hf hv
    exact hd
  · rename_i d hna hf
    obtain rfl := Option.some.inj h
    have hd := freeze_ok hs v _ x hf hv
    cases d with
    | agg cs => exact absurd rfl (hna cs)
    | int k n => obtain rfl := hd; exact ⟨_, _, rfl, rfl, rfl, rfl⟩
    | bool b => obtain rfl := hd; exact ⟨_, _, rfl, rfl, rfl, rfl⟩
    | str b => obtain rfl := hd; exact ⟨_, _, rfl, rfl, rfl, rfl⟩
    | nil => obtain ⟨a, rfl⟩ := hd; exact ⟨_, _, rfl, rfl, ⟨a, rfl⟩, rfl⟩
    | list n l => obtain ⟨a, c, rfl, h⟩ := hd; exact ⟨_, _, rfl, rfl, ⟨a, c, rfl, h⟩, rfl⟩
    | nilp => obtain rfl := hd; exact ⟨_, _, rfl, rfl, rfl, rfl⟩
    | nilf => obtain rfl := hd; exact ⟨_, _, rfl, rfl, rfl, rfl⟩
    | nili => obtain rfl := hd; exact ⟨_, _, rfl, rfl, rfl, rfl⟩
    | nilm => obtain rfl := hd; exact ⟨_, _, rfl, rfl, rfl, rfl⟩
  · cases h

theorem sound_store (hs : Sim oc gl s) (he : EnvR s e A.tmps) {n : Nat} {a x : Opd} {m' : Mem} (ok : okStore P gl o n a x = true) (h : storeV n s.m (a.ev e) (x.ev e) = some m') : GivesU P oc gl s A o m' := by
  unfold okStore at ok
  split at ok <;> try cases ok
  rename_i t b y ho
  simp only [Bool.and_eq_true, beq_iff_eq] at ok
  obtain ⟨⟨okb, oky⟩, hsz⟩ := ok
  have hb := okX_ok hs he okb
  have hy := okX_ok hs he oky
  generalize a.ev e = va at hb h
  generalize x.ev e = vx at hy h
  unfold storeV at h
  split at h
  · rename_i i off top
    have hb2 := hb.2
    split at h
    · rename_i ty cs hl
      split at h
      · rename_i xs hcx
        split at h
        · rename_i hc
          obtain ⟨hc1, hc2⟩ := hc
          obtain rfl := Option.some.inj h
          rw [hl] at hb2
          obtain ⟨bk, hp, hx⟩ := hb2
          obtain ⟨bk', cur, hp', hh, hvs, him⟩ := hs.objs i _ hl
          have hbb : bk' = bk := by rw [hp] at hp'; injection hp' with e1; injection e1 with e1; injection e1 with e1 _; exact e1.symm
          subst hbb
          have hvx := VR.one hy hcx
          have hlen := VRs.length _ _ hvs
          have hn : (A.eval y).cells.toList.length = n := by rw [← VRs.length _ _ hvx]; exact hc1
          have hrun := run_storeVar (off := off) hsz s.w hh hn (by simp at hlen; omega) (VRs.ones _ _ hvx)
          have hpl : (patch cs off xs).length = cs.length := patch_length _ _ _ (by omega)
          obtain ⟨h1, h2⟩ := sim_setRow hs (i := i) (o' := .cells ty (patch cs off xs)) (patch cur.toList off (A.eval y).cells.toList).toArray hl (by simp) (by rw [hp]; rfl) hh (fun j hj => absurd hj (him j)) ⟨rfl, rfl, hpl⟩
            (fun hE => ⟨bk', _, hp, by simpa using setRow_heap s.w bk' cur _ ty (0, 0) hh, by
              have := VRs.patch (off := off) (VRs.ext hE cs _ (fun _ _ => trivial) hvs) (VRs.ext hE xs _ (fun _ _ => trivial) hvx)
              simpa using this, him⟩)
          exact ⟨_, by simp [execOp, ho, Instr.storeAt, Instr.sureAddr, hx, hrun], h1, h2, rfl⟩
        · cases h
      · cases h
    · rename_i ty sz l xs hl
      split at h
      · rename_i ds hcd
        split at h
        · rename_i hc
          obtain ⟨hc1, hc2, rfl⟩ := hc
          obtain rfl := Option.some.inj h
          rw [hl] at hb2
          obtain ⟨bk, cap, hp, hx⟩ := hb2.2 rfl
          obtain ⟨hz, ys, hown, hd, him⟩ := hs.objs i _ hl
          have hvx := cellsD_ok hs hcd hy
          rcases hown.2 with ⟨hp', h0⟩ | ⟨g, cap', cur, hp', hg0, hh, hnc, hcm, hcs, htake⟩
          · rw [hp] at hp'; injection hp' with e1; cases e1
          have hbb : bk = g := by rw [hp] at hp'; injection hp' with e1; injection e1 with e1; injection e1 with e1 _
          subst hbb
          have hlen := (DRs.length _ _ hd).trans hown.1
          have hn : (A.eval y).cells.toList.length = n := by rw [← DRs.length _ _ hvx]; exact hc1
          have hcap : l * sz ≤ cap' * sz := Nat.mul_le_mul_right _ hnc
          have hfit : off + n ≤ l * sz := by rw [← hlen]; exact hc2
          have hrun := run_storeVar (off := off) hsz s.w hh hn (by omega) (DRs.ones _ _ hvx)
          have hpl : (patch xs off ds).length = xs.length := patch_length _ _ _ (by omega)
          obtain ⟨h1, h2⟩ := sim_setRow hs (i := i) (o' := .row true ty sz l (patch xs off ds)) (patch cur.toList off (A.eval y).cells.toList).toArray hl (by simp) (by rw [hp]; rfl) hh
            (fun j hj => absurd ((him bk (by rw [hp]; rfl) j).1 hj).1 (by simp)) ⟨rfl, rfl, rfl, Nat.le_refl _, fun _ => rfl⟩
            (fun hE => ⟨hz, patch ys off (A.eval y).cells.toList, ⟨by rw [patch_length _ _ _ (by rw [hn, hown.1]; exact hfit)]; exact hown.1, .inr ⟨bk, cap', _, hp', hg0, by simpa using setRow_heap s.w bk cur _ ty (0, 0) hh, hnc, hcm, by
                have := patch_length cur.toList off (A.eval y).cells.toList (by rw [hn]; simp; omega)
                simp [this, hcs], by
                simp only []
                rw [← htake]
                exact patch_take _ _ _ _ (by rw [hn]; exact hfit) (by simp; omega)⟩⟩, DRs.patch (DRs.ext hE.im hE.keep xs _ hd) (DRs.ext hE.im hE.keep ds _ hvx), him⟩)
          exact ⟨_, by simp [execOp, ho, Instr.storeAt, Instr.sureAddr, hx, hrun], h1, h2, rfl⟩
        · cases h
      · cases h
    · cases h
  · cases h

/-! ### What makes memory -/

/-- A new block of cells, seen as an object. -/
theorem newCells (hs : Sim oc gl s) (i : Id) (hi : look s.m i = none) (cs : List V) (xs : Array Value) (t : TypeId) (hv : VRs s cs xs.toList) :
    Sim oc gl ⟨fun k => if i = k then .pointer (some ⟨s.w.heap.size, 0, none⟩) else s.φ k, upd s.m i (.cells t cs), s.w.alloc (.cells xs t), s.Im⟩ ∧
    Ext (fun _ => True) s ⟨fun k => if i = k then .pointer (some ⟨s.w.heap.size, 0, none⟩) else s.φ k, upd s.m i (.cells t cs), s.w.alloc (.cells xs t), s.Im⟩ :=
  hs.change i _ _ _ s.Im rfl rfl rfl (by simp) (fun b hb _ => heap_alloc_old _ _ _ hb) (fun _ _ h => h)
    (fun b j hj => World.cell?_of_block (heap_alloc_old _ _ _ (hs.imlt b j hj))) (fun _ _ h => .inl h) (fun b j h => Nat.lt_of_lt_of_le (hs.imlt b j h) (by simp))
    (fun b h => by simp [blk] at h; subst h; exact .inl (Nat.le_refl _)) (fun o h => by rw [hi] at h; cases h)
    (fun hE => ⟨s.w.heap.size, xs, rfl, heap_alloc_new _ _, VRs.ext hE cs _ (fun _ _ => trivial) hv, fun j hj => absurd (hs.imlt _ j hj) (Nat.lt_irrefl _)⟩)

theorem newCells_ptr (s : S) (i : Id) (b t : Nat) (cs : List V) (w : World) (Im : Nat → Nat → Prop) (φ : Id → Value) (hφ : φ i = .pointer (some ⟨b, 0, none⟩)) :
    VR ⟨φ, upd s.m i (.cells t cs), w, Im⟩ (.ptr i 0 0) (.pointer (some ⟨b, 0, none⟩)) := by
  refine ⟨rfl, ?_⟩
  show PtrR (φ i) 0 0 _ (look (upd s.m i (.cells t cs)) i)
  rw [look_upd_same, hφ]
  exact ⟨b, rfl, rfl⟩

theorem isNilSlice_eq {v : Value} (h : isNilSlice v = true) : v = .slice none 0 0 := by
  unfold isNilSlice at h
  split at h
  · rfl
  · cases h

theorem initCells_ok (cx : Cx) (slot : Nat) : ∀ (is : List Init) (vals : List Value) (s : S), Sim oc gl s → okInit vals is = true →
    ∃ φ', Sim oc gl ⟨φ', (initCells cx slot is s.m).2, s.w, s.Im⟩ ∧ Ext (fun _ => True) s ⟨φ', (initCells cx slot is s.m).2, s.w, s.Im⟩ ∧ VRs ⟨φ', (initCells cx slot is s.m).2, s.w, s.Im⟩ (initCells cx slot is s.m).1 vals
  | [], vals, s, hs, ok => by
    cases vals <;> simp [okInit] at ok
    exact ⟨s.φ, hs, Ext.refl _ _, rfl⟩
  | .z d :: r, vals, s, hs, ok => by
    cases vals with
    | nil => simp [okInit] at ok
    | cons v vals =>
      simp only [okInit, Bool.and_eq_true] at ok
      obtain ⟨φ', h1, h2, h3⟩ := initCells_ok cx slot r vals s hs ok.2
      exact ⟨φ', h1, h2, ⟨v, vals, rfl, ok.1.1, constD_ok _ _ _ _ ok.1.2, h3⟩⟩
  | .own sp :: r, vals, s, hs, ok => by
    cases vals with
    | nil => simp [okInit] at ok
    | cons v vals =>
      simp only [okInit, Bool.and_eq_true, decide_eq_true_eq] at ok
      obtain ⟨⟨hn, hz⟩, ok⟩ := ok
      obtain rfl := isNilSlice_eq hn
      obtain ⟨k1, k2⟩ := newRow_nil hs (newId cx slot s.m) (newId_fresh _ _ _) sp hz
      obtain ⟨φ', h1, h2, h3⟩ := initCells_ok cx slot r vals _ k1 ok
      refine ⟨φ', h1, k2.trans h2 (fun _ h => h), ⟨_, vals, rfl, rfl, ?_, h3⟩⟩
      exact VR.ext h2 (.ref (newId cx slot s.m) 0 0 0) _ (fun _ _ => trivial) (newRow_ref s _ (.slice none 0 0) rfl _ _ _ _ _ _ _ _ (by simp))

def okAlloc (P : Program) (o : Oper) (ty : Nat) (cs : List Init) : Bool :=
  match o.op with
  | .alloc t => t == ty && (match zeroP P t with | some vals => okInit vals cs | none => false)
  | _ => false

theorem zeroP_eq {t : TypeId} {vals : List Value} (h : zeroP P t = some vals) : ∃ z, (∀ w, (zeroValue t).run P w = .ok z w) ∧ z.cells.toList = vals := by
  unfold zeroP at h
  cases hi : P.info? t with
  | none => simp [hi] at h
  | some i =>
    cases hz : i.zero with
    | none => simp [hi, hz] at h
    | some z =>
      simp [hi, hz] at h
      exact ⟨z, fun w => by simp [zeroValue, typeInfo, hi, hz], by simpa using h⟩

theorem sound_alloc (hs : Sim oc gl s) (cx : Cx) (slot : Nat) {ty : Nat} {cs : List Init} (ok : okAlloc P o ty cs = true) :
    Gives P oc gl s A o (.ptr (newId cx slot (initCells cx slot cs s.m).2) 0 0) (upd (initCells cx slot cs s.m).2 (newId cx slot (initCells cx slot cs s.m).2) (.cells ty (initCells cx slot cs s.m).1)) := by
  unfold okAlloc at ok
  split at ok <;> try cases ok
  rename_i t ho
  simp only [Bool.and_eq_true, beq_iff_eq] at ok
  obtain ⟨rfl, ok⟩ := ok
  split at ok <;> try cases ok
  rename_i vals hz
  obtain ⟨z, hzr, hzc⟩ := zeroP_eq hz
  obtain ⟨φ', h1, h2, h3⟩ := initCells_ok cx slot cs vals s hs ok
  obtain ⟨k1, k2⟩ := newCells h1 (newId cx slot (initCells cx slot cs s.m).2) (newId_fresh _ _ _) _ z.cells t (by rw [hzc]; exact h3)
  refine ⟨_, .pointer (some ⟨s.w.heap.size, 0, none⟩), ?_, k1, h2.trans k2 (fun _ h => h), rfl, newCells_ptr ⟨φ', (initCells cx slot cs s.m).2, s.w, s.Im⟩ _ _ _ _ _ _ _ (by simp)⟩
  simp [execOp, ho, Instr.alloc, hzr, newVar, newRow, run_newObj]

def okBox (gl : Globs) (o : Oper) (ty : Nat) (x : Opd) : Bool :=
  match o.op with
  | .box t y => t == ty && okX gl y x
  | _ => false
theorem sound_box (hs : Sim oc gl s) (he : EnvR s e A.tmps) (cx : Cx) (slot : Nat) {ty : Nat} {x : Opd} {cs : List V} (ok : okBox gl o ty x = true) (h : cellsOf (x.ev e) = some cs) :
    Gives P oc gl s A o (.ptr (newId cx slot s.m) 0 0) (upd s.m (newId cx slot s.m) (.cells ty cs)) := by
  unfold okBox at ok
  split at ok <;> try cases ok
  rename_i t y ho
  simp only [Bool.and_eq_true, beq_iff_eq] at ok
  obtain ⟨rfl, ok⟩ := ok
  have hv := VR.one (okX_ok hs he ok) h
  obtain ⟨k1, k2⟩ := newCells hs (newId cx slot s.m) (newId_fresh _ _ _) cs (A.eval y).cells t hv
  refine ⟨_, .pointer (some ⟨s.w.heap.size, 0, none⟩), ?_, k1, k2, rfl, newCells_ptr s _ _ _ _ _ _ _ (by simp)⟩
  simp [execOp, ho, Instr.box, newVar, newRow, run_newObj]

/-! ### Structs and literal slices -/

theorem laid_list (off : Nat) : ∀ (vs : List Value) (k : Nat) (cells : Array Value), off + k + vs.length ≤ cells.size →
    ((vs.zipIdx k).foldl (fun cs p => cs.setIfInBounds (off + p.2) p.1) cells).toList = patch cells.toList (off + k) vs
  | [], k, cells, _ => by simp [patch]
  | v :: r, k, cells, h => by
    simp only [List.zipIdx_cons, List.foldl_cons]
    rw [laid_list off r (k + 1) _ (by simp at h ⊢; omega)]
    apply List.ext_getElem?
    intro j
    simp only [List.length_cons] at h
    rw [getElem?_patch _ _ _ (by simp; omega), getElem?_patch _ _ _ (by simp; omega)]
    simp only [Array.toList_setIfInBounds, List.getElem?_set, List.length_cons, Array.length_toList]
    by_cases h1 : j < off + k
    · have : ¬ (off + k = j) := by omega
      simp [h1, this, show j < off + (k + 1) by omega]
    · by_cases h2 : j = off + k
      · subst h2
        simp [show off + k < off + (k + 1) by omega, show off + k < cells.size by omega]
      · have h3 : ¬ (off + k = j) := by omega
        by_cases h4 : j < off + k + (r.length + 1)
        · have e1 : j - (off + k) = (j - (off + (k + 1))) + 1 := by omega
          simp [h1, show ¬ j < off + (k + 1) by omega, h4, show j < off + (k + 1) + r.length by omega, e1]
        · simp [h1, h3, show ¬ j < off + (k + 1) by omega, h4, show ¬ j < off + (k + 1) + r.length by omega]

theorem laid_cells (off : Nat) (v : Value) (cells : Array Value) (h : off + v.cells.size ≤ cells.size) :
    (v.cells.zipIdx.foldl (fun cs p => cs.setIfInBounds (off + p.2) p.1) cells).toList = patch cells.toList off v.cells.toList := by
  have := laid_list off v.cells.toList 0 cells (by simpa using h)
  rw [← Array.foldl_toList, Array.toList_zipIdx]
  simpa using this

/-- The parts as both sides have them: where each goes, and what it is. -/
def PartsR (s : S) (place : Nat → Option (Nat × Nat)) : List (Nat × Nat × V) → List (Nat × Value) → Prop
  | [], xs => xs = []
  | (off, n, v) :: r, xs => ∃ i x q, xs = (i, x) :: q ∧ place i = some (off, n) ∧ VR s v x ∧ PartsR s place r q

theorem fill_ok (place : Nat → Option (Nat × Nat)) : ∀ (parts : List (Nat × Nat × V)) (q : List (Nat × Value)) (cs out : List V) (cells : Array Value), PartsR s place parts q → VRs s cs cells.toList →
    fillV cs parts = some out → ∃ r, Instr.fill place cells q = some r ∧ VRs s out r.toList
  | [], q, cs, out, cells, hp, hv, h => by
    simp only [PartsR] at hp; subst hp
    simp only [fillV, Option.some.injEq] at h; subst h
    exact ⟨cells, rfl, hv⟩
  | (off, n, v) :: r, q, cs, out, cells, hp, hv, h => by
    obtain ⟨i, x, q', rfl, hpl, hvx, hp⟩ := hp
    simp only [fillV] at h
    split at h
    · rename_i xs hc
      split at h
      · rename_i hn
        obtain ⟨hn1, hn2⟩ := hn
        have hvs := VR.one hvx hc
        have hl1 := VRs.length _ _ hvs
        have hl2 := VRs.length _ _ hv
        simp only [Array.length_toList] at hl1 hl2
        have hle : off + x.cells.size ≤ cells.size := by omega
        have hlaid := laid_cells off x cells hle
        obtain ⟨res, k1, k2⟩ := fill_ok place r q' (patch cs off xs) out (x.cells.zipIdx.foldl (fun cs p => cs.setIfInBounds (off + p.2) p.1) cells) hp (by rw [hlaid]; exact VRs.patch hv hvs) h
        refine ⟨res, ?_, k2⟩
        have hsz : ¬ (x.cells.size ≠ n ∨ off + x.cells.size > cells.size) := by omega
        simp only [Instr.fill, hpl]
        rw [if_neg (by simpa using hsz)]
        exact k1
      · cases h
    · cases h

def okBuild (P : Program) (gl : Globs) (o : Oper) (zero : List Init) (parts : List (Nat × Nat × Opd)) : Bool :=
  match o.op with
  | .build t ps => (match zeroP P t, placeP P t with | some vals, some place => okInit vals zero && okParts gl place ps.toList parts | _, _ => false)
  | _ => false

theorem okParts_ok {place : Nat → Option (Nat × Nat)} (hs : Sim oc gl s) (he : EnvR s e A.tmps) : ∀ (ps : List (Nat × Operand)) (parts : List (Nat × Nat × Opd)), okParts gl place ps parts = true →
    PartsR s place (partsV e parts) (ps.map fun p => (p.1, A.eval p.2))
  | [], [], _ => rfl
  | [], _ :: _, h => by simp [okParts] at h
  | (i, a) :: r, [], h => by simp [okParts] at h
  | (i, a) :: r, (off, n, x) :: q, h => by
    simp only [okParts, Bool.and_eq_true, beq_iff_eq] at h
    exact ⟨i, A.eval a, _, rfl, h.1.1, okX_ok hs he h.1.2, okParts_ok hs he r q h.2⟩

theorem fill_congr (f g : Nat → Option (Nat × Nat)) (h : ∀ i, f i = g i) (cells : Array Value) (q : List (Nat × Value)) : Instr.fill f cells q = Instr.fill g cells q := by
  have : f = g := funext h
  rw [this]

theorem sound_build (hs : Sim oc gl s) (he : EnvR s e A.tmps) (cx : Cx) (slot : Nat) {zero : List Init} {parts : List (Nat × Nat × Opd)} {cs : List V} (ok : okBuild P gl o zero parts = true)
    (h : fillV (initCells cx slot zero s.m).1 (partsV e parts) = some cs) : Gives P oc gl s A o (mkAgg cs) (initCells cx slot zero s.m).2 := by
  unfold okBuild at ok
  split at ok <;> try cases ok
  rename_i t ps ho
  split at ok <;> try cases ok
  rename_i vals place hz hpl
  simp only [Bool.and_eq_true] at ok
  obtain ⟨φ', h1, h2, h3⟩ := initCells_ok cx slot zero vals s hs ok.1
  have he' : EnvR ⟨φ', (initCells cx slot zero s.m).2, s.w, s.Im⟩ e A.tmps := EnvR.ext h2 (fun _ _ _ => trivial) he
  have hparts := okParts_ok (A := A) h1 he' ps.toList parts ok.2
  -- the type's zero and places
  unfold zeroP at hz
  cases hi : P.info? t with
  | none => simp [hi] at hz
  | some it =>
    cases hzz : it.zero with
    | none => simp [hi, hzz] at hz
    | some z =>
      simp [hi, hzz] at hz
      obtain ⟨r, hr, hvr⟩ := fill_ok place _ _ _ cs z.cells hparts (by rw [hz]; exact h3) h
      have hb : P.built t (ps.map fun (i, x) => (i, A.eval x)).toList = some r := by
        unfold Program.built
        unfold placeP at hpl
        simp only [hi]
        cases hu : P.underlying t with
        | none => simp [hu] at hpl
        | some d =>
          cases d <;> simp only [hu] at hpl <;> try cases hpl
          · rename_i n el
            cases hie : P.info? el with
            | none => simp [hie] at hpl
            | some ie =>
              simp [hie] at hpl
              simp only [hzz, hie]
              rw [← hr]
              subst hpl
              simp
          · rename_i fs
            simp only [Option.map_eq_some_iff] at hpl
            obtain ⟨l, hl, rfl⟩ := hpl
            simp only [hzz, hl]
            rw [← hr]
            simp
      refine ⟨⟨φ', (initCells cx slot zero s.m).2, s.w, s.Im⟩, .agg r, ?_, h1, h2, rfl, mkAgg_ok hvr⟩
      have := run_build s.w t (ps.map fun (i, x) => (i, A.eval x)) r hb
      simp only [execOp, ho, Sem.run_bind, this, Result.andThen_ok]
      rfl

end
end Go.Evl

