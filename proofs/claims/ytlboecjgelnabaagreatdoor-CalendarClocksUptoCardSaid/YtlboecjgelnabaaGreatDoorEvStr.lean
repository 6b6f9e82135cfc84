
/-
  Appending a text's bytes to a row of the call's own.
-/
import Derived.Test.YtlboecjgelnabaaGreatDoorEvThree
import Derived.Lib.AppendStr
namespace Go.Evl
open Go.RowKit Go.Lib

section
variable {P : Program}

theorem append_own_str (w : World) (t u ty el : TypeId) (i : TypeInfo) (ht : P.underlying t = some (.slice el)) (hu : P.underlying u = some .string) (hi : P.info? el = some i) (hz : i.zero = some (.int .u8 0))
    (hsize : i.size = 1) (hby : i.bytes = 1)
    (v : Value) (n : Nat) (ys : List Value) (hown : w.ownsRow 0 el 1 v n ys) (s : ByteArray) (hlen0 : n + s.size ≤ 140737488355328) :
    ∃ v' w', (Builtin.append_ #[t, u] ty #[v, .string s]).run P w = .ok v' w' ∧ w'.ownsRow 0 el 1 v' (n + s.size) (ys ++ strCells s) ∧ w'.os = w.os ∧ w'.tape = w.tape ∧ w'.output = w.output ∧ w.heap.size ≤ w'.heap.size ∧
      (∀ b, b < w.heap.size → v.ownBlock ≠ some b → w'.heap[b]? = w.heap[b]?) ∧ (∀ g, v.ownBlock = some g → ∀ j, j < n * 1 → w'.cell? ⟨g, j, none⟩ = w.cell? ⟨g, j, none⟩) ∧
      (v'.ownBlock = v.ownBlock ∨ v'.ownBlock = some w.heap.size) ∧ (s.size = 0 → v' = v) := by
  have hcm : n + s.size ≤ maxLen := by simp only [maxLen]; omega
  have hxl : ys.length = n := by simpa using hown.1
  have hll : (ys ++ strCells s).length = (n + s.size) * 1 := by rw [List.length_append, hxl, strCells_length, Nat.mul_one]
  have grown : ∀ (old : Nat), old < n + s.size →
      (w.drew.alloc (.cells (ys.toArray ++ (strCells s).toArray ++ Builtin.zeroCells (Value.int .u8 0).cells (grownCap w (n + s.size) old el - (n + s.size))) el)).ownsRow 0 el 1
        (.slice (some ⟨w.heap.size, 0, none⟩) (n + s.size) (grownCap w (n + s.size) old el)) (n + s.size) (ys ++ strCells s) := by
    intro old ho
    have hge := grownCap_ge w (n + s.size) old el
    have hcm2 : grownCap w (n + s.size) old el ≤ maxLen := grownCap_le_maxLen w (n + s.size) old el hcm
    refine ⟨hll, .inr ⟨w.heap.size, _, _, rfl, Nat.zero_le _, heap_alloc_new w.drew _, hge, hcm2, ?_, ?_⟩⟩
    · have hz1 : (Value.int IntKind.u8 0).cells.size = 1 := rfl
      simp only [Array.size_append, List.size_toArray, size_zeroCells, hz1, hxl, strCells_length]
      omega
    · simp only [Array.toList_append, List.append_assoc]
      rw [← List.append_assoc, ← hll]
      exact List.take_left
  rcases hown.2 with ⟨rfl, rfl⟩ | ⟨g, cap, cur, rfl, hbg, hg, hnc, hcm3, hcs, htake⟩
  · have hy : ys = [] := List.eq_nil_of_length_eq_zero hxl
    subst hy
    by_cases hm : s.size = 0
    · have hn : strCells s = [] := List.eq_nil_of_length_eq_zero (by rw [strCells_length]; exact hm)
      have hf := run_firstCells_string (P := P) w 1 s
      rw [hm] at hf
      refine ⟨.slice none 0 0, w, ?_, by rw [hm, hn]; exact World.ownsRow_nil w 0 el 1, rfl, rfl, rfl, Nat.le_refl _, fun _ _ _ => rfl, fun _ _ _ _ => rfl, .inl rfl, fun _ => rfl⟩
      simp [Builtin.append_, run_underlying ht, run_underlying hu, sizeOf, typeInfo, hi, hsize, Builtin.lenOf, hm, hf]
    · have hr := run_append_nil_string (P := P) w t u ty el i (.int .u8 0) ht hu hi hz s (by omega) (by omega) (by rw [hby]; omega)
      have hgr := grown 0 (by omega)
      simp only [Nat.zero_add, List.nil_append, Array.empty_append] at hgr ⊢
      have e1 : (s.data.map fun b => Value.int .u8 b.toNat) = (strCells s).toArray := by
        apply Array.ext'
        simp [strCells]
      rw [e1] at hr
      exact ⟨_, _, hr, hgr, rfl, rfl, rfl, by simp, fun b hb _ => heap_alloc_old w.drew _ b hb, fun g hg => by simp [Value.ownBlock] at hg, .inr rfl, fun h0 => absurd h0 hm⟩
  · have hcs' : cur.size = cap := by simpa using hcs
    have ht' : cur.toList.take n = ys := by simpa using htake
    by_cases hroom : n + s.size ≤ cap
    · have hr := run_append_room_string (P := P) w t u ty el i ht hu hi hsize g n cap cur hg s hroom (by omega)
      refine ⟨_, _, hr, ⟨hll, .inr ⟨g, cap, _, rfl, hbg, setRow_heap w g cur _ el _ hg, hroom, hcm3, ?_, ?_⟩⟩, rfl, rfl, rfl, by simp, fun k2 _ hk2 => setRow_other w g k2 _ (fun e => hk2 (by simp [Value.ownBlock, e])), fun g2 hg2 j hj => ?_, .inl rfl, fun h0 => by simp [h0]⟩
      · simp only [List.size_toArray, List.length_append, List.length_take, List.length_drop, Array.length_toList, strCells_length]
        omega
      · rw [ht', ← hll]
        exact List.take_left
      · simp [Value.ownBlock] at hg2; subst hg2
        rw [cell_of_row _ g j _ el (0, 0) (setRow_heap w g cur _ el _ hg), cell_of_row _ g j cur el (0, 0) hg]
        simp only [List.getElem?_toArray, List.append_assoc]
        rw [List.getElem?_append_left (by simp; omega), List.getElem?_take, if_pos (by omega)]
        simp
    · have holds : ∀ j u, ys[j]? = some u → w.cell? ((⟨g, 0, none⟩ : Addr).add j) = some u := hown.cells (g := g) rfl
      have hr := run_append_grow_string (P := P) w t u ty el i (.int .u8 0) ht hu hi hz ⟨g, 0, none⟩ n cap ys (by rw [hsize]; simpa using hxl) holds s (by omega) (by omega) (by rw [hby]; exact growslice_fits (by omega) (by omega))
      have hgr := grown cap (by omega)
      exact ⟨_, _, hr, hgr, rfl, rfl, rfl, by simp, fun b hb _ => heap_alloc_old w.drew _ b hb, fun g2 hg2 j _ => World.cell?_of_block (heap_alloc_old w.drew _ _ (by
        simp [Value.ownBlock] at hg2; subst hg2; exact (Array.getElem?_eq_some_iff.1 hg).1)), .inr rfl, fun h0 => by omega⟩

variable {oc : Codes} {gl : Globs} {s : S} {A : Act} {o : Oper} {e : Env}

def strT (P : Program) (t : TypeId) : Bool := match P.underlying t with | some .string => true | _ => false
theorem strT_eq {t : TypeId} (h : strT P t = true) : P.underlying t = some .string := by
  unfold strT at h; split at h <;> first | assumption | cases h

def byteZ (P : Program) (el : TypeId) : Bool :=
  match P.info? el with
  | some i => i.size == 1 && i.bytes == 1 && (match i.zero with | some (.int .u8 0) => true | _ => false)
  | none => false

theorem byteZ_eq {el : TypeId} (h : byteZ P el = true) : ∃ i, P.info? el = some i ∧ i.size = 1 ∧ i.bytes = 1 ∧ i.zero = some (.int .u8 0) := by
  unfold byteZ at h
  split at h
  · rename_i i hi
    simp only [Bool.and_eq_true, beq_iff_eq] at h
    refine ⟨i, hi, h.1.1, h.1.2, ?_⟩
    have h2 := h.2
    split at h2
    · assumption
    · cases h2
  · cases h

def okAppendS (P : Program) (gl : Globs) (o : Oper) (r : RowSpec) (a x : Opd) : Bool :=
  match bi o.op with
  | some (.append, [a', x'], [t, t']) => okX gl a' a && okX gl x' x && strT P t' && r.sz == 1 && r.by_ == 1 && (match sliceP P t with | some el => el == r.t && byteZ P el | none => false)
  | _ => false

theorem bytesD_ok (w : World) (Im : Nat → Nat → Prop) : ∀ (b : List UInt8), DRs w Im (bytesD b) (strCells ⟨b.toArray⟩) := by
  intro b
  have : strCells ⟨b.toArray⟩ = b.map fun c => Value.int .u8 c.toNat := by simp [strCells]
  rw [this]
  induction b with
  | nil => rfl
  | cons c r ih => exact ⟨_, _, rfl, rfl, rfl, ih (by simp [strCells])⟩

theorem sound_appendS (hs : Sim oc gl s) (he : EnvR s e A.tmps) (cx : Cx) (slot : Nat) {r : RowSpec} {a x : Opd} {v : V} {m' : Mem} (ok : okAppendS P gl o r a x = true) (h : appendSV cx slot r s.m (a.ev e) (x.ev e) = some (v, m')) :
    Gives P oc gl s A o v m' := by
  unfold okAppendS at ok
  split at ok
  rotate_left
  · cases ok
  rename_i a' x' t t' ho
  simp only [Bool.and_eq_true, beq_iff_eq] at ok
  obtain ⟨⟨⟨⟨⟨oka, okx⟩, hstr⟩, hr1⟩, hr2⟩, hty⟩ := ok
  split at hty <;> try cases hty
  rename_i el hel
  simp only [Bool.and_eq_true, beq_iff_eq] at hty
  obtain ⟨hrt, hbz⟩ := hty
  obtain ⟨i, hi, h4, h5, hzz⟩ := byteZ_eq hbz
  have hu := sliceP_eq hel
  have hu2 := strT_eq hstr
  have ha := okX_ok hs he oka
  have hx := okX_ok hs he okx
  generalize a.ev e = va at ha h
  generalize x.ev e = vx at hx h
  obtain ⟨cn, hrun⟩ := bi_run (P := P) (A := A) ho s.w
  unfold appendSV at h
  split at h <;> try cases h
  rename_i b j off len top
  have hxv : A.eval x' = .string ⟨b.toArray⟩ := hx
  have hd := bytesD_ok s.w s.Im b
  have hbs : (ByteArray.mk b.toArray).size = b.length := by simp [ByteArray.size]
  unfold appendN at h
  simp only at h
  split at h
  · rename_i wr ty sz n rs hl
    split at h
    · rename_i hc
      obtain ⟨rfl, rfl, rfl, rfl, rfl, hdl, hroom⟩ := hc
      simp only [Option.some.injEq, Prod.mk.injEq] at h
      obtain ⟨rfl, rfl⟩ := h
      have h2 := ha.2
      rw [hl] at h2
      obtain ⟨hz2, ys, hown, hdr, him⟩ := hs.objs j _ hl
      have hav : A.eval a' = s.φ j := by
        rcases h2.2 rfl with ⟨_, _, hx⟩ | ⟨hne, _⟩ | ⟨hne, _⟩
        · exact hx
        · exact absurd ⟨rfl, rfl⟩ hne
        · exact absurd ⟨rfl, rfl⟩ hne
      obtain ⟨_, hrm⟩ := roomy_eq hroom
      rw [hr1] at hown him hz2
      obtain ⟨v', w', hr, hown', hos, htp, hout, hsize, hfar, hnear, hblk, hk0⟩ := append_own_str (P := P) s.w t t' o.type el i hu hu2 hi hzz h4 h5 (s.φ j) len ys (by rw [hrt]; exact hown) ⟨b.toArray⟩ (by rw [hbs]; exact hrm)
      rw [hbs] at hown' hk0
      obtain ⟨hb1, _⟩ := ownBlock_blk hown
      obtain ⟨hb2, hone⟩ := ownBlock_blk hown'
      have hlt' : ∀ b, blk v' = some b → b < w'.heap.size := by
        intro b hb
        rw [hb2] at hb
        exact (hown'.lt b hb).2
      obtain ⟨k1, k2⟩ := hs.change j (.row wr r.t r.sz (len + b.length) (rs ++ bytesD b)) v' w' (fun c q => s.Im c q ∨ (wr = false ∧ blk v' = some c ∧ q < (len + b.length) * 1)) hos htp hout hsize
        (fun b hb hne => hfar b hb (by rw [← hb1]; exact hne ⟨_, hl, by simp⟩)) (fun _ _ h => .inl h)
        (fun b q hi => by
          by_cases hbo : (s.φ j).ownBlock = some b
          · have := ((him b hbo q).1 hi).2
            exact hnear b hbo q this
          · exact World.cell?_of_block (hfar b (hs.imlt b q hi) hbo))
        (fun b q h => h.imp id (fun h => h.2.1))
        (fun b q h => h.elim (fun h => Nat.lt_of_lt_of_le (hs.imlt b q h) hsize) (fun h => hlt' b h.2.1))
        (fun b hb => by
          rw [hb2] at hb
          rcases hblk with e1 | e1
          · exact .inr ⟨⟨_, hl, by simp⟩, by rw [hb1, ← e1]; exact hb⟩
          · rw [e1] at hb; cases hb; exact .inl (Nat.le_refl _))
        (fun o2 ho2 => by
          rw [hl] at ho2; cases ho2
          exact ⟨rfl, rfl, rfl, Nat.le_add_right _ _, fun e => hk0 (by omega)⟩)
        (fun hE => by
          rw [hr1]
          refine ⟨hz2, ys ++ strCells ⟨b.toArray⟩, by rw [← hrt]; exact hown', DRs.append _ _ _ _ (DRs.ext hE.im hE.keep rs _ hdr) (DRs.ext hE.im hE.keep _ _ hd), fun c hb q => ?_⟩
          constructor
          · rintro (h | ⟨h1, h2, h3⟩)
            · rcases hblk with e1 | e1
              · have hbo : (s.φ j).ownBlock = some c := by rw [← e1]; exact hb
                have := (him c hbo q).1 h
                exact ⟨this.1, by omega⟩
              · rw [e1] at hb; cases hb
                exact absurd (hs.imlt _ q h) (Nat.lt_irrefl _)
            · exact ⟨h1, h3⟩
          · rintro ⟨h1, h2⟩
            exact .inr ⟨h1, by rw [hb2]; exact hb, h2⟩)
      refine ⟨_, v', ?_, k1, k2, rfl, newRow_ref s j v' hone _ _ _ _ _ _ _ _ (by simp)⟩
      rw [hrun]
      simp only [List.map_cons, List.map_nil, builtin, hav, hxv]
      simp [hr]
    · cases h
  · cases h

end
end Go.Evl

