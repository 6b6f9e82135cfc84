
/-
  Each operation that calls nobody does what the evaluator says (fourth part: copy, clear, equality).
-/
import Derived.Test.YtlboecjgelnabaaGreatDoorEvStr
import Derived.Laws.StructEq
namespace Go.Evl
open Go.RowKit

section
variable {P : Program} {oc : Codes} {gl : Globs} {s : S} {A : Act} {o : Oper} {e : Env}

/-! ### copy and clear -/

def okCopy (P : Program) (gl : Globs) (o : Oper) (sz : Nat) (a x : Opd) : Bool :=
  match bi o.op with
  | some (.copy, [a', x'], t :: _) => okX gl a' a && okX gl x' x && (match sliceP P t with | some el => sizeP P el == some sz | none => false)
  | _ => false

/-- Cells of a writable row are overwritten. -/
theorem row_patch (hs : Sim oc gl s) {i : Id} {t sz n : Nat} {rs ds : List D} {xs : List Value} {g capp off : Nat} (hl : look s.m i = some (.row true t sz n rs)) (hp : s.φ i = .slice (some ⟨g, 0, none⟩) n capp)
    (hd : DRs s.w s.Im ds xs) (hfit : off + xs.length ≤ n * sz) :
    ∃ s', (∀ P, (storeCells ⟨g, off, none⟩ xs).run P s.w = .ok () s'.w) ∧ Sim oc gl s' ∧ Ext (fun _ => True) s s' ∧ s'.m = upd s.m i (.row true t sz n (patch rs off ds)) := by
  obtain ⟨hz, ys, hown, hdr, him⟩ := hs.objs i _ hl
  rcases hown.2 with ⟨hp', h0⟩ | ⟨g', cap', cur, hp', hg0, hh, hnc, hcm, hcs, htake⟩
  · rw [hp] at hp'; injection hp' with e1; cases e1
  have hgg : g' = g := by rw [hp] at hp'; injection hp' with e1; injection e1 with e1; injection e1 with e1 _; exact e1.symm
  subst hgg
  have hcap : n * sz ≤ cap' * sz := Nat.mul_le_mul_right _ hnc
  have hdl := DRs.length _ _ hd
  have hrl := (DRs.length _ _ hdr).trans hown.1
  have hrun : ∀ P, (storeCells ⟨g', off, none⟩ xs).run P s.w = .ok () (s.w.setRow g' (patch cur.toList off xs).toArray) := by
    intro P
    have := run_storeCells_at P g' off t xs 0 cur s.w hh (by omega) (DRs.ones _ _ hd)
    simpa [patch] using this
  obtain ⟨h1, h2⟩ := sim_setRow hs (i := i) (o' := .row true t sz n (patch rs off ds)) (patch cur.toList off xs).toArray hl (by simp) (by rw [hp]; rfl) hh
    (fun j hj => absurd ((him g' (by rw [hp]; rfl) j).1 hj).1 (by simp)) ⟨rfl, rfl, rfl, Nat.le_refl _, fun _ => rfl⟩
    (fun hE => ⟨hz, patch ys off xs, ⟨by rw [patch_length _ _ _ (by rw [hown.1]; exact hfit)]; exact hown.1, .inr ⟨g', cap', _, hp', hg0, by simpa using setRow_heap s.w g' cur _ t (0, 0) hh, hnc, hcm, by
        have := patch_length cur.toList off xs (by simp; omega)
        simp [this, hcs], by
        simp only []
        rw [← htake]
        exact patch_take _ _ _ _ hfit (by simp; omega)⟩⟩, DRs.patch (DRs.ext hE.im hE.keep rs _ hdr) (DRs.ext hE.im hE.keep ds _ hd), him⟩)
  exact ⟨_, hrun, h1, h2, rfl⟩

theorem sound_copy (hs : Sim oc gl s) (he : EnvR s e A.tmps) {sz : Nat} {a x : Opd} {v : V} {m' : Mem} (ok : okCopy P gl o sz a x = true) (h : copyV sz s.m (a.ev e) (x.ev e) = some (v, m')) : Gives P oc gl s A o v m' := by
  unfold okCopy at ok
  split at ok
  rotate_left
  · cases ok
  rename_i a' x' t ts ho
  simp only [Bool.and_eq_true] at ok
  obtain ⟨⟨oka, okx⟩, hty⟩ := ok
  split at hty <;> try cases hty
  rename_i el hel
  have hsz : sizeP P el = some sz := by simpa using hty
  have hu := sliceP_eq hel
  have ha := okX_ok hs he oka
  have hx := okX_ok hs he okx
  generalize a.ev e = va at ha h
  generalize x.ev e = vx at hx h
  obtain ⟨cn, hrun⟩ := bi_run (P := P) (A := A) ho s.w
  unfold copyV at h
  split at h
  · rename_i k ds i off len top hk
    obtain ⟨ad, c, xs, hxv, hd, hxc⟩ := elems_ok hs hx hk
    split at h
    · rename_i ty sz' n rs hl
      split at h
      · rename_i hc
        obtain ⟨rfl, hle, rfl, hdl⟩ := hc
        simp only [Option.some.injEq, Prod.mk.injEq] at h
        obtain ⟨rfl, rfl⟩ := h
        have h2 := ha.2
        rw [hl] at h2
        obtain ⟨hz, ys, hown, hdr, him⟩ := hs.objs i _ hl
        have hxl : xs.length = k * sz' := (DRs.length _ _ hd).symm.trans hdl
        -- the run, once the destination is known
        obtain ⟨w0, hw0⟩ : ∃ w0, w0 = s.w := ⟨_, rfl⟩
        have hmin : min k len * sz' ≤ k * sz' := Nat.mul_le_mul_right _ (Nat.min_le_left _ _)
        have hcells : (Builtin.firstCells sz' (min k len) (.slice ad k c)).run P s.w = .ok (xs.take (min k len * sz')).toArray s.w := by
          rcases hxc with ⟨h0, h1⟩ | ⟨b, q, rfl, hcell⟩
          · subst h1; simp only [DRs] at hd; subst hd; subst h0
            cases ad with
            | none => simp [Builtin.firstCells]
            | some ad => simp [Builtin.firstCells, loadCells, loadCellsFrom]
          · exact run_firstCells_some (P := P) s.w sz' (min k len) ⟨b, q, none⟩ k c (xs.take (min k len * sz')) (by simp [hxl, hmin]) (fun j v hj => by
              rw [addr_add]
              rw [List.getElem?_take] at hj
              split at hj
              · exact hcell j v hj
              · cases hj)
        have htk : DRs s.w s.Im (ds.take (min k len * sz')) (xs.take (min k len * sz')) := DRs.take _ _ _ hd
        have hlk : (xs.take (min k len * sz')).length = min k len * sz' := by simp [hxl, hmin]
        have hml : min k len * sz' ≤ len * sz' := Nat.mul_le_mul_right _ (Nat.min_le_right _ _)
        have hmle : off * sz' + len * sz' ≤ n * sz' := by rw [← Nat.add_mul]; exact Nat.mul_le_mul_right _ hle
        have fin : ∀ g capp cap, s.φ i = .slice (some ⟨g, 0, none⟩) n capp → A.eval a' = .slice (some ⟨g, off * sz', none⟩) len cap →
            Gives P oc gl s A o (.d (.int .i64 (min k len : Nat))) (upd s.m i (.row true ty sz' n (patch rs (off * sz') (ds.take (min k len * sz'))))) := by
          intro g capp cap hp hav
          obtain ⟨s', hr, k1, k2, k3⟩ := row_patch hs (off := off * sz') hl hp htk (by rw [hlk]; omega)
          refine ⟨s', .int .i64 (min k len : Nat), ?_, k1, k2, k3, rfl⟩
          rw [hrun]
          have hst := hr P
          have hmn : Nat.min k len = min k len := rfl
          simp [builtin, Builtin.copy_, run_underlying hu, hav, hxv, Builtin.lenOf, run_sizeOf hsz, hmn, hcells, hst, goInt]
        have nothing : min k len = 0 → (∀ cap ad', A.eval a' = .slice ad' len cap → Gives P oc gl s A o (.d (.int .i64 (min k len : Nat))) (upd s.m i (.row true ty sz' n (patch rs (off * sz') (ds.take (min k len * sz')))))) := by
          intro h0 cap ad' hav
          have hpe : patch rs (off * sz') (ds.take (min k len * sz')) = rs := by simp [h0, patch]
          rw [hpe]
          have hmem : ∀ (m : Mem), look m i = some (.row true ty sz' n rs) → upd m i (.row true ty sz' n rs) = m := by
            intro m
            induction m with
            | nil => intro h; simp [look] at h
            | cons p r ih =>
              intro h
              obtain ⟨j, x⟩ := p
              simp only [look] at h
              simp only [upd]
              split
              · rename_i e; subst e; simp at h; rw [h]
              · rename_i e; simp only [e, if_false] at h; rw [ih h]
          rw [hmem _ hl]
          refine gives_same hs (x := .int .i64 (min k len : Nat)) ?_ rfl
          rw [hrun]
          have hmn : Nat.min k len = min k len := rfl
          rw [h0] at hcells
          simp only [Nat.zero_mul, List.take_zero] at hcells
          cases ad' <;> simp [builtin, Builtin.copy_, run_underlying hu, hav, hxv, Builtin.lenOf, run_sizeOf hsz, hmn, h0, hcells, storeCells, goInt]
        rcases h2.2 rfl with ⟨rfl, rfl, hx⟩ | ⟨hne, b, cap, capp, hp, _, hoc, hlc, hx⟩ | ⟨hne, _, rfl, ad', c', hx⟩
        · rcases hown.2 with ⟨hp, h0⟩ | ⟨g, cap, cur, hp, _⟩
          · exact nothing (by omega) 0 none (by rw [h0]; exact hx.trans hp)
          · exact fin g cap cap hp (by rw [Nat.zero_mul]; exact hx.trans hp)
        · exact fin b capp cap hp hx
        · exact nothing (by omega) c' ad' hx
      · cases h
    · cases h
  · cases h

def okClear (P : Program) (gl : Globs) (o : Oper) (zero : List D) (x : Opd) : Bool :=
  match bi o.op with
  | some (.clear, [x'], [t]) => okX gl x' x && (match sliceP P t with | some el => (match zeroP P el with | some vals => constL zero vals && decide (0 < vals.length) | none => false) | none => false)
  | _ => false

theorem zeroCells_flat (zs : Array Value) (n : Nat) (h : 0 < zs.size) : (Builtin.zeroCells zs n).toList = (List.replicate n zs.toList).flatten := madeCells_flat zs n h

theorem constL_length : ∀ (cs : List D) (xs : List Value), constL cs xs = true → cs.length = xs.length
  | [], xs, h => by cases xs <;> simp [constL] at h ⊢
  | d :: q, xs, h => by
    cases xs
    · simp [constL] at h
    · simp only [constL, Bool.and_eq_true] at h
      simp [constL_length q _ h.2]

/-- What 'clear' hands back is the empty tuple; the statement does not use it. -/
theorem sound_clear (hs : Sim oc gl s) (he : EnvR s e A.tmps) {zero : List D} {x : Opd} {m' : Mem} (ok : okClear P gl o zero x = true) (h : clearV zero s.m (x.ev e) = some m') : Gives P oc gl s A o .skip m' := by
  unfold okClear at ok
  split at ok
  rotate_left
  · cases ok
  rename_i x' t ho
  simp only [Bool.and_eq_true] at ok
  obtain ⟨okx, hty⟩ := ok
  split at hty <;> try cases hty
  rename_i el hel
  split at hty <;> try cases hty
  rename_i vals hvals
  simp only [Bool.and_eq_true, decide_eq_true_eq] at hty
  obtain ⟨hcz, hpos⟩ := hty
  obtain ⟨z, hzr, hzc⟩ := zeroP_eq hvals
  have hu := sliceP_eq hel
  have hvx := okX_ok hs he okx
  generalize x.ev e = vx at hvx h
  obtain ⟨cn, hrun⟩ := bi_run (P := P) (A := A) ho s.w
  have zeroLen : ∀ ad c, A.eval x' = .slice ad 0 c → Gives P oc gl s A o .skip s.m := by
    intro ad c hav
    refine gives_same hs (x := .tuple #[]) ?_ rfl
    rw [hrun]
    cases ad <;> simp [builtin, Builtin.clear_, run_underlying hu, hav]
  unfold clearV at h
  split at h
  · rename_i cs
    obtain rfl := Option.some.inj h
    obtain ⟨ad, cap, hav, _⟩ := hvx
    exact zeroLen ad cap hav
  · rename_i i off len top
    split at h
    · rename_i ty sz n rs hl
      split at h
      · rename_i hc
        obtain ⟨rfl, hle, hzl⟩ := hc
        obtain rfl := Option.some.inj h
        have h2 := hvx.2
        rw [hl] at h2
        obtain ⟨hz, ys, hown, hdr, him⟩ := hs.objs i _ hl
        have hcl := constL_length _ _ hcz
        have hd := DRs.replicate (constL_ok s.w s.Im _ _ hcz) len
        have hfl : (List.replicate len vals).flatten.length = len * sz := by
          simp [hcl.symm.trans hzl]
        have hmle : off * sz + len * sz ≤ n * sz := by rw [← Nat.add_mul]; exact Nat.mul_le_mul_right _ hle
        have fin : ∀ g capp cap, s.φ i = .slice (some ⟨g, 0, none⟩) n capp → A.eval x' = .slice (some ⟨g, off * sz, none⟩) len cap → len ≠ 0 →
            Gives P oc gl s A o .skip (upd s.m i (.row true ty sz n (patch rs (off * sz) (List.replicate len zero).flatten))) := by
          intro g capp cap hp hav hl0
          obtain ⟨s', hr, k1, k2, k3⟩ := row_patch hs (off := off * sz) hl hp hd (by rw [hfl]; omega)
          refine ⟨s', .tuple #[], ?_, k1, k2, k3, rfl⟩
          rw [hrun]
          have hst := hr P
          have hzf : (Builtin.zeroCells z.cells len).toList = (List.replicate len vals).flatten := by rw [zeroCells_flat _ _ (by rw [← Array.length_toList, hzc]; exact hpos), hzc]
          obtain ⟨l', rfl⟩ : ∃ l', len = l' + 1 := ⟨len - 1, by omega⟩
          simp [builtin, Builtin.clear_, run_underlying hu, hav, hzr, hzf, hst]
        have nothing : len = 0 → ∀ ad' cap, A.eval x' = .slice ad' len cap → Gives P oc gl s A o .skip (upd s.m i (.row true ty sz n (patch rs (off * sz) (List.replicate len zero).flatten))) := by
          intro h0 ad' cap hav
          subst h0
          have hpe : patch rs (off * sz) (List.replicate 0 zero).flatten = rs := by simp [patch]
          rw [hpe]
          have hmem : ∀ (m : Mem), look m i = some (.row true ty sz n rs) → upd m i (.row true ty sz n rs) = m := by
            intro m
            induction m with
            | nil => intro h; simp [look] at h
            | cons p r ih =>
              intro h
              obtain ⟨j, x⟩ := p
              simp only [look] at h
              simp only [upd]
              split
              · rename_i e; subst e; simp at h; rw [h]
              · rename_i e; simp only [e, if_false] at h; rw [ih h]
          rw [hmem _ hl]
          exact zeroLen ad' cap hav
        by_cases hl0 : len = 0
        · rcases h2.2 rfl with ⟨e1, e2, hx⟩ | ⟨hne, b, cap, capp, hp, _, hoc, hlc, hx⟩ | ⟨hne, _, _, ad', c', hx⟩
          · subst e1; subst e2; rcases hown.2 with ⟨hp, h0⟩ | ⟨g, cap, cur, hp, _⟩
            · exact nothing hl0 none 0 (by rw [h0]; exact hx.trans hp)
            · exact nothing hl0 _ cap (hx.trans hp)
          · exact nothing hl0 _ cap hx
          · exact nothing hl0 ad' c' (by rw [hl0]; exact hx)
        · rcases h2.2 rfl with ⟨e1, e2, hx⟩ | ⟨hne, b, cap, capp, hp, _, hoc, hlc, hx⟩ | ⟨hne, _, h0, ad', c', hx⟩
          · subst e1; subst e2; rcases hown.2 with ⟨hp, h0⟩ | ⟨g, cap, cur, hp, _⟩
            · exact absurd h0 hl0
            · exact fin g cap cap hp (by rw [Nat.zero_mul]; exact hx.trans hp) hl0
          · exact fin b capp cap hp hx hl0
          · exact absurd h0 hl0
      · cases h
    · cases h
  · cases h

end
end Go.Evl

