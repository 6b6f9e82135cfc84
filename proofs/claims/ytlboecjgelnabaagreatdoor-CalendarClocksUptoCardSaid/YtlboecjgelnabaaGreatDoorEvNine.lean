
/-
  A call's end as data: rows that nobody will write any more are sealed. Both ways of calling, brought back to the caller.
-/
import Derived.Test.YtlboecjgelnabaaGreatDoorEvEight
namespace Go.Evl
open Go.RowKit

section
variable {P : Program} {oc : Codes} {gl : Globs}

def Sealed (lo : Nat) (s1 : S) (b j : Nat) : Prop :=
  s1.Im b j ∨ ∃ i wr t sz n xs, lo ≤ i.lv ∧ look s1.m i = some (.row wr t sz n xs) ∧ blk (s1.φ i) = some b ∧ j < n * sz

theorem seal_row {lo : Nat} {s1 : S} (hs : Sim oc gl s1) {i : Id} {wr : Bool} {t sz n : Nat} {xs : List D} (hlo : lo ≤ i.lv) (hl : look s1.m i = some (.row wr t sz n xs)) {off len top : Nat} {x : Value}
    (h2 : n = top) (h3 : off + len ≤ n) (hv : VR s1 (.ref i off len top) x) :
    DR s1.w (Sealed lo s1) (.list len (if off = 0 ∧ len = n then xs else win xs (off * sz) (len * sz))) x := by
  obtain ⟨hz, ys, hown, hdr, him⟩ := hs.objs i _ hl
  let s2 : S := ⟨s1.φ, [(i, .row false t sz n xs)], s1.w, Sealed lo s1⟩
  have hl2 : look s2.m i = some (.row false t sz n xs) := by simp [s2, look]
  have hs2 : Sim oc gl s2 := by
    refine ⟨fun k o hk => ?_, fun a b o o' c hab ha hb _ _ _ => ?_, fun b j h => ?_, fun g cs hg => CR.ext (fun _ _ h => .inl h) (fun _ _ _ => rfl) g 0 cs (hs.glob g cs hg), fun g cs hg => ?_⟩
    · have hk1 : (if i = k then some (Ob.row false t sz n xs) else none) = some o := hk
      clear hk
      split at hk1
      · rename_i e; subst e
        obtain rfl := Option.some.inj hk1
        refine ⟨hz, ys, hown, DRs.ext (fun _ _ h => .inl h) (fun _ _ _ => rfl) xs ys hdr, fun b hb j => ⟨fun h => ⟨rfl, ?_⟩, fun h => .inr ⟨i, wr, t, sz, n, xs, hlo, hl, blk_own _ _ hb, h.2⟩⟩⟩
        rcases h with h | ⟨k, wr', t', sz', n', xs', _, hk', hb', hj⟩
        · exact ((him b hb j).1 h).2
        · by_cases e : k = i
          · subst e
            rw [hl] at hk'
            simp only [Option.some.injEq, Ob.row.injEq] at hk'
            obtain ⟨_, _, rfl, rfl, _⟩ := hk'
            exact hj
          · exact absurd (blk_own _ _ hb) (hs.apart k i _ _ b e hk' hl (by simp) (by simp) hb')
      · cases hk1
    · have ha1 : (if i = a then some (Ob.row false t sz n xs) else none) = some o := ha
      have hb1 : (if i = b then some (Ob.row false t sz n xs) else none) = some o' := hb
      clear ha hb
      split at ha1
      · split at hb1
        · rename_i e1 e2; exact absurd (e1.symm.trans e2) hab
        · cases hb1
      · cases ha1
    · rcases h with h | ⟨k, wr', t', sz', n', xs', _, hk', hb', hj⟩
      · exact hs.imlt b j h
      · exact (hs.objs k _ hk').blk_lt (by simp) hb'
    · obtain ⟨h1, h2⟩ := hs.tabs g cs hg
      refine ⟨fun a o ha hgo => ?_, h2⟩
      have ha1 : (if i = a then some (Ob.row false t sz n xs) else none) = some o := ha
      split at ha1
      · rename_i e; subst e; exact h1 i _ hl (by simp)
      · cases ha1
  have hv2 : VR s2 (.ref i off len top) x := by
    refine ⟨hv.1, ?_⟩
    have := hv.2
    rw [hl] at this
    rw [hl2]
    exact this
  exact freeze_row hs2 hl2 rfl h2 h3 hv2

mutual
theorem thaw_ok {lo : Nat} {s1 : S} (hs : Sim oc gl s1) : ∀ (v : V) (d : D) (x : Value), (∀ i ∈ ids v, lo ≤ i.lv) → freeze true s1.m v = some d → VR s1 v x → DR s1.w (Sealed lo s1) d x
  | .d y, d, x, _, h, hv => by
    simp only [freeze, Option.some.injEq] at h; subst h
    exact DR.ext (fun _ _ h => .inl h) (fun _ _ _ => rfl) _ _ hv
  | .agg cs, d, x, hk, h, hv => by
    simp only [freeze, Option.map_eq_some_iff] at h
    obtain ⟨ds, h1, rfl⟩ := h
    obtain ⟨xs, rfl, hv⟩ := hv
    exact ⟨xs, rfl, thawL_ok hs cs ds _ (by simpa only [ids] using hk) h1 hv⟩
  | .ref i off len top, d, x, hk, h, hv => by
    simp only [freeze] at h
    split at h
    · rename_i wr t sz n xs hl
      split at h
      · rename_i hc
        obtain ⟨h1, h2, h3⟩ := hc
        obtain rfl := Option.some.inj h
        exact seal_row hs (hk i (by simp [ids])) hl h2 h3 hv
      · cases h
    · cases h
  | .tup _, _, _, _, h, _ => by simp [freeze] at h
  | .ptr .., _, _, _, h, _ => by simp [freeze] at h
  | .lptr .., _, _, _, h, _ => by simp [freeze] at h
  | .fn .., _, _, _, h, _ => by simp [freeze] at h
  | .yld _, _, _, _, h, _ => by simp [freeze] at h
  | .mp _, _, _, _, h, _ => by simp [freeze] at h
  | .it _, _, _, _, h, _ => by simp [freeze] at h
  | .skip, _, _, _, h, _ => by simp [freeze] at h
  | .undef, _, _, _, h, _ => by simp [freeze] at h
theorem thawL_ok {lo : Nat} {s1 : S} (hs : Sim oc gl s1) : ∀ (cs : List V) (ds : List D) (xs : List Value), (∀ i ∈ idsL cs, lo ≤ i.lv) → freezeL true s1.m cs = some ds → VRs s1 cs xs → DRs s1.w (Sealed lo s1) ds xs
  | [], ds, xs, _, h, hv => by simp only [freezeL, Option.some.injEq] at h; subst h; exact hv
  | v :: r, ds, xs, hk, h, hv => by
    obtain ⟨x, ys, rfl, h1, h2, h3⟩ := hv
    simp only [freezeL] at h
    split at h
    · rename_i d ds' e1 e2
      obtain rfl := Option.some.inj h
      exact ⟨x, ys, rfl, h1, thaw_ok hs v d x (fun i hi => hk i (by simp [idsL, hi])) e1 h2, thawL_ok hs r ds' ys (fun i hi => hk i (by simp [idsL, hi])) e2 h3⟩
    · cases h
end

theorem thawT_ok {lo : Nat} {s1 s' : S} (hs : Sim oc gl s1) (hw : s'.w = s1.w) (him : s'.Im = Sealed lo s1) : ∀ (cs : List V) (ds : List D) (xs : List Value), (∀ i ∈ idsL cs, lo ≤ i.lv) → freezeL true s1.m cs = some ds → VRt s1 cs xs → VRt s' (asV ds) xs
  | [], ds, xs, _, h, hv => by simp only [freezeL, Option.some.injEq] at h; subst h; exact hv
  | v :: r, ds, xs, hk, h, hv => by
    obtain ⟨x, ys, rfl, h2, h3⟩ := hv
    simp only [freezeL] at h
    split at h
    · rename_i d ds' e1 e2
      obtain rfl := Option.some.inj h
      refine ⟨x, ys, rfl, ?_, thawT_ok hs hw him r ds' ys (fun i hi => hk i (by simp [idsL, hi])) e2 h3⟩
      have := thaw_ok hs v d x (fun i hi => hk i (by simp [idsL, hi])) e1 h2
      show DR s'.w s'.Im d x
      rw [hw, him]; exact this
    · cases h

theorem take_ok {lo : Nat} {s s1 sB : S} (hB : Back oc gl lo s s1 sB) {cx : Cx} {slot : Nat} {imm : Bool} {v v' : V} {m' : Mem} {x : Value} (h : takeV cx slot lo imm sB.m s1.m v = some (v', m')) (hv : VR s1 v x) :
    ∃ s', s'.w = s1.w ∧ Sim oc gl s' ∧ Ext (fun _ => True) s s' ∧ s'.m = m' ∧ VR s' v' x := by
  unfold takeV at h
  split at h
  · split at h <;> try cases h
    rename_i hids
    simp only [List.all_eq_true, decide_eq_true_eq] at hids
    simp only [Option.map_eq_some_iff, Prod.mk.injEq] at h
    obtain ⟨y, hth, rfl, rfl⟩ := h
    let s' : S := ⟨sB.φ, sB.m, s1.w, Sealed lo s1⟩
    have h0 : Ext0 (fun _ => True) sB s' := ⟨fun b j h => .inl (by rw [hB.im] at h; exact h), fun b j _ => by rw [hB.w], fun i o _ ho => ⟨o, ho, Turned.refl _ _⟩⟩
    have hE := hB.ext
    have hw : s'.w = sB.w := hB.w.symm
    refine ⟨s', rfl, ⟨fun i o hi => ?_, hB.sim.apart, fun b j h => ?_, fun g cs hg => CR.ext (fun _ _ h => .inl h) (fun _ _ _ => rfl) g 0 cs (hB.sim1.glob g cs hg), fun g cs hg => ⟨(hB.sim.tabs g cs hg).1, (hB.sim1.tabs g cs hg).2⟩⟩, ⟨by rw [hw]; exact hE.os, by rw [hw]; exact hE.tape, by rw [hw]; exact hE.output, by rw [hw]; exact hE.size, fun b hb hf => ?_, fun b j h => ?_, fun b j h => .inl (by have := hE.im b j h; rw [hB.im] at this; exact this),
      fun b j h => by rw [hw]; exact hE.keep b j h, hE.objs⟩, rfl, ?_⟩
    · by_cases hg : o = .gone
      · subst hg; trivial
      refine ObR.ext0 h0 (fun _ _ => trivial) (fun b hb => ⟨by rw [hB.w], fun j h => ?_⟩) (hB.sim.objs i o hi)
      rcases h with h | ⟨k, wr', t', sz', n', xs', hlo, hk', hb', _⟩
      · rw [hB.im]; exact h
      · exact absurd hb ((hB.new k _ b hk' (by simp) hlo hb').2 i o hi hg)
    · rcases h with h | ⟨k, wr', t', sz', n', xs', _, hk', hb', hj⟩
      · exact hB.sim1.imlt b j h
      · exact (hB.sim1.objs k _ hk').blk_lt (by simp) hb'
    · obtain ⟨h1, h2⟩ := hE.frame b hb hf
      exact ⟨by rw [hw]; exact h1, h2⟩
    · rcases h with h | ⟨k, wr', t', sz', n', xs', hlo, hk', hb', _⟩
      · exact hE.imnew b j (by rw [hB.im]; exact h)
      · exact .inr ((hB.new k _ b hk' (by simp) hlo hb').1)
    · unfold thaw at hth
      split at hth
      · rename_i vs
        simp only [Option.map_eq_some_iff] at hth
        obtain ⟨ds, h1, rfl⟩ := hth
        obtain ⟨xs, rfl, hv⟩ := hv
        exact ⟨xs, rfl, thawT_ok (s' := s') hB.sim1 rfl rfl vs ds _ (by simpa only [ids] using hids) h1 hv⟩
      · simp only [Option.map_eq_some_iff] at hth
        obtain ⟨d, h1, rfl⟩ := hth
        exact thaw_ok hB.sim1 v d x hids h1 hv
  · exact settle_ok hB h hv

/-- A call that began with no memory at all. -/
theorem back_pure {s s1 : S} (hs : Sim oc gl s) (h1 : Sim oc gl s1) (hE : Ext (fun _ => True) ⟨s.φ, [], s.w, s.Im⟩ s1) : Back oc gl 0 s s1 ⟨s.φ, s.m, s1.w, s1.Im⟩ := by
  have free0 : ∀ b, Free ⟨s.φ, [], s.w, s.Im⟩ b := fun b i o hi _ => by simp [look] at hi
  have hE' : Ext (fun _ => True) s ⟨s.φ, s.m, s1.w, s1.Im⟩ :=
    ⟨hE.os, hE.tape, hE.output, hE.size, fun b hb hf => ⟨(hE.frame b hb (free0 b)).1, hf⟩, fun b j h => by
      rcases hE.imnew b j h with h | h | h
      · exact .inl h
      · exact .inr (.inl h)
      · exact absurd (free0 b) h, hE.im, hE.keep, fun i o _ ho => ⟨o, ho, Turned.refl _ _⟩⟩
  refine ⟨h1, ⟨fun i o hi => ?_, hs.apart, h1.imlt, h1.glob, hs.tabs.ext hE'⟩, hE', rfl, rfl, fun i o b hi hg _ hb => ?_, fun i h => absurd h (Nat.not_lt_zero _)⟩
  · by_cases hg : o = .gone
    · subst hg; trivial
    refine ObR.ext hE' (fun b hb => ?_) (hs.objs i o hi)
    have hlt := (hs.objs i o hi).blk_lt hg hb
    refine ⟨(hE.frame b hlt (free0 b)).1, fun j h => ?_⟩
    rcases hE.imnew b j h with h | h | h
    · exact h
    · have h : s.w.heap.size ≤ b := h
      omega
    · exact absurd (free0 b) h
  · have hge : s.w.heap.size ≤ b := by
      rcases Nat.lt_or_ge b s.w.heap.size with hlt | hge
      · exact absurd hb ((hE.frame b hlt (free0 b)).2 i o hi hg)
      · exact hge
    refine ⟨.inl hge, fun j o' hj hg' hb' => ?_⟩
    have := (hs.objs j o' hj).blk_lt hg' hb'
    omega

/-- A call in the caller's own memory. -/
theorem back_shared {nx : Nat} {s s1 : S} (h1 : Sim oc gl s1) (hE : Ext (fun _ => True) s s1) (hlow : allLow nx (keys s.m) = true) (hids : allLow nx (idsAll (belowLv nx s1.m)) = true) :
    Back oc gl nx s s1 ⟨s1.φ, belowLv nx s1.m, s1.w, s1.Im⟩ := by
  simp only [allLow, List.all_eq_true, decide_eq_true_eq] at hlow hids
  obtain ⟨k1, k2⟩ := h1.sub (fun i => decide (i.lv < nx)) (fun i hi => by simpa using hids i hi)
  have hkey : ∀ i o, look s.m i = some o → i.lv < nx := by
    have : ∀ (m : Mem) i o, look m i = some o → i ∈ keys m := by
      intro m
      induction m with
      | nil => intro i o h; simp [look] at h
      | cons p r ih =>
        intro i o h
        obtain ⟨j, y⟩ := p
        simp only [look] at h
        split at h
        · rename_i e; subst e; simp [keys]
        · have := ih i o h
          simp only [keys, List.map_cons, List.mem_cons]
          exact .inr this
    exact fun i o h => hlow i (this _ i o h)
  refine ⟨h1, k1, ?_, rfl, rfl, fun i o b hi hg hlo hb => ⟨?_, fun j o' hj hg' hb' => ?_⟩, fun i h => ⟨?_, rfl⟩⟩
  · refine Ext.of_look (Ext.trans (Ext.mono hE (fun _ _ => trivial)) k2 fun i hi => ?_)
    cases ho : look s.m i with
    | none => exact absurd ho hi
    | some o => simpa using hkey i o ho
  · rcases Nat.lt_or_ge b s.w.heap.size with hlt | hge
    · exact .inr fun hf => (hE.frame b hlt hf).2 i o hi hg hb
    · exact .inl hge
  · have hj : look (s1.m.filter fun q => decide (q.1.lv < nx)) j = some o' := hj
    rw [look_filter (fun i => decide (i.lv < nx))] at hj
    split at hj
    · rename_i hjl
      simp only [decide_eq_true_eq] at hjl
      refine h1.apart j i o' o b (fun e => ?_) hj hi hg' hg hb' hb
      subst e; omega
    · cases hj
  · show look (s1.m.filter fun q => decide (q.1.lv < nx)) i = _
    rw [look_filter (fun i => decide (i.lv < nx))]
    simp [h]

end
end Go.Evl

