
/-
  A range over a function.
-/
import Derived.Test.YtlboecjgelnabaaGreatDoorEvFifteen
namespace Go.Evl
open Go.RowKit

section
variable {P : Program} {gl : Globs}

theorem Free.fresh {oc : Codes} {s : S} (hs : Sim oc gl s) {b : Nat} (h : s.w.heap.size ≤ b) : Free s b := fun i o hi hg hb => by
  have := (hs.objs i o hi).blk_lt hg hb
  omega

theorem range_ok {F : Oracle} (hF : Best P gl F) : RangeOk P gl F := by
  intro cx slot f ps ca cb e m x e' m' h nt code ok N s A hs hm he hnt hN hmk Q hQ
  cases code <;> simp only [okC, Bool.false_eq_true] at ok
  rename_i g qs cx1 cx2
  simp only [Bool.and_eq_true, Bool.not_false, Bool.true_and, beq_iff_eq, List.all_eq_true, decide_eq_true_eq] at ok
  obtain ⟨⟨⟨⟨okg, hqs⟩, hps⟩, oka⟩, okb⟩ := ok
  subst hm
  have hf := okX_ok hs he okg
  simp only [evC] at h
  obtain ⟨i, hi⟩ : ∃ i, i = newId cx slot s.m := ⟨_, rfl⟩
  rw [← hi] at h
  have hfresh : look s.m i = none := by rw [hi]; exact newId_fresh _ _ _
  split at h <;> try cases h
  rename_i hlow
  generalize f.ev e = vf at hf h
  split at h <;> try cases h
  rename_i fid first caps
  split at h <;> try cases h
  rename_i v1 m1 hcall
  split at h <;> try cases h
  rename_i e9 ps9 a9 b9 lv9 ov9 j hlk
  split at h <;> try cases h
  rename_i hids
  obtain ⟨xs, ys, hg, hx, hy⟩ := hf
  refine wpIn_rangeFunc (F := fen none) fun fn _ => ?_
  -- the record is laid
  let wA : World := s.w.alloc (.deferred (some []))
  let L : Loop := { state := .ready, pending := none, fn, tmps := A.tmps, params := qs, assign := cx1, body := cx2, defers := s.w.heap.size }
  let wB : World := wA.alloc (.loop L)
  have hszA : wA.heap.size = s.w.heap.size + 1 := by simp [wA]
  obtain ⟨kA1, kA2⟩ := hs.calm wA s.Im rfl rfl rfl (by simp [wA]) (fun b hb => heap_alloc_old _ _ _ hb) (fun _ _ h => h) (fun _ _ h => .inl h) (fun b j h => Nat.lt_of_lt_of_le (hs.imlt b j h) (by simp [wA]))
  let sA : S := ⟨s.φ, s.m, wA, s.Im⟩
  obtain ⟨kB1, kB2⟩ := newBlock (s := sA) kA1 i hfresh (.loop e ps ca cb cx.lv false false none) (.pointer (some ⟨wA.heap.size, 0, none⟩)) (.loop L) rfl
    (fun hE => ⟨wA.heap.size, L, rfl, heap_alloc_new _ _, by simp [L, ← hqs], fun t ht => Nat.lt_of_lt_of_le (hps t ht) hnt,
      EnvR.ext (Ext.trans kA2 hE (fun _ _ => trivial)) (fun _ _ _ => trivial) he, ⟨nt, hnt, oka⟩, ⟨nt, hnt, okb⟩, rfl, rfl⟩)
  obtain ⟨sB, hsB⟩ : ∃ sB : S, sB = ⟨fun k => if i = k then .pointer (some ⟨wA.heap.size, 0, none⟩) else sA.φ k, upd sA.m i (.loop e ps ca cb cx.lv false false none), sA.w.alloc (.loop L), sA.Im⟩ := ⟨_, rfl⟩
  rw [← hsB] at kB1 kB2
  have hwB : sB.w = wB := by rw [hsB]
  have hmB : sB.m = upd s.m i (.loop e ps ca cb cx.lv false false none) := by rw [hsB]
  have hφB : sB.φ i = .pointer (some ⟨wA.heap.size, 0, none⟩) := by rw [hsB]; simp
  have hsAB : Ext (fun _ => True) s sB := Ext.trans kA2 kB2 (fun _ _ => trivial)
  obtain ⟨hen, hgo⟩ := hF.good.call _ _ _ _ _ _ hcall
  have hyld : VR sB (.yld i) (.func (.yield wA.heap.size) #[] #[]) := by
    refine ⟨rfl, ?_⟩
    rw [hφB, hmB, look_upd_same]
    exact ⟨wA.heap.size, rfl, rfl⟩
  have hargs : VRt sB (first ++ [.yld i] ++ caps) (xs.toList ++ [.func (.yield wA.heap.size) #[] #[]] ++ ys.toList) :=
    VRt.append _ _ _ _ (VRt.append _ _ _ _ (VRt.ext hsAB _ _ (fun _ _ => trivial) hx) ⟨_, [], rfl, hyld, rfl⟩) (VRt.ext hsAB _ _ (fun _ _ => trivial) hy)
  have hgo := hgo sB kB1 hmB _ hargs
  rw [hwB] at hgo
  have harr : (xs.toList ++ [Value.func (.yield wA.heap.size) #[] #[]] ++ ys.toList).toArray = xs ++ #[Value.func (.yield wA.heap.size) #[] #[]] ++ ys := by
    apply Array.ext'; simp
  rw [harr] at hgo
  refine ⟨wA.heap.size, [markOf s.w.heap.size], wB, { target := .fn (.func fid) ys, args := xs ++ #[Value.func (.yield wA.heap.size) #[] #[]] }, wB, fid, xs ++ #[Value.func (.yield wA.heap.size) #[] #[]] ++ ys, wB, ?_, ?_, fun _ _ => trivial, ?_, fun hd => by simp [fen] at hd, ?_⟩
  · simp [Instr.enterLoop, fen, newObj, Sem.run, wB, wA, L, markOf]
  · have hev : A.eval g = .func (.func fid) xs ys := hg
    have hc : ∀ v, A.eval (.const v) = v := fun _ => rfl
    simp [Go.resolve, Deferred.ofValue, hev, hc]
  · simp [invoke, run_callFunc hen]
  refine CallsIn.mono (F := fen none) (n := 0) hgo ?_
  rintro e' w' ⟨s1, x1, rfl, rfl, k1, k2, rfl, k4⟩
  -- back at the statement
  obtain ⟨o1, ho1, ht⟩ := k2.objs i _ trivial (by rw [hmB, look_upd_same])
  rw [hlk] at ho1
  obtain rfl := Option.some.inj ho1
  have hp1 : s1.φ i = .pointer (some ⟨wA.heap.size, 0, none⟩) := by
    have : s1.φ i = sB.φ i := ht
    rw [this, hφB]
  obtain ⟨l1, L1, hpl, hL1, hpar, hpl2, henv1, hoa, hob, hst, hpend⟩ := k1.objs i _ hlk
  have hl1 : l1 = wA.heap.size := by
    rw [hp1] at hpl
    simp at hpl
    exact hpl.symm
  subst hl1
  have hB := back_shared k1 k2 (by rw [hmB]; exact hlow) hids
  have hkeyi : i.lv < cx.nx := by
    have h1 : i ∈ keys (upd s.m i (.loop e ps ca cb cx.lv false false none)) := keys_look _ i _ (look_upd_same _ _ _)
    simp only [allLow, List.all_eq_true, decide_eq_true_eq] at hlow
    exact hlow i h1
  obtain ⟨hli, hφi⟩ := hB.low i hkeyi
  have hCi : look (belowLv cx.nx s1.m) i = some (.loop e9 ps9 a9 b9 lv9 false ov9 j) := hli.trans hlk
  obtain ⟨kD1, kD2⟩ := putBlock (s := ⟨s1.φ, belowLv cx.nx s1.m, s1.w, s1.Im⟩) hB.sim i _ .gone hCi (by simp) wA.heap.size _ hp1 rfl _ (.loop { L1 with state := .exhausted }) hL1 rfl rfl trivial (fun _ => trivial)
  have hE : Ext (fun _ => True) s _ := Ext.trans hsAB (Ext.trans hB.ext kD2 (fun _ _ => trivial)) (fun _ _ => trivial)
  have hEA : Ext (fun _ => True) sA _ := Ext.trans kB2 (Ext.trans hB.ext kD2 (fun _ _ => trivial)) (fun _ _ => trivial)
  -- the marks
  have hmkA : Marks N sA (markOf s.w.heap.size :: A.defers) := by
    obtain ⟨rs, q1, q2, q3⟩ := Marks.ext kA2 hmk
    refine ⟨s.w.heap.size :: rs, by simp [q1], ?_, fun r hr => ?_⟩
    · refine List.nodup_cons.2 ⟨fun hr => ?_, q2⟩
      obtain ⟨rs', p1, _, p3⟩ := hmk
      have : rs' = rs := by
        have hinj : ∀ (a b : List Nat), a.map markOf = b.map markOf → a = b := by
          intro a b hab
          exact (List.map_inj_right (f := markOf) (fun x y hxy => by simpa [markOf] using hxy)).1 hab
        exact hinj _ _ (p1.symm.trans q1)
      subst this
      have := (Array.getElem?_eq_some_iff.1 (p3 _ hr).2.1).1
      omega
    · rcases List.mem_cons.1 hr with rfl | hr
      · refine ⟨hN, heap_alloc_new _ _, fun k o hk hg' hb => ?_, fun j' hj => ?_⟩
        · have := (hs.objs k o hk).blk_lt hg' hb
          omega
        · have := hs.imlt _ _ hj
          omega
      · exact q3 r hr
  have hmkD := Marks.ext hEA hmkA
  have henvD := EnvR.ext hE (fun _ _ _ => trivial) he
  have hend : (Instr.endLoop wA.heap.size).run P s1.w = .ok L1.pending { s1.w with heap := s1.w.heap.setIfInBounds wA.heap.size (.loop { L1 with state := .exhausted }) } := by
    have hb' : L1.state ≠ LoopState.busy := by rw [hst]; cases ov9 <;> simp [stateOf]
    simp [Instr.endLoop, Instr.getLoop, getObj, setObj, Sem.run, hL1, hb']
  have hend2 : (Instr.endLoop wA.heap.size).run P s1.w = .ok (j.map jumpCode) { s1.w with heap := s1.w.heap.setIfInBounds wA.heap.size (.loop { L1 with state := .exhausted }) } := by
    rw [hend, hpend]
  refine ⟨j.map jumpCode, _, hend2, ?_⟩
  cases j with
  | none =>
    simp only [Option.some.injEq, Prod.mk.injEq] at h
    obtain ⟨rfl, rfl, rfl⟩ := h
    have hq := hQ _ { A with defers := [markOf s.w.heap.size] ++ A.defers } kD1 hE rfl henvD rfl hmkD
    simpa only [Ex.exit', Option.map_none] using hq
  | some j =>
    simp only [Option.some.injEq, Prod.mk.injEq] at h
    obtain ⟨rfl, rfl, rfl⟩ := h
    cases j with
    | exit id =>
      have hq := hQ _ { A with defers := [markOf s.w.heap.size] ++ A.defers } kD1 hE rfl henvD rfl hmkD
      exact wpIn_exit (by simpa only [Ex.exit', Jump.ex] using hq)
    | ret =>
      have hq := hQ _ { A with defers := [markOf s.w.heap.size] ++ A.defers } kD1 hE rfl henvD rfl hmkD
      exact wpIn_ret (by simpa only [Ex.exit', Jump.ex] using hq)

end
end Go.Evl

