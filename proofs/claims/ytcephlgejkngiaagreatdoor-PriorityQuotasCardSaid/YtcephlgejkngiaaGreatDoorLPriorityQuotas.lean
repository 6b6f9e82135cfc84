
/-
  PriorityQuotas returns true, for every share and every list of newcomers and others.
-/
import Derived.Test.YtcephlgejkngiaaGreatDoorPcShr
import Derived.Test.YtcephlgejkngiaaGreatDoorSpGen
import Derived.Test.YtcephlgejkngiaaGreatDoorAwP
namespace Go.Proofs.YtcephlgejkngiaaGreatDoor.Co
open Go Go.Evl
set_option maxRecDepth 100000
structure QuS where
  i : Nat
  (A C : List Int)
  (got due la lc : Int)
section
variable {E : Oracle} (g : Good E)
include g
set_option maxHeartbeats 16000000 in
theorem w_PriorityQuotas (x y : Int) (l : List Bool) (hx : 0 ≤ x ∧ x ≤ 255) (hy : 0 ≤ y ∧ y ≤ 255) : Fc E n_law05_PriorityQuotas [.d (.int .u8 x), .d (.int .u8 y), LB l] (B true) := by
  have aw := s_awake g
  refine g.fn code_law05_PriorityQuotas rfl ?_
  by_cases hk : l.length ≤ 12
  · repeat' ((conv => whnf); first
  | refine Br.tt ?_ | refine Br.ff ?_ | refine Need.w ?_ | refine Wr.w ?_ | refine Cmp.t ?_ | refine Cmp.f ?_ | refine Rem.w ?_ | refine Quo.w ?_ | refine PickV.now rfl ?_ | refine Pick.now rfl ?_ | refine Chk.mk rfl ?_ | refine PickW.w rfl ?_
      | (refine Need.mk ⟨rfl, rfl, rfl, rfl, rfl, by simp, by show (0 + l.length) * 1 ≤ _; omega, by omega⟩ ?_))
    have m1 := Int.emod_nonneg x (show (6 : Int) ≠ 0 by decide)
    have m2 := Int.emod_lt_of_pos x (show (0 : Int) < 6 by decide)
    have m3 := Int.emod_nonneg y (show 1 + x % 6 + 1 ≠ 0 by omega)
    have m4 := Int.emod_lt_of_pos y (show 0 < 1 + x % 6 + 1 by omega)
    generalize y % (1 + x % 6 + 1) = fo at *
    generalize hm : 1 + x % 6 = m at *
    have hz : chkSh m fo l.length = 0 := by
      unfold chkSh
      rw [rng_zero.2 (by omega), rng_zero.2 (by omega), if_neg (by omega)]
      rfl
    have p1 : ∀ {n : Nat} {cs : List D}, n = l.length → cs = l.map D.bool → Fc E n_priority_Interleave [I m, I fo, .d (.list n cs)] (.tup [LI (shrL m fo l), I 0]) := fun hn hc => by subst hn hc; exact s_Interleave_ok g m fo l hz
    have ho := shrL_ord m fo l
    have hrl := ho.len
    have p2 := r_IsOrder g l.length _ ho (by omega)
    have hR : shrG m fo l.length 0 (selG true 0 l) (selG false 0 l) = shrL m fo l := rfl
    generalize shrL m fo l = r at *
    refine CallI.of (p1 (Nat.zero_add _) (if_pos ⟨rfl, rfl⟩)) ?_
    repeat' ((conv => whnf); first
    | refine Br.tt ?_ | refine Br.ff ?_ | refine Need.w ?_ | refine Wr.w ?_ | refine Cmp.t ?_ | refine Cmp.f ?_ | refine Rem.w ?_ | refine Quo.w ?_ | refine PickV.now rfl ?_ | refine Pick.now rfl ?_ | refine Chk.mk rfl ?_ | refine PickW.w rfl ?_
      | (apply CallI.of; assumption))
    refine LoopW.to (LoopW.up g (fun k => [(2, LB l), (7, I m), (8, I fo), (9, LI r), (11, I (selG true 0 (l.take k)).length), (57, LB l), (58, I l.length), (59, I k)]) (fun _ => _) l.length (fun k hk ih => ?_) 0 (Nat.zero_le _)) rfl rfl
    have l1 := selG_le true 0 (l.take k)
    have l3 : (l.take k).length = k := by simp; omega
    by_cases hlt : k < l.length
    · have ih := ih hlt
      rw [selG_take true hlt] at ih
      generalize hx : l[k] = x at *
      generalize selG true 0 (l.take k) = A at *
      cases x
      · simp only [reduceCtorEq, if_false, List.append_nil] at ih
        repeat' ((conv => whnf); first
        | refine Br.tt ?_ | refine Br.ff ?_ | refine Need.w ?_ | refine Wr.w ?_ | refine Cmp.t ?_ | refine Cmp.f ?_ | refine Rem.w ?_ | refine Quo.w ?_ | refine PickV.now rfl ?_ | refine Pick.now rfl ?_ | refine Chk.mk rfl ?_ | refine PickW.w rfl ?_
          | (refine Pick.boolI k rfl hlt ?_; rw [hx])
          | (refine LoopW.to ih rfl rfl))
      · simp only [if_true, List.length_append, List.length_cons, List.length_nil] at ih
        repeat' ((conv => whnf); first
        | refine Br.tt ?_ | refine Br.ff ?_ | refine Need.w ?_ | refine Wr.w ?_ | refine Cmp.t ?_ | refine Cmp.f ?_ | refine Rem.w ?_ | refine Quo.w ?_ | refine PickV.now rfl ?_ | refine Pick.now rfl ?_ | refine Chk.mk rfl ?_ | refine PickW.w rfl ?_
          | (refine Pick.boolI k rfl hlt ?_; rw [hx])
          | (refine LoopW.to ih rfl rfl))
    · have hk' : k = l.length := by omega
      subst hk'
      rw [List.take_length] at *
      have hq0 := Quo.zero l
      generalize hA0 : selG true 0 l = A0 at *
      generalize hC0 : selG false 0 l = C0 at *
      generalize A0.length = tot at *
      repeat' ((conv => whnf); first
      | refine Br.tt ?_ | refine Br.ff ?_ | refine Need.w ?_ | refine Wr.w ?_ | refine Cmp.t ?_ | refine Cmp.f ?_ | refine Rem.w ?_ | refine Quo.w ?_ | refine PickV.now rfl ?_ | refine Pick.now rfl ?_ | refine Chk.mk rfl ?_ | refine PickW.w rfl ?_)
      refine LoopW.to (LoopW.by g (fun s : QuS => r.drop s.i = shrG m fo (l.length - s.i) s.i s.A s.C ∧ s.i ≤ l.length ∧ Quo l tot s.i s.A s.C s.got s.due s.la s.lc)
        (fun s => [(2, LB l), (7, I m), (8, I fo), (11, I tot), (14, .ptr ⟨0, 14, 0⟩ 0 0), (15, I s.got), (16, I s.due), (68, LI r), (69, I r.length), (70, I s.i)])
        (fun s => [(⟨0, 37, 0⟩, .row false ty_bool 1 (0 + l.length) ([] ++ l.map D.bool)), (⟨0, 14, 0⟩, .cells ty_2_int [I s.lc, I s.la])])
        (fun s => l.length - s.i) (fun s hs ih => ?_) ⟨0, A0, C0, 0, 0, -1, -1⟩ ⟨by simpa using hR.symm, by simp, hq0⟩) rfl rfl
      obtain ⟨i, A, C, got, due, la, lc⟩ := s
      obtain ⟨h1, hi, hq⟩ := hs
      dsimp only at h1 hi hq ih ⊢
      have htl := hq.tl
      have hdu := hq.du
      have hhg := hq.hg
      have hhc := hq.hc
      by_cases hlt : i < l.length
      · obtain ⟨x, A', C', hp⟩ := pickQ_some (w := decide ((i : Int) % m < fo)) (A := A) (C := C) (by omega)
        have hn : l.length - i = (l.length - (i + 1)) + 1 := by omega
        have hir : i < r.length := by omega
        rw [hn, shrG, hp, List.drop_eq_getElem_cons hir] at h1
        obtain ⟨hxr, hdr⟩ := List.cons.inj h1
        clear h1
        have hw := Int.emod_nonneg (i : Int) (show m ≠ 0 by omega)
        rcases pickQ_cases hp with ⟨rfl, rfl, hc⟩ | ⟨rfl, rfl, hc⟩
        · have hq' := hq.new hc
          obtain ⟨q, rfl, hql⟩ := hq.na x (List.mem_cons_self ..)
          have hfa := hq.fa _ (List.mem_cons_self ..)
          obtain ⟨hqk, hqv⟩ := List.getElem?_eq_some_iff.1 hql
          have ih := ih ⟨i + 1, A', C', got + 1, due + if decide ((i : Int) % m < fo) = true then 1 else 0, q, lc⟩ ⟨hdr, by dsimp only; omega, hq'⟩ (by dsimp only; omega)
          have lo := hq'.lo
          have hi' := hq'.hi
          have hl2 := hq'.hg
          clear hq hq'
          generalize hwd : decide ((i : Int) % m < fo) = w at *
          cases w
          all_goals
            first | have hwf := of_decide_eq_true hwd | have hwf := of_decide_eq_false hwd
            simp only [reduceCtorEq, if_false, if_true, Int.add_zero] at ih lo hi'
            repeat' ((conv => whnf); first
            | refine Br.tt ?_ | refine Br.ff ?_ | refine Need.w ?_ | refine Wr.w ?_ | refine Cmp.t ?_ | refine Cmp.f ?_ | refine Rem.w ?_ | refine Quo.w ?_ | refine PickV.now rfl ?_ | refine Pick.now rfl ?_ | refine Chk.mk rfl ?_ | refine PickW.w rfl ?_
              | (refine Pick.intI i rfl hir ?_; rw [hxr])
              | (refine Pick.boolI q rfl hqk ?_; rw [hqv])
              | (refine LoopW.to ih rfl rfl))
        · have hq' := hq.old hc
          obtain ⟨q, rfl, hql⟩ := hq.nc x (List.mem_cons_self ..)
          have hfa := hq.fc _ (List.mem_cons_self ..)
          obtain ⟨hqk, hqv⟩ := List.getElem?_eq_some_iff.1 hql
          have ih := ih ⟨i + 1, A', C', got, due + if decide ((i : Int) % m < fo) = true then 1 else 0, la, q⟩ ⟨hdr, by dsimp only; omega, hq'⟩ (by dsimp only; omega)
          have lo := hq'.lo
          have hi' := hq'.hi
          have hl2 := hq'.hg
          clear hq hq'
          generalize hwd : decide ((i : Int) % m < fo) = w at *
          cases w
          all_goals
            first | have hwf := of_decide_eq_true hwd | have hwf := of_decide_eq_false hwd
            simp only [reduceCtorEq, if_false, if_true, Int.add_zero] at ih lo hi'
            repeat' ((conv => whnf); first
            | refine Br.tt ?_ | refine Br.ff ?_ | refine Need.w ?_ | refine Wr.w ?_ | refine Cmp.t ?_ | refine Cmp.f ?_ | refine Rem.w ?_ | refine Quo.w ?_ | refine PickV.now rfl ?_ | refine Pick.now rfl ?_ | refine Chk.mk rfl ?_ | refine PickW.w rfl ?_
              | (refine Pick.intI i rfl hir ?_; rw [hxr])
              | (refine Pick.boolI q rfl hqk ?_; rw [hqv])
              | (refine LoopW.to ih rfl rfl))
      · repeat' ((conv => whnf); first
      | refine Br.tt ?_ | refine Br.ff ?_ | refine Need.w ?_ | refine Wr.w ?_ | refine Cmp.t ?_ | refine Cmp.f ?_ | refine Rem.w ?_ | refine Quo.w ?_ | refine PickV.now rfl ?_ | refine Pick.now rfl ?_ | refine Chk.mk rfl ?_ | refine PickW.w rfl ?_
          | (apply CallI.of; assumption)
          | (refine Ret.mk rfl))
  · repeat' ((conv => whnf); first
  | refine Br.tt ?_ | refine Br.ff ?_ | refine Need.w ?_ | refine Wr.w ?_ | refine Cmp.t ?_ | refine Cmp.f ?_ | refine Rem.w ?_ | refine Quo.w ?_ | refine PickV.now rfl ?_ | refine Pick.now rfl ?_ | refine Chk.mk rfl ?_ | refine PickW.w rfl ?_
      | (apply CallI.of; assumption)
      | (refine Ret.mk rfl))
end
theorem s_PriorityQuotas {E : Oracle} (g : Good E) {xs : List D} (h : fitArgs Tryz.prog [5, 5, 61] xs) : Fc E n_law05_PriorityQuotas (asV xs) (B true) := by
  obtain ⟨x, y, z, rfl, h1, h2, h3⟩ := args3 h
  obtain ⟨m, rfl, w1⟩ := arg_i Tryz.underlying5 h1
  obtain ⟨n, rfl, w2⟩ := arg_i Tryz.underlying5 h2
  obtain ⟨l, rfl, _⟩ := arg_bools h3
  simp only [Lit.wf, Bool.and_eq_true, decide_eq_true_eq] at w1 w2
  exact w_PriorityQuotas g m n l w1 w2
end Go.Proofs.YtcephlgejkngiaaGreatDoor.Co
