
/-
  Priority: which of two claims comes first, by the program and by the reference.
-/
import Derived.Test.YtcephlgejkngiaaGreatDoorPlDec
namespace Go.Proofs.YtcephlgejkngiaaGreatDoor.Co
open Go Go.Evl
set_option maxRecDepth 100000
theorem clsG_ge (c : Clm) : ∀ (i : Nat) (l : List Cls), (i : Int) ≤ clsG c i l ∧ clsG c i l ≤ i + l.length
  | i, [] => by simp [clsG]
  | i, x :: r => by
    have := clsG_ge c (i + 1) r
    rw [clsG, List.length_cons]
    split
    · omega
    · omega
def keyM (lv slot : Nat) (p : Prg) (i : Int) : Mem := [(⟨lv, slot, 0⟩, .cells ty_int [I i]), (⟨lv, slot, 1⟩, .cells ty_priority_Program [LC p.cl, I p.po, I p.of, I p.fo])]
def OkKy (p : Prg) : Prop := ∀ c ∈ p.cl, ∀ k ∈ c.ky, k.fa ∈ fcL
section
variable {E : Oracle} (g : Good E)
include g
theorem s_keys (p : Prg) (i : Int) : In E 0 n_priority_Program_keys [Pgv p, I i] [] fun v m' => v = .fn n_priority_Program_keys_1 [] [.ptr ⟨0, 3, 0⟩ 0 0, .ptr ⟨0, 2, 0⟩ 0 0] ∧ m' = [(⟨0, 2, 0⟩, .cells ty_priority_Program [LC p.cl, I p.po, I p.of, I p.fo]), (⟨0, 3, 0⟩, .cells ty_int [I i])] := by
  refine In.enter g.lim rfl code_priority_Program_keys ?_
  repeat' ((conv => whnf); first
  | refine Br.tt ?_ | refine Br.ff ?_ | refine Need.w ?_ | refine Wr.w ?_ | refine Cmp.t ?_ | refine Cmp.f ?_ | refine Rem.w ?_ | refine Quo.w ?_ | refine PickV.now rfl ?_ | refine Pick.now rfl ?_ | refine Chk.mk rfl ?_ | refine PickW.w rfl ?_
    | (exact ⟨rfl, rfl⟩))
theorem CallS.keys {p : Prg} {i : Int} {cx : Cx} {slot : Nat} {m : Mem} {K : V → Mem → Prop} (hf : Go.Evl.freeK cx.lv slot m = 0) (h : K (.fn n_priority_Program_keys_1 [] [.ptr ⟨cx.lv, slot, 0⟩ 0 0, .ptr ⟨cx.lv, slot, 1⟩ 0 0]) (m ++ keyM cx.lv slot p i)) : CallS E n_priority_Program_keys [Pgv p, I i] cx slot m K := by
  obtain ⟨v, m', h1, rfl, rfl⟩ := (s_keys g p i).got
  refine ⟨_, _, (.fn n_priority_Program_keys_1 [] [.ptr ⟨cx.lv, slot, 0⟩ 0 0, .ptr ⟨cx.lv, slot, 1⟩ 0 0], m ++ keyM cx.lv slot p i), h1, ?_, h⟩
  unfold Go.Evl.settle
  rw [hf]
  rfl
theorem fact_two (a b : Clm) (s : List UInt8) (h : s ∈ fcL) (ha : chkCl a = 0) (hb : chkCl b = 0) : ∃ n, findE (.str s) facM = some (some (.d (.agg [.str s, .fn n]))) ∧ Fc E n [Clv a] (I (factV a s)) ∧ Fc E n [Clv b] (I (factV b s)) := by
  obtain ⟨n, f1, c1⟩ := fact_find g a s h ha
  obtain ⟨k, f2, c2⟩ := fact_find g b s h hb
  have : n = k := by
    rw [f1] at f2
    simpa using f2
  subst this
  exact ⟨n, f1, c1, c2⟩
set_option maxHeartbeats 32000000 in
theorem s_decide (p : Prg) (a b : Clm) (hs : SmallP p) (ha : chkCl a = 0) (hb : chkCl b = 0) (hp : OkWh p) (hk : OkKy p) : Fc E n_priority_Program_decide [Pgv p, Clv a, Clv b] (.tup [I (dcP p a b).1, S (dcP p a b).2]) := by
  refine g.fn code_priority_Program_decide rfl ?_
  have h1 := s_classOf g p a hs ha hp
  have h2 := s_classOf g p b hs hb hp
  have b0 : Fc E n_priority_bit [B false] (I 0) := s_pbit g false
  have b1 : Fc E n_priority_bit [B true] (I 1) := s_pbit g true
  have r1 := clsG_ge a 0 p.cl
  have r2 := clsG_ge b 0 p.cl
  have l1 := hs.1
  unfold dcP
  generalize clsG a 0 p.cl = i at *
  generalize clsG b 0 p.cl = k at *
  rcases Int.lt_trichotomy i k with e | e | e
  · rw [dcC_lt _ _ _ e]
    repeat' ((conv => whnf); first
    | refine Br.tt ?_ | refine Br.ff ?_ | refine Need.w ?_ | refine Wr.w ?_ | refine Cmp.t ?_ | refine Cmp.f ?_ | refine Rem.w ?_ | refine Quo.w ?_ | refine PickV.now rfl ?_ | refine Pick.now rfl ?_ | refine Chk.mk rfl ?_ | refine PickW.w rfl ?_
      | (apply CallI.of; assumption)
      | (refine Ret.mk rfl))
  · subst e
    by_cases he : a = b
    · subst he
      rw [dcC_self]
      repeat' ((conv => whnf); first
      | refine Br.tt ?_ | refine Br.ff ?_ | refine Need.w ?_ | refine Wr.w ?_ | refine Cmp.t ?_ | refine Cmp.f ?_ | refine Rem.w ?_ | refine Quo.w ?_ | refine PickV.now rfl ?_ | refine Pick.now rfl ?_ | refine Chk.mk rfl ?_ | refine PickW.w rfl ?_
        | (apply CallI.of; assumption)
        | (refine Cmp.tt (by simp) ?_)
        | (refine Ret.mk rfl))
    · obtain ⟨n, rfl⟩ : ∃ n : Nat, i = n := ⟨i.toNat, by omega⟩
      rw [dcC_same]
      have two : ∀ s ∈ fcL, ∃ n, findE (.str s) facM = some (some (.d (.agg [.str s, .fn n]))) ∧ Fc E n [Clv a] (I (factV a s)) ∧ Fc E n [Clv b] (I (factV b s)) := fun s h => fact_two g a b s h ha hb
      generalize factV a = fa at *
      generalize factV b = fb at *
      by_cases hn : n < p.cl.length
      · have l2 := (hs.2 _ (List.getElem_mem hn)).2
        have hkk := hk _ (List.getElem_mem hn)
        rw [keyC_in hn]
        generalize hR : dcF fa fb p.cl[n].ky = R
        repeat' ((conv => whnf); first
        | refine Br.tt ?_ | refine Br.ff ?_ | refine Need.w ?_ | refine Wr.w ?_ | refine Cmp.t ?_ | refine Cmp.f ?_ | refine Rem.w ?_ | refine Quo.w ?_ | refine PickV.now rfl ?_ | refine Pick.now rfl ?_ | refine Chk.mk rfl ?_ | refine PickW.w rfl ?_
          | (apply CallI.of; assumption)
          | (refine CallS.keys g rfl ?_)
          | (refine In.enter g.lim rfl code_priority_Program_keys_1 ?_)
          | (refine Cmp.mk (fun h => ?_) (fun h => ?_))
          | (refine Pick.rec Cls.cells_length n rfl hn rfl ?_))
        · refine absurd ?_ he
          clear h1 h2 two hR he ha hb r1 r2
          obtain ⟨⟨n1, c1, k1, t1, p1, l1, f1, o1, d1, m1, s1, z1, i1⟩, h1, r1, w1, y1, x1⟩ := a
          obtain ⟨⟨n2, c2, k2, t2, p2, l2, f2, o2, d2, m2, s2, z2, i2⟩, h2, r2, w2, y2, x2⟩ := b
          simp_all
        all_goals
          refine LoopW.to (LoopW.upP g (fun k => [(0, .yld ⟨0, 67, 0⟩), (16, LK p.cl[n].ky), (17, I p.cl[n].ky.length), (18, I k)]) (fun _ => _) (fun k => dcF fa fb (p.cl[n].ky.drop k) = R) p.cl[n].ky.length (fun k hk h0 ih => ?_) 0 (Nat.zero_le _) hR) rfl rfl
          by_cases hlt : k < p.cl[n].ky.length
          · rw [List.drop_eq_getElem_cons hlt, dcF] at h0
            have ih := ih hlt
            obtain ⟨m, m1, m2, m3⟩ := two _ (hkk _ (List.getElem_mem hlt))
            generalize hx : p.cl[n].ky[k] = x at *
            obtain ⟨f, dn⟩ := x
            dsimp only at h0 m1 m2 m3
            generalize fa f = u at *
            generalize fb f = v at *
            rcases Int.lt_trichotomy u v with e | e | e
            · rw [if_neg (by omega), decide_eq_true e] at h0
              rw [← h0]
              cases dn
              all_goals repeat' ((conv => whnf); first
              | refine Br.tt ?_ | refine Br.ff ?_ | refine Need.w ?_ | refine Wr.w ?_ | refine Cmp.t ?_ | refine Cmp.f ?_ | refine Rem.w ?_ | refine Quo.w ?_ | refine PickV.now rfl ?_ | refine Pick.now rfl ?_ | refine Chk.mk rfl ?_ | refine PickW.w rfl ?_
                | (refine PickW.rec Kyt.cells_length k rfl hlt ?_; rw [hx])
                | (refine CallS.known g rfl ?_)
                | (refine Find.mk ⟨_, m1, ?_⟩)
                | (refine Rnd.enter g.lim ?_)
                | (apply CallI.of; assumption)
                | (refine Ret.mk rfl))
            · rw [if_pos e] at h0
              have ih := ih h0
              repeat' ((conv => whnf); first
              | refine Br.tt ?_ | refine Br.ff ?_ | refine Need.w ?_ | refine Wr.w ?_ | refine Cmp.t ?_ | refine Cmp.f ?_ | refine Rem.w ?_ | refine Quo.w ?_ | refine PickV.now rfl ?_ | refine Pick.now rfl ?_ | refine Chk.mk rfl ?_ | refine PickW.w rfl ?_
                | (refine PickW.rec Kyt.cells_length k rfl hlt ?_; rw [hx])
                | (refine CallS.known g rfl ?_)
                | (refine Find.mk ⟨_, m1, ?_⟩)
                | (refine Rnd.enter g.lim ?_)
                | (apply CallI.of; assumption)
                | (refine LoopW.to ih rfl rfl))
            · rw [if_neg (by omega), decide_eq_false (by omega)] at h0
              rw [← h0]
              cases dn
              all_goals repeat' ((conv => whnf); first
              | refine Br.tt ?_ | refine Br.ff ?_ | refine Need.w ?_ | refine Wr.w ?_ | refine Cmp.t ?_ | refine Cmp.f ?_ | refine Rem.w ?_ | refine Quo.w ?_ | refine PickV.now rfl ?_ | refine Pick.now rfl ?_ | refine Chk.mk rfl ?_ | refine PickW.w rfl ?_
                | (refine PickW.rec Kyt.cells_length k rfl hlt ?_; rw [hx])
                | (refine CallS.known g rfl ?_)
                | (refine Find.mk ⟨_, m1, ?_⟩)
                | (refine Rnd.enter g.lim ?_)
                | (apply CallI.of; assumption)
                | (refine Ret.mk rfl))
          · rw [List.drop_eq_nil_of_le (by omega), dcF] at h0
            rw [← h0]
            repeat' ((conv => whnf); first
            | refine Br.tt ?_ | refine Br.ff ?_ | refine Need.w ?_ | refine Wr.w ?_ | refine Cmp.t ?_ | refine Cmp.f ?_ | refine Rem.w ?_ | refine Quo.w ?_ | refine PickV.now rfl ?_ | refine Pick.now rfl ?_ | refine Chk.mk rfl ?_ | refine PickW.w rfl ?_
              | (refine Ret.mk rfl))
      · have hn' : n = p.cl.length := by omega
        rw [keyC_out (by omega), dcF]
        repeat' ((conv => whnf); first
        | refine Br.tt ?_ | refine Br.ff ?_ | refine Need.w ?_ | refine Wr.w ?_ | refine Cmp.t ?_ | refine Cmp.f ?_ | refine Rem.w ?_ | refine Quo.w ?_ | refine PickV.now rfl ?_ | refine Pick.now rfl ?_ | refine Chk.mk rfl ?_ | refine PickW.w rfl ?_
          | (apply CallI.of; assumption)
          | (refine CallS.keys g rfl ?_)
          | (refine In.enter g.lim rfl code_priority_Program_keys_1 ?_)
          | (refine Cmp.mk (fun h => ?_) (fun h => ?_))
          | (refine Ret.mk rfl))
  · rw [dcC_gt _ _ _ e]
    repeat' ((conv => whnf); first
    | refine Br.tt ?_ | refine Br.ff ?_ | refine Need.w ?_ | refine Wr.w ?_ | refine Cmp.t ?_ | refine Cmp.f ?_ | refine Rem.w ?_ | refine Quo.w ?_ | refine PickV.now rfl ?_ | refine Pick.now rfl ?_ | refine Chk.mk rfl ?_ | refine PickW.w rfl ?_
      | (apply CallI.of; assumption)
      | (refine Ret.mk rfl))
set_option maxHeartbeats 8000000 in
theorem r_Decide (p : Prg) (a b : Clm) (hs : SmallP p) (ha : chkCl a = 0) (hb : chkCl b = 0) (hp : OkWh p) (hk : OkKy p) : Fc E n_ref05_Decide [Pgv p, Clv a, Clv b] (.tup [I (dcP p a b).1, S (dcP p a b).2]) := by
  refine g.fn code_ref05_Decide rfl ?_
  have h1 := r_ClassOf g p a hs ha hp
  have h2 := r_ClassOf g p b hs hb hp
  have r1 := clsG_ge a 0 p.cl
  have r2 := clsG_ge b 0 p.cl
  have l1 := hs.1
  unfold dcP
  generalize clsG a 0 p.cl = i at *
  generalize clsG b 0 p.cl = k at *
  rcases Int.lt_trichotomy i k with e | e | e
  · rw [dcC_lt _ _ _ e]
    repeat' ((conv => whnf); first
    | refine Br.tt ?_ | refine Br.ff ?_ | refine Need.w ?_ | refine Wr.w ?_ | refine Cmp.t ?_ | refine Cmp.f ?_ | refine Rem.w ?_ | refine Quo.w ?_ | refine PickV.now rfl ?_ | refine Pick.now rfl ?_ | refine Chk.mk rfl ?_ | refine PickW.w rfl ?_
      | (apply CallI.of; assumption)
      | (refine Ret.mk rfl))
  · subst e
    rw [dcC_same]
    obtain ⟨n, rfl⟩ : ∃ n : Nat, i = n := ⟨i.toNat, by omega⟩
    by_cases hn : n < p.cl.length
    · have l2 := (hs.2 _ (List.getElem_mem hn)).2
      have hkk := hk _ (List.getElem_mem hn)
      rw [keyC_in hn]
      generalize hR : dcF (factV a) (factV b) p.cl[n].ky = R
      repeat' ((conv => whnf); first
      | refine Br.tt ?_ | refine Br.ff ?_ | refine Need.w ?_ | refine Wr.w ?_ | refine Cmp.t ?_ | refine Cmp.f ?_ | refine Rem.w ?_ | refine Quo.w ?_ | refine PickV.now rfl ?_ | refine Pick.now rfl ?_ | refine Chk.mk rfl ?_ | refine PickW.w rfl ?_
        | (apply CallI.of; assumption)
        | (refine Pick.rec Cls.cells_length n rfl hn rfl ?_))
      refine LoopW.to (LoopW.upP g (fun k => [(4, .ptr ⟨0, 4, 0⟩ 0 0), (5, .ptr ⟨0, 5, 0⟩ 0 0), (10, LK p.cl[n].ky), (11, I k)]) (fun _ => _) (fun k => dcF (factV a) (factV b) (p.cl[n].ky.drop k) = R) p.cl[n].ky.length (fun k hk h0 ih => ?_) 0 (Nat.zero_le _) hR) rfl rfl
      by_cases hlt : k < p.cl[n].ky.length
      · rw [List.drop_eq_getElem_cons hlt, dcF] at h0
        have ih := ih hlt
        have hfc := hkk _ (List.getElem_mem hlt)
        generalize hx : p.cl[n].ky[k] = x at *
        obtain ⟨fa, dn⟩ := x
        have f1 := r_Fact g a fa hfc ha
        have f2 := r_Fact g b fa hfc hb
        dsimp only at h0 f1 f2
        generalize factV a fa = u at *
        generalize factV b fa = v at *
        rcases Int.lt_trichotomy u v with e | e | e
        · rw [if_neg (by omega), decide_eq_true e] at h0
          rw [← h0]
          cases dn
          all_goals repeat' ((conv => whnf); first
          | refine Br.tt ?_ | refine Br.ff ?_ | refine Need.w ?_ | refine Wr.w ?_ | refine Cmp.t ?_ | refine Cmp.f ?_ | refine Rem.w ?_ | refine Quo.w ?_ | refine PickV.now rfl ?_ | refine Pick.now rfl ?_ | refine Chk.mk rfl ?_ | refine PickW.w rfl ?_
            | (refine Pick.rec Kyt.cells_length k rfl hlt (by rw [hx]; rfl) ?_)
            | (apply CallI.of; assumption)
            | (refine Ret.mk rfl))
        · rw [if_pos e] at h0
          have ih := ih h0
          repeat' ((conv => whnf); first
          | refine Br.tt ?_ | refine Br.ff ?_ | refine Need.w ?_ | refine Wr.w ?_ | refine Cmp.t ?_ | refine Cmp.f ?_ | refine Rem.w ?_ | refine Quo.w ?_ | refine PickV.now rfl ?_ | refine Pick.now rfl ?_ | refine Chk.mk rfl ?_ | refine PickW.w rfl ?_
            | (refine Pick.rec Kyt.cells_length k rfl hlt (by rw [hx]; rfl) ?_)
            | (apply CallI.of; assumption)
            | (refine LoopW.to ih rfl rfl))
        · rw [if_neg (by omega), decide_eq_false (by omega)] at h0
          rw [← h0]
          cases dn
          all_goals repeat' ((conv => whnf); first
          | refine Br.tt ?_ | refine Br.ff ?_ | refine Need.w ?_ | refine Wr.w ?_ | refine Cmp.t ?_ | refine Cmp.f ?_ | refine Rem.w ?_ | refine Quo.w ?_ | refine PickV.now rfl ?_ | refine Pick.now rfl ?_ | refine Chk.mk rfl ?_ | refine PickW.w rfl ?_
            | (refine Pick.rec Kyt.cells_length k rfl hlt (by rw [hx]; rfl) ?_)
            | (apply CallI.of; assumption)
            | (refine Ret.mk rfl))
      · rw [List.drop_eq_nil_of_le (by omega), dcF] at h0
        rw [← h0]
        repeat' ((conv => whnf); first
        | refine Br.tt ?_ | refine Br.ff ?_ | refine Need.w ?_ | refine Wr.w ?_ | refine Cmp.t ?_ | refine Cmp.f ?_ | refine Rem.w ?_ | refine Quo.w ?_ | refine PickV.now rfl ?_ | refine Pick.now rfl ?_ | refine Chk.mk rfl ?_ | refine PickW.w rfl ?_
          | (refine Ret.mk rfl))
    · have hn' : n = p.cl.length := by omega
      rw [keyC_out (by omega), dcF]
      repeat' ((conv => whnf); first
      | refine Br.tt ?_ | refine Br.ff ?_ | refine Need.w ?_ | refine Wr.w ?_ | refine Cmp.t ?_ | refine Cmp.f ?_ | refine Rem.w ?_ | refine Quo.w ?_ | refine PickV.now rfl ?_ | refine Pick.now rfl ?_ | refine Chk.mk rfl ?_ | refine PickW.w rfl ?_
        | (apply CallI.of; assumption)
        | (refine Ret.mk rfl))
  · rw [dcC_gt _ _ _ e]
    repeat' ((conv => whnf); first
    | refine Br.tt ?_ | refine Br.ff ?_ | refine Need.w ?_ | refine Wr.w ?_ | refine Cmp.t ?_ | refine Cmp.f ?_ | refine Rem.w ?_ | refine Quo.w ?_ | refine PickV.now rfl ?_ | refine Pick.now rfl ?_ | refine Chk.mk rfl ?_ | refine PickW.w rfl ?_
      | (apply CallI.of; assumption)
      | (refine Ret.mk rfl))
end
end Go.Proofs.YtcephlgejkngiaaGreatDoor.Co
