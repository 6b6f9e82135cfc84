
/-
  Priority: the class of a claim, by the program and by the reference.
-/
import Derived.Test.YtcephlgejkngiaaGreatDoorPcPri
namespace Go.Proofs.YtcephlgejkngiaaGreatDoor.Co
open Go Go.Evl
set_option maxRecDepth 100000
def clsG (c : Clm) : Nat → List Cls → Int
  | i, [] => i
  | i, x :: r => if x.wh.all (holdB c) = true then i else clsG c (i + 1) r
def OkWh (p : Prg) : Prop := ∀ x ∈ p.cl, ∀ t ∈ x.wh, chkTs t = 0
theorem chkTsG_zero : ∀ {l : List Tst}, chkTsG l = 0 → ∀ t ∈ l, chkTs t = 0
  | [], _, t, ht => by cases ht
  | x :: r, h, t, ht => by
    rw [chkTsG] at h
    by_cases hz : chkTs x = 0
    · rw [if_pos hz] at h
      rcases List.mem_cons.1 ht with rfl | ht
      · exact hz
      · exact chkTsG_zero h t ht
    · rw [if_neg hz] at h
      exact absurd h hz
theorem chkKyG_zero : ∀ {l : List Kyt} {seen : List (List UInt8)}, chkKyG seen l = 0 → ∀ k ∈ l, k.fa ∈ fcL
  | [], _, _, k, hk => by cases hk
  | x :: r, seen, h, k, hk => by
    rw [chkKyG] at h
    by_cases hz : chkKy seen x = 0
    · rw [if_pos hz] at h
      rcases List.mem_cons.1 hk with rfl | hk
      · unfold chkKy at hz
        rw [firstI_zero] at hz
        refine Classical.byContradiction fun hn => ?_
        have := hz _ (List.mem_cons_self ..)
        rw [if_neg hn] at this
        cases this
      · exact chkKyG_zero h k hk
    · rw [if_neg hz] at h
      exact absurd h hz
structure OkCls (c : Cls) : Prop where
  nm : isNameB c.nm = true
  wh : c.wh.length ≤ 8
  ky : c.ky.length ≤ 8
  ts : ∀ t ∈ c.wh, chkTs t = 0
  ks : ∀ k ∈ c.ky, k.fa ∈ fcL
theorem chkCs_zero {c : Cls} (h : chkCs c = 0) : OkCls c := by
  unfold chkCs at h
  rw [firstI_zero] at h
  have h1 := h (nmE c.nm) (by simp)
  have h2 := h (if 8 < c.wh.length then 5 else 0) (by simp)
  have h3 := h (chkTsG c.wh) (by simp)
  have h4 := h (if 8 < c.ky.length then 5 else 0) (by simp)
  have h5 := h (chkKyG [] c.ky) (by simp)
  refine ⟨?_, ?_, ?_, chkTsG_zero h3, chkKyG_zero h5⟩
  · unfold nmE at h1
    cases hb : isNameB c.nm with
    | true => rfl
    | false => rw [hb] at h1; cases h1
  · refine Classical.byContradiction fun hn => ?_
    rw [if_pos (by omega)] at h2
    cases h2
  · refine Classical.byContradiction fun hn => ?_
    rw [if_pos (by omega)] at h4
    cases h4
theorem chkCsG_zero : ∀ {l : List Cls} {seen : List (List UInt8)}, chkCsG seen l = 0 → ∀ c ∈ l, OkCls c
  | [], _, _, c, hc => by cases hc
  | x :: r, seen, h, c, hc => by
    rw [chkCsG] at h
    by_cases hz : chkCa seen x = 0
    · rw [if_pos hz] at h
      rcases List.mem_cons.1 hc with rfl | hc
      · unfold chkCa at hz
        rw [firstI_zero] at hz
        exact chkCs_zero (hz _ (List.mem_cons_self ..))
      · exact chkCsG_zero h c hc
    · rw [if_neg hz] at h
      exact absurd h hz
structure OkPrg (p : Prg) : Prop where
  one : 0 < p.cl.length
  many : p.cl.length ≤ 16
  cs : ∀ c ∈ p.cl, OkCls c
  po : 0 ≤ p.po ∧ p.po ≤ p.cl.length
  of' : 1 ≤ p.of ∧ p.of ≤ 100
  fo : 0 ≤ p.fo ∧ p.fo ≤ p.of
theorem chkPg_zero {p : Prg} (h : chkPg p = 0) : OkPrg p := by
  unfold chkPg at h
  rw [firstI_zero] at h
  have h1 := h (if p.cl.length = 0 then 12 else 0) (by simp)
  have h2 := h (if 16 < p.cl.length then 5 else 0) (by simp)
  have h3 := h (chkCsG [] p.cl) (by simp)
  have h4 := h (chkPool p) (by simp)
  unfold chkPool at h4
  rw [firstI_zero] at h4
  refine ⟨?_, ?_, chkCsG_zero h3, rng_zero.1 (h4 _ (by simp)), rng_zero.1 (h4 _ (by simp)), rng_zero.1 (h4 _ (by simp))⟩
  · refine Classical.byContradiction fun hn => ?_
    rw [if_pos (by omega)] at h1
    cases h1
  · refine Classical.byContradiction fun hn => ?_
    rw [if_pos (by omega)] at h2
    cases h2
theorem OkPrg.okWh {p : Prg} (h : OkPrg p) : OkWh p := fun x hx => (h.cs x hx).ts
theorem OkPrg.small {p : Prg} (h : OkPrg p) : SmallP p := ⟨by have := h.many; omega, fun c hc => ⟨by have := (h.cs c hc).wh; omega, by have := (h.cs c hc).ky; omega⟩⟩
section
variable {E : Oracle} (g : Good E)
include g
set_option maxHeartbeats 8000000 in
theorem s_classOf (p : Prg) (c : Clm) (hs : SmallP p) (hc : chkCl c = 0) (hp : OkWh p) : Fc E n_priority_Program_classOf [Pgv p, Clv c] (I (clsG c 0 p.cl)) := by
  refine g.fn code_priority_Program_classOf rfl ?_
  obtain ⟨l1, l2⟩ := hs
  generalize hR : clsG c 0 p.cl = R
  repeat' ((conv => whnf); first
  | refine Br.tt ?_ | refine Br.ff ?_ | refine Need.w ?_ | refine Wr.w ?_ | refine Cmp.t ?_ | refine Cmp.f ?_ | refine Rem.w ?_ | refine Quo.w ?_ | refine PickV.now rfl ?_ | refine Pick.now rfl ?_ | refine Chk.mk rfl ?_ | refine PickW.w rfl ?_)
  refine LoopW.to (LoopW.upP g (fun k => [(2, .ptr ⟨0, 2, 0⟩ 0 0), (3, .ptr ⟨0, 3, 0⟩ 0 0), (10, LC p.cl), (11, I p.cl.length), (12, I k)]) (fun _ => _) (fun k => clsG c k (p.cl.drop k) = R) p.cl.length (fun k hk h0 ih => ?_) 0 (Nat.zero_le _) hR) rfl rfl
  by_cases hlt : k < p.cl.length
  · rw [List.drop_eq_getElem_cons hlt, clsG] at h0
    have ih := ih hlt
    have hx := hp _ (List.getElem_mem hlt)
    have l3 := (l2 _ (List.getElem_mem hlt)).1
    generalize hA : p.cl[k].wh.all (holdB c) = A at h0
    repeat' ((conv => whnf); first
    | refine Br.tt ?_ | refine Br.ff ?_ | refine Need.w ?_ | refine Wr.w ?_ | refine Cmp.t ?_ | refine Cmp.f ?_ | refine Rem.w ?_ | refine Quo.w ?_ | refine PickV.now rfl ?_ | refine Pick.now rfl ?_ | refine Chk.mk rfl ?_ | refine PickW.w rfl ?_
      | (refine PickW.rec Cls.cells_length k rfl hlt ?_))
    refine LoopW.to (LoopW.upP g (fun j => [(2, .ptr ⟨0, 2, 0⟩ 0 0), (3, .ptr ⟨0, 3, 0⟩ 0 0), (5, I k), (10, LC p.cl), (11, I p.cl.length), (12, I k), (18, LT p.cl[k].wh), (19, I p.cl[k].wh.length), (20, I j)]) (fun _ => _) (fun j => (p.cl[k].wh.drop j).all (holdB c) = A) p.cl[k].wh.length (fun j hj h1 jh => ?_) 0 (Nat.zero_le _) hA) rfl rfl
    by_cases hjl : j < p.cl[k].wh.length
    · rw [List.drop_eq_getElem_cons hjl, List.all_cons] at h1
      have jh := jh hjl
      have hh := s_holds g c _ hc (hx _ (List.getElem_mem hjl))
      generalize holdB c p.cl[k].wh[j] = b at *
      cases b
      · rw [Bool.false_and] at h1
        rw [← h1, if_neg (by decide)] at h0
        have ih := ih h0
        repeat' ((conv => whnf); first
        | refine Br.tt ?_ | refine Br.ff ?_ | refine Need.w ?_ | refine Wr.w ?_ | refine Cmp.t ?_ | refine Cmp.f ?_ | refine Rem.w ?_ | refine Quo.w ?_ | refine PickV.now rfl ?_ | refine Pick.now rfl ?_ | refine Chk.mk rfl ?_ | refine PickW.w rfl ?_
          | (refine PickW.rec Tst.cells_length j rfl hjl ?_)
          | (refine CallI.of hh ?_)
          | (refine LoopW.to ih rfl rfl))
      · rw [Bool.true_and] at h1
        have jh := jh h1
        repeat' ((conv => whnf); first
        | refine Br.tt ?_ | refine Br.ff ?_ | refine Need.w ?_ | refine Wr.w ?_ | refine Cmp.t ?_ | refine Cmp.f ?_ | refine Rem.w ?_ | refine Quo.w ?_ | refine PickV.now rfl ?_ | refine Pick.now rfl ?_ | refine Chk.mk rfl ?_ | refine PickW.w rfl ?_
          | (refine PickW.rec Tst.cells_length j rfl hjl ?_)
          | (refine CallI.of hh ?_)
          | (refine LoopW.to jh rfl rfl))
    · rw [List.drop_eq_nil_of_le (by omega), List.all_nil] at h1
      rw [← h1, if_pos rfl] at h0
      rw [← h0]
      repeat' ((conv => whnf); first
      | refine Br.tt ?_ | refine Br.ff ?_ | refine Need.w ?_ | refine Wr.w ?_ | refine Cmp.t ?_ | refine Cmp.f ?_ | refine Rem.w ?_ | refine Quo.w ?_ | refine PickV.now rfl ?_ | refine Pick.now rfl ?_ | refine Chk.mk rfl ?_ | refine PickW.w rfl ?_
        | (refine Ret.mk rfl))
  · rw [List.drop_eq_nil_of_le (by omega), clsG] at h0
    have e : k = p.cl.length := by omega
    subst e
    rw [← h0]
    repeat' ((conv => whnf); first
    | refine Br.tt ?_ | refine Br.ff ?_ | refine Need.w ?_ | refine Wr.w ?_ | refine Cmp.t ?_ | refine Cmp.f ?_ | refine Rem.w ?_ | refine Quo.w ?_ | refine PickV.now rfl ?_ | refine Pick.now rfl ?_ | refine Chk.mk rfl ?_ | refine PickW.w rfl ?_
      | (refine Ret.mk rfl))
theorem s_ClassOf (p : Prg) (c : Clm) (hs : SmallP p) (hc : chkCl c = 0) (hq : chkPg p = 0) (hp : OkWh p) : Fc E n_priority_ClassOf [Pgv p, Clv c] (.tup [I (clsG c 0 p.cl), I 0]) := by
  refine g.fn code_priority_ClassOf rfl ?_
  have h1 := s_CheckProgram g p hs
  have h2 := s_CheckClaim g c
  have h3 := s_classOf g p c hs hc hp
  rw [hq] at h1
  rw [hc] at h2
  repeat' ((conv => whnf); first
  | refine Br.tt ?_ | refine Br.ff ?_ | refine Need.w ?_ | refine Wr.w ?_ | refine Cmp.t ?_ | refine Cmp.f ?_ | refine Rem.w ?_ | refine Quo.w ?_ | refine PickV.now rfl ?_ | refine Pick.now rfl ?_ | refine Chk.mk rfl ?_ | refine PickW.w rfl ?_
    | (apply CallI.of; assumption)
    | (refine CallI.of (s_pfirst2 g _ _) ?_)
    | (refine Ret.mk rfl))
theorem s_ClassOf_bad (p : Prg) (c : Clm) (hs : SmallP p) (h : firstI [chkPg p, chkCl c] ≠ 0) : Fc E n_priority_ClassOf [Pgv p, Clv c] (.tup [I 0, I (firstI [chkPg p, chkCl c])]) := by
  refine g.fn code_priority_ClassOf rfl ?_
  have h1 := s_CheckProgram g p hs
  have h2 := s_CheckClaim g c
  have h3 := s_pfirst2 g (chkPg p) (chkCl c)
  generalize firstI [chkPg p, chkCl c] = r at *
  repeat' ((conv => whnf); first
  | refine Br.tt ?_ | refine Br.ff ?_ | refine Need.w ?_ | refine Wr.w ?_ | refine Cmp.t ?_ | refine Cmp.f ?_ | refine Rem.w ?_ | refine Quo.w ?_ | refine PickV.now rfl ?_ | refine Pick.now rfl ?_ | refine Chk.mk rfl ?_ | refine PickW.w rfl ?_
    | (apply CallI.of; assumption)
    | (refine Cmp.tt h ?_)
    | (refine Ret.mk rfl))
set_option maxHeartbeats 8000000 in
theorem r_ClassOf (p : Prg) (c : Clm) (hs : SmallP p) (hc : chkCl c = 0) (hp : OkWh p) : Fc E n_ref05_ClassOf [Pgv p, Clv c] (I (clsG c 0 p.cl)) := by
  refine g.fn code_ref05_ClassOf rfl ?_
  obtain ⟨l1, l2⟩ := hs
  generalize hR : clsG c 0 p.cl = R
  repeat' ((conv => whnf); first
  | refine Br.tt ?_ | refine Br.ff ?_ | refine Need.w ?_ | refine Wr.w ?_ | refine Cmp.t ?_ | refine Cmp.f ?_ | refine Rem.w ?_ | refine Quo.w ?_ | refine PickV.now rfl ?_ | refine Pick.now rfl ?_ | refine Chk.mk rfl ?_ | refine PickW.w rfl ?_)
  refine LoopW.to (LoopW.upP g (fun k => [(2, .ptr ⟨0, 2, 0⟩ 0 0), (3, .ptr ⟨0, 3, 0⟩ 0 0), (5, I k)]) (fun _ => _) (fun k => clsG c k (p.cl.drop k) = R) p.cl.length (fun k hk h0 ih => ?_) 0 (Nat.zero_le _) hR) rfl rfl
  by_cases hlt : k < p.cl.length
  · rw [List.drop_eq_getElem_cons hlt, clsG] at h0
    have ih := ih hlt
    have hx := hp _ (List.getElem_mem hlt)
    have l3 := (l2 _ (List.getElem_mem hlt)).1
    repeat' ((conv => whnf); first
    | refine Br.tt ?_ | refine Br.ff ?_ | refine Need.w ?_ | refine Wr.w ?_ | refine Cmp.t ?_ | refine Cmp.f ?_ | refine Rem.w ?_ | refine Quo.w ?_ | refine PickV.now rfl ?_ | refine Pick.now rfl ?_ | refine Chk.mk rfl ?_ | refine PickW.w rfl ?_)
    refine LoopW.to (LoopW.up g (fun j => [(2, .ptr ⟨0, 2, 0⟩ 0 0), (3, .ptr ⟨0, 3, 0⟩ 0 0), (5, I k), (6, B ((p.cl[k].wh.take j).all (holdB c))), (7, I j)]) (fun _ => _) p.cl[k].wh.length (fun j hj jh => ?_) 0 (Nat.zero_le _)) rfl rfl
    by_cases hjl : j < p.cl[k].wh.length
    · have e : (p.cl[k].wh.take (j + 1)).all (holdB c) = ((p.cl[k].wh.take j).all (holdB c) && holdB c p.cl[k].wh[j]) := by
        rw [List.take_add_one, List.getElem?_eq_getElem hjl, List.all_append]
        simp
      have jh := jh hjl
      rw [e] at jh
      have hh := r_Holds g c _ hc (hx _ (List.getElem_mem hjl))
      generalize (p.cl[k].wh.take j).all (holdB c) = a at *
      generalize holdB c p.cl[k].wh[j] = b at *
      cases a
      · rw [Bool.false_and] at jh
        repeat' ((conv => whnf); first
        | refine Br.tt ?_ | refine Br.ff ?_ | refine Need.w ?_ | refine Wr.w ?_ | refine Cmp.t ?_ | refine Cmp.f ?_ | refine Rem.w ?_ | refine Quo.w ?_ | refine PickV.now rfl ?_ | refine Pick.now rfl ?_ | refine Chk.mk rfl ?_ | refine PickW.w rfl ?_
          | (refine Pick.rec Cls.cells_length k rfl hlt rfl ?_)
          | (refine LoopW.to jh rfl rfl))
      · rw [Bool.true_and] at jh
        repeat' ((conv => whnf); first
        | refine Br.tt ?_ | refine Br.ff ?_ | refine Need.w ?_ | refine Wr.w ?_ | refine Cmp.t ?_ | refine Cmp.f ?_ | refine Rem.w ?_ | refine Quo.w ?_ | refine PickV.now rfl ?_ | refine Pick.now rfl ?_ | refine Chk.mk rfl ?_ | refine PickW.w rfl ?_
          | (refine Pick.rec Cls.cells_length k rfl hlt rfl ?_)
          | (refine PickW.rec Tst.cells_length j rfl hjl ?_)
          | (refine CallI.of hh ?_)
          | (refine LoopW.to jh rfl rfl))
    · have e : p.cl[k].wh.take j = p.cl[k].wh := List.take_of_length_le (by omega)
      rw [e]
      generalize p.cl[k].wh.all (holdB c) = a at *
      cases a
      · rw [if_neg (by decide)] at h0
        have ih := ih h0
        repeat' ((conv => whnf); first
        | refine Br.tt ?_ | refine Br.ff ?_ | refine Need.w ?_ | refine Wr.w ?_ | refine Cmp.t ?_ | refine Cmp.f ?_ | refine Rem.w ?_ | refine Quo.w ?_ | refine PickV.now rfl ?_ | refine Pick.now rfl ?_ | refine Chk.mk rfl ?_ | refine PickW.w rfl ?_
          | (refine Pick.rec Cls.cells_length k rfl hlt rfl ?_)
          | (refine LoopW.to ih rfl rfl))
      · rw [if_pos rfl] at h0
        rw [← h0]
        repeat' ((conv => whnf); first
        | refine Br.tt ?_ | refine Br.ff ?_ | refine Need.w ?_ | refine Wr.w ?_ | refine Cmp.t ?_ | refine Cmp.f ?_ | refine Rem.w ?_ | refine Quo.w ?_ | refine PickV.now rfl ?_ | refine Pick.now rfl ?_ | refine Chk.mk rfl ?_ | refine PickW.w rfl ?_
          | (refine Pick.rec Cls.cells_length k rfl hlt rfl ?_)
          | (refine Ret.mk rfl))
  · rw [List.drop_eq_nil_of_le (by omega), clsG] at h0
    have e : k = p.cl.length := by omega
    subst e
    rw [← h0]
    repeat' ((conv => whnf); first
    | refine Br.tt ?_ | refine Br.ff ?_ | refine Need.w ?_ | refine Wr.w ?_ | refine Cmp.t ?_ | refine Cmp.f ?_ | refine Rem.w ?_ | refine Quo.w ?_ | refine PickV.now rfl ?_ | refine Pick.now rfl ?_ | refine Chk.mk rfl ?_ | refine PickW.w rfl ?_
      | (refine Ret.mk rfl))
end
end Go.Proofs.YtcephlgejkngiaaGreatDoor.Co
