
/-
  Priority: claims and their facts.
-/
import Derived.Test.YtcephlgejkngiaaGreatDoorMsReq
import Derived.Test.YtcephlgejkngiaaGreatDoorMsWord
import Derived.Test.YtcephlgejkngiaaGreatDoorSpPes
namespace Go.Proofs.YtcephlgejkngiaaGreatDoor.Co
open Go Go.Evl
structure Clm where
  rq : Rqt
  (hi re ne ye : Bool)
  di : Int
def Clm.cells (c : Clm) : List D := [.str c.rq.nm, .str c.rq.ca, .str c.rq.ki, .str c.rq.te, .str c.rq.pa, .str c.rq.li, DI c.rq.fr, DI c.rq.to, DI c.rq.da, DI c.rq.mi, DI c.rq.se, DI c.rq.si, DI c.rq.no, .bool c.hi, .bool c.re, .bool c.ne, .bool c.ye, DI c.di]
theorem Clm.cells_length (c : Clm) : c.cells.length = 18 := rfl
abbrev Clv (c : Clm) : V := .d (.agg c.cells)
def chkCl (c : Clm) : Int := firstI [chkRq c.rq, rng c.di 0 20000]
theorem chkCl_zero {c : Clm} : chkCl c = 0 ↔ chkRq c.rq = 0 ∧ 0 ≤ c.di ∧ c.di ≤ 20000 := by
  unfold chkCl
  rw [firstI_zero, ← rng_zero]
  simp
theorem chkCl_per {c : Clm} (h : chkCl c = 0) : chkPer c.rq.fr c.rq.to c.rq.da = 0 := by
  have h := (chkCl_zero.1 h).1
  unfold chkRq at h
  rw [firstI_zero] at h
  exact h _ (by simp)
abbrev fcL : List (List UInt8) := [[104, 105, 115, 116, 111, 114, 105, 99], [114, 101, 116, 105, 109, 101, 100], [110, 101, 119, 99, 111, 109, 101, 114], [121, 101, 97, 114, 114, 111, 117, 110, 100], [100, 97, 121, 115], [115, 101, 97, 116, 115], [115, 105, 122, 101], [110, 111, 105, 115, 101], [100, 105, 115, 116, 97, 110, 99, 101], [109, 105, 110, 117, 116, 101]]
def bitI (b : Bool) : Int := if b then 1 else 0
def factV (c : Clm) (s : List UInt8) : Int :=
  if s = [104, 105, 115, 116, 111, 114, 105, 99] then bitI c.hi else if s = [114, 101, 116, 105, 109, 101, 100] then bitI c.re else if s = [110, 101, 119, 99, 111, 109, 101, 114] then bitI c.ne
  else if s = [121, 101, 97, 114, 114, 111, 117, 110, 100] then bitI c.ye else if s = [100, 97, 121, 115] then ((daysP c.rq.fr c.rq.da (c.rq.to - c.rq.fr + 1).toNat).length : Int)
  else if s = [115, 101, 97, 116, 115] then c.rq.se else if s = [115, 105, 122, 101] then c.rq.si else if s = [110, 111, 105, 115, 101] then c.rq.no else if s = [100, 105, 115, 116, 97, 110, 99, 101] then c.di else c.rq.mi
abbrev fcE (s : List UInt8) (n : Nat) : D × V := (.str s, .d (.agg [.str s, .fn n]))
abbrev facM : List (D × V) := [fcE [104, 105, 115, 116, 111, 114, 105, 99] n_priority_facts_1, fcE [114, 101, 116, 105, 109, 101, 100] n_priority_facts_2, fcE [110, 101, 119, 99, 111, 109, 101, 114] n_priority_facts_3, fcE [121, 101, 97, 114, 114, 111, 117, 110, 100] n_priority_facts_4, fcE [100, 97, 121, 115] n_priority_facts_5, fcE [115, 101, 97, 116, 115] n_priority_facts_6, fcE [115, 105, 122, 101] n_priority_facts_7, fcE [110, 111, 105, 115, 101] n_priority_facts_8, fcE [100, 105, 115, 116, 97, 110, 99, 101] n_priority_facts_9, fcE [109, 105, 110, 117, 116, 101] n_priority_facts_10]
theorem fact_none {s : List UInt8} (h : s ∉ fcL) : findE (.str s) facM = some none := by
  simp only [fcL, List.mem_cons, List.not_mem_nil, or_false, not_or] at h
  have e : ∀ t, s ≠ t → (s == t) = false := fun t h => beq_eq_false_iff_ne.2 h
  obtain ⟨h1, h2, h3, h4, h5, h6, h7, h8, h9, h10⟩ := h
  simp only [findE, eqD, e _ h1, e _ h2, e _ h3, e _ h4, e _ h5, e _ h6, e _ h7, e _ h8, e _ h9, e _ h10]
section
variable {E : Oracle} (g : Good E)
include g
set_option maxRecDepth 100000
theorem s_pfirst (l : List Int) (hl : l.length ≤ 140737488355328) : Fc E n_priority_first [LI l] (I (firstI l)) := by
  refine g.fn code_priority_first rfl ?_
  conv => whnf
  refine LoopW.upP g (fun k => [(5, LI l), (6, I l.length), (7, I k)]) (fun _ => []) (fun k => firstI l = firstI (l.drop k)) l.length (fun k hk hp ih => ?_) 0 (Nat.zero_le _) (by simp)
  by_cases hlt : k < l.length
  · have hd := firstI_drop l k hlt
    repeat' ((conv => whnf); first
    | refine Br.tt ?_ | refine Br.ff ?_ | refine Need.w ?_ | refine Wr.w ?_ | refine Cmp.t ?_ | refine Cmp.f ?_ | refine Rem.w ?_ | refine Quo.w ?_ | refine PickV.now rfl ?_ | refine Pick.now rfl ?_ | refine Chk.mk rfl ?_ | refine PickW.w rfl ?_
      | (refine Pick.int (by omega) ?_)
      | (refine Cmp.mk (fun h => ?_) (fun h => ?_)) | (refine Rem.any (by omega) (fun r hr he => ?_)) | (refine Br.mk (fun h => ?_) (fun h => ?_))
      | (refine LoopW.to (ih hlt ?_) ?_ rfl)
      | (refine Ret.mk ?_))
    all_goals simp_all
  · have : l.drop k = [] := List.drop_eq_nil_of_le (by omega)
    repeat' ((conv => whnf); first
    | refine Br.tt ?_ | refine Br.ff ?_ | refine Need.w ?_ | refine Wr.w ?_ | refine Cmp.t ?_ | refine Cmp.f ?_ | refine Rem.w ?_ | refine Quo.w ?_ | refine PickV.now rfl ?_ | refine Pick.now rfl ?_ | refine Chk.mk rfl ?_ | refine PickW.w rfl ?_
      | (refine Ret.mk ?_))
    simp [hp, this, firstI]
theorem s_pfirst2 (a b : Int) : Fc E n_priority_first [.d (.list 2 [DI a, DI b])] (I (firstI [a, b])) := s_pfirst g [a, b] (by simp)
theorem s_pfirst3 (a b c : Int) : Fc E n_priority_first [.d (.list 3 [DI a, DI b, DI c])] (I (firstI [a, b, c])) := s_pfirst g [a, b, c] (by simp)
theorem s_pwhen (b : Bool) (e : Int) : Fc E n_priority_when [B b, I e] (I (if b = true then e else 0)) := by
  refine g.fn code_priority_when rfl ?_
  cases b
  all_goals repeat' ((conv => whnf); first
  | refine Br.tt ?_ | refine Br.ff ?_ | refine Need.w ?_ | refine Wr.w ?_ | refine Cmp.t ?_ | refine Cmp.f ?_ | refine Rem.w ?_ | refine Quo.w ?_ | refine PickV.now rfl ?_ | refine Pick.now rfl ?_ | refine Chk.mk rfl ?_ | refine PickW.w rfl ?_
    | (refine Ret.mk rfl))
theorem s_pwithin (n a b : Int) : Fc E n_priority_within [I n, I a, I b] (I (rng n a b)) := by
  refine g.fn code_priority_within rfl ?_
  have hw := s_pwhen g
  unfold rng
  by_cases h1 : n < a
  · rw [if_pos (.inl h1)]
    repeat' ((conv => whnf); first
    | refine Br.tt ?_ | refine Br.ff ?_ | refine Need.w ?_ | refine Wr.w ?_ | refine Cmp.t ?_ | refine Cmp.f ?_ | refine Rem.w ?_ | refine Quo.w ?_ | refine PickV.now rfl ?_ | refine Pick.now rfl ?_ | refine Chk.mk rfl ?_ | refine PickW.w rfl ?_
      | (refine CallI.of (hw _ _) ?_)
      | (refine Ret.mk rfl))
  · by_cases h2 : b < n
    · rw [if_pos (.inr h2)]
      repeat' ((conv => whnf); first
      | refine Br.tt ?_ | refine Br.ff ?_ | refine Need.w ?_ | refine Wr.w ?_ | refine Cmp.t ?_ | refine Cmp.f ?_ | refine Rem.w ?_ | refine Quo.w ?_ | refine PickV.now rfl ?_ | refine Pick.now rfl ?_ | refine Chk.mk rfl ?_ | refine PickW.w rfl ?_
        | (refine CallI.of (hw _ _) ?_)
        | (refine Ret.mk rfl))
    · rw [if_neg (by omega)]
      repeat' ((conv => whnf); first
      | refine Br.tt ?_ | refine Br.ff ?_ | refine Need.w ?_ | refine Wr.w ?_ | refine Cmp.t ?_ | refine Cmp.f ?_ | refine Rem.w ?_ | refine Quo.w ?_ | refine PickV.now rfl ?_ | refine Pick.now rfl ?_ | refine Chk.mk rfl ?_ | refine PickW.w rfl ?_
        | (refine CallI.of (hw _ _) ?_)
        | (refine Ret.mk rfl))
theorem s_pbit (b : Bool) : Fc E n_priority_bit [B b] (I (bitI b)) := by
  refine g.fn code_priority_bit rfl ?_
  cases b
  all_goals repeat' ((conv => whnf); first
  | refine Br.tt ?_ | refine Br.ff ?_ | refine Need.w ?_ | refine Wr.w ?_ | refine Cmp.t ?_ | refine Cmp.f ?_ | refine Rem.w ?_ | refine Quo.w ?_ | refine PickV.now rfl ?_ | refine Pick.now rfl ?_ | refine Chk.mk rfl ?_ | refine PickW.w rfl ?_
    | (refine Ret.mk rfl))
theorem r_pbit (b : Bool) : Fc E n_ref05_bit [B b] (I (bitI b)) := by
  refine g.fn code_ref05_bit rfl ?_
  cases b
  all_goals repeat' ((conv => whnf); first
  | refine Br.tt ?_ | refine Br.ff ?_ | refine Need.w ?_ | refine Wr.w ?_ | refine Cmp.t ?_ | refine Cmp.f ?_ | refine Rem.w ?_ | refine Quo.w ?_ | refine PickV.now rfl ?_ | refine Pick.now rfl ?_ | refine Chk.mk rfl ?_ | refine PickW.w rfl ?_
    | (refine Ret.mk rfl))
theorem s_CheckClaim (c : Clm) : Fc E n_priority_CheckClaim [Clv c] (I (chkCl c)) := by
  refine g.fn code_priority_CheckClaim rfl ?_
  have h1 := s_CheckRequest g c.rq
  have h2 := s_pwithin g c.di 0 20000
  repeat' ((conv => whnf); first
  | refine Br.tt ?_ | refine Br.ff ?_ | refine Need.w ?_ | refine Wr.w ?_ | refine Cmp.t ?_ | refine Cmp.f ?_ | refine Rem.w ?_ | refine Quo.w ?_ | refine PickV.now rfl ?_ | refine Pick.now rfl ?_ | refine Chk.mk rfl ?_ | refine PickW.w rfl ?_
    | (apply CallI.of; assumption)
    | (refine CallI.of (s_pfirst2 g _ _) ?_)
    | (refine Ret.mk rfl))
theorem r_CheckClaim (c : Clm) : Fc E n_ref05_CheckClaim [Clv c] (I (chkCl c)) := by
  refine g.fn code_ref05_CheckClaim rfl ?_
  have h1 := r_CheckRequest g c.rq
  have h2 := r_CheckRange g c.di 0 20000
  repeat' ((conv => whnf); first
  | refine Br.tt ?_ | refine Br.ff ?_ | refine Need.w ?_ | refine Wr.w ?_ | refine Cmp.t ?_ | refine Cmp.f ?_ | refine Rem.w ?_ | refine Quo.w ?_ | refine PickV.now rfl ?_ | refine Pick.now rfl ?_ | refine Chk.mk rfl ?_ | refine PickW.w rfl ?_
    | (apply CallI.of; assumption)
    | (refine CallI.of (r_First2 g _ _) ?_)
    | (refine Ret.mk rfl))
theorem s_Facts : Fc E n_priority_Facts [] (.d (.list 10 (fcL.map D.str))) := g.compR 100 (by decide +kernel)
theorem r_Facts : Fc E n_ref05_Facts [] (.d (.list 10 (fcL.map D.str))) := g.compR 100 (by decide +kernel)
theorem r_SameFacts : Fc E n_ref01_SameWords [.d (.list 10 (fcL.map D.str)), .d (.list 10 (fcL.map D.str))] (B true) := g.compR 200 (by decide +kernel)
theorem r_HasFact (s : List UInt8) : Fc E n_ref01_HasWord [.d (.list 10 (fcL.map D.str)), S s] (B (decide (s ∈ fcL))) := r_HasWord g fcL s (by decide)
theorem s_known : E (.call 0 n_priority_known [] []) = some (.val (.mp ⟨0, 4, 0⟩) [(⟨0, 4, 0⟩, .map facM)]) := g.lim.of_iter 100 _ _ (by kernel_rfl)
omit g in
theorem settle_known {cx : Cx} {slot : Nat} {m : Mem} (hf : Go.Evl.freeK cx.lv slot m = 0) : Go.Evl.settle cx slot 0 m [(⟨0, 4, 0⟩, .map facM)] (.mp ⟨0, 4, 0⟩) = some (.mp ⟨cx.lv, slot, 0⟩, m ++ [(⟨cx.lv, slot, 0⟩, .map facM)]) := by
  unfold Go.Evl.settle
  rw [hf]
  rfl
theorem CallS.known {cx : Cx} {slot : Nat} {m : Mem} {K : V → Mem → Prop} (hf : Go.Evl.freeK cx.lv slot m = 0) (h : K (.mp ⟨cx.lv, slot, 0⟩) (m ++ [(⟨cx.lv, slot, 0⟩, .map facM)])) : CallS E n_priority_known [] cx slot m K := ⟨_, _, _, s_known g, settle_known hf, h⟩
theorem s_fact1 (c : Clm) : Fc E n_priority_facts_1 [Clv c] (I (bitI c.hi)) := by
  refine g.fn code_priority_facts_1 rfl ?_
  repeat' ((conv => whnf); first
  | refine Br.tt ?_ | refine Br.ff ?_ | refine Need.w ?_ | refine Wr.w ?_ | refine Cmp.t ?_ | refine Cmp.f ?_ | refine Rem.w ?_ | refine Quo.w ?_ | refine PickV.now rfl ?_ | refine Pick.now rfl ?_ | refine Chk.mk rfl ?_ | refine PickW.w rfl ?_
    | (refine CallI.of (s_pbit g _) ?_)
    | (refine Ret.mk rfl))
theorem s_fact2 (c : Clm) : Fc E n_priority_facts_2 [Clv c] (I (bitI c.re)) := by
  refine g.fn code_priority_facts_2 rfl ?_
  repeat' ((conv => whnf); first
  | refine Br.tt ?_ | refine Br.ff ?_ | refine Need.w ?_ | refine Wr.w ?_ | refine Cmp.t ?_ | refine Cmp.f ?_ | refine Rem.w ?_ | refine Quo.w ?_ | refine PickV.now rfl ?_ | refine Pick.now rfl ?_ | refine Chk.mk rfl ?_ | refine PickW.w rfl ?_
    | (refine CallI.of (s_pbit g _) ?_)
    | (refine Ret.mk rfl))
theorem s_fact3 (c : Clm) : Fc E n_priority_facts_3 [Clv c] (I (bitI c.ne)) := by
  refine g.fn code_priority_facts_3 rfl ?_
  repeat' ((conv => whnf); first
  | refine Br.tt ?_ | refine Br.ff ?_ | refine Need.w ?_ | refine Wr.w ?_ | refine Cmp.t ?_ | refine Cmp.f ?_ | refine Rem.w ?_ | refine Quo.w ?_ | refine PickV.now rfl ?_ | refine Pick.now rfl ?_ | refine Chk.mk rfl ?_ | refine PickW.w rfl ?_
    | (refine CallI.of (s_pbit g _) ?_)
    | (refine Ret.mk rfl))
theorem s_fact4 (c : Clm) : Fc E n_priority_facts_4 [Clv c] (I (bitI c.ye)) := by
  refine g.fn code_priority_facts_4 rfl ?_
  repeat' ((conv => whnf); first
  | refine Br.tt ?_ | refine Br.ff ?_ | refine Need.w ?_ | refine Wr.w ?_ | refine Cmp.t ?_ | refine Cmp.f ?_ | refine Rem.w ?_ | refine Quo.w ?_ | refine PickV.now rfl ?_ | refine Pick.now rfl ?_ | refine Chk.mk rfl ?_ | refine PickW.w rfl ?_
    | (refine CallI.of (s_pbit g _) ?_)
    | (refine Ret.mk rfl))
theorem s_fact5 (c : Clm) (h : chkPer c.rq.fr c.rq.to c.rq.da = 0) : Fc E n_priority_facts_5 [Clv c] (I (daysP c.rq.fr c.rq.da (c.rq.to - c.rq.fr + 1).toNat).length) := by
  refine g.fn code_priority_facts_5 rfl ?_
  have h1 := s_Count g _ _ _ _ _ (s_DaysOf_ok g _ _ _ h)
  repeat' ((conv => whnf); first
  | refine Br.tt ?_ | refine Br.ff ?_ | refine Need.w ?_ | refine Wr.w ?_ | refine Cmp.t ?_ | refine Cmp.f ?_ | refine Rem.w ?_ | refine Quo.w ?_ | refine PickV.now rfl ?_ | refine Pick.now rfl ?_ | refine Chk.mk rfl ?_ | refine PickW.w rfl ?_
    | (apply CallI.of; assumption)
    | (refine Ret.mk rfl))
theorem s_fact6 (c : Clm) : Fc E n_priority_facts_6 [Clv c] (I c.rq.se) := by
  refine g.fn code_priority_facts_6 rfl ?_
  repeat' ((conv => whnf); first
  | refine Br.tt ?_ | refine Br.ff ?_ | refine Need.w ?_ | refine Wr.w ?_ | refine Cmp.t ?_ | refine Cmp.f ?_ | refine Rem.w ?_ | refine Quo.w ?_ | refine PickV.now rfl ?_ | refine Pick.now rfl ?_ | refine Chk.mk rfl ?_ | refine PickW.w rfl ?_
    | (refine Ret.mk rfl))
theorem s_fact7 (c : Clm) : Fc E n_priority_facts_7 [Clv c] (I c.rq.si) := by
  refine g.fn code_priority_facts_7 rfl ?_
  repeat' ((conv => whnf); first
  | refine Br.tt ?_ | refine Br.ff ?_ | refine Need.w ?_ | refine Wr.w ?_ | refine Cmp.t ?_ | refine Cmp.f ?_ | refine Rem.w ?_ | refine Quo.w ?_ | refine PickV.now rfl ?_ | refine Pick.now rfl ?_ | refine Chk.mk rfl ?_ | refine PickW.w rfl ?_
    | (refine Ret.mk rfl))
theorem s_fact8 (c : Clm) : Fc E n_priority_facts_8 [Clv c] (I c.rq.no) := by
  refine g.fn code_priority_facts_8 rfl ?_
  repeat' ((conv => whnf); first
  | refine Br.tt ?_ | refine Br.ff ?_ | refine Need.w ?_ | refine Wr.w ?_ | refine Cmp.t ?_ | refine Cmp.f ?_ | refine Rem.w ?_ | refine Quo.w ?_ | refine PickV.now rfl ?_ | refine Pick.now rfl ?_ | refine Chk.mk rfl ?_ | refine PickW.w rfl ?_
    | (refine Ret.mk rfl))
theorem s_fact9 (c : Clm) : Fc E n_priority_facts_9 [Clv c] (I c.di) := by
  refine g.fn code_priority_facts_9 rfl ?_
  repeat' ((conv => whnf); first
  | refine Br.tt ?_ | refine Br.ff ?_ | refine Need.w ?_ | refine Wr.w ?_ | refine Cmp.t ?_ | refine Cmp.f ?_ | refine Rem.w ?_ | refine Quo.w ?_ | refine PickV.now rfl ?_ | refine Pick.now rfl ?_ | refine Chk.mk rfl ?_ | refine PickW.w rfl ?_
    | (refine Ret.mk rfl))
theorem s_fact10 (c : Clm) : Fc E n_priority_facts_10 [Clv c] (I c.rq.mi) := by
  refine g.fn code_priority_facts_10 rfl ?_
  repeat' ((conv => whnf); first
  | refine Br.tt ?_ | refine Br.ff ?_ | refine Need.w ?_ | refine Wr.w ?_ | refine Cmp.t ?_ | refine Cmp.f ?_ | refine Rem.w ?_ | refine Quo.w ?_ | refine PickV.now rfl ?_ | refine Pick.now rfl ?_ | refine Chk.mk rfl ?_ | refine PickW.w rfl ?_
    | (refine Ret.mk rfl))
set_option maxHeartbeats 4000000 in
theorem s_Fact_in (c : Clm) (s : List UInt8) (h : s ∈ fcL) (hc : chkCl c = 0) : Fc E n_priority_Fact [Clv c, S s] (.tup [I (factV c s), I 0]) := by
  refine g.fn code_priority_Fact rfl ?_
  have h0 := s_CheckClaim g c
  rw [hc] at h0
  have f1 := s_fact1 g c
  have f2 := s_fact2 g c
  have f3 := s_fact3 g c
  have f4 := s_fact4 g c
  have f5 := s_fact5 g c (chkCl_per hc)
  have f6 := s_fact6 g c
  have f7 := s_fact7 g c
  have f8 := s_fact8 g c
  have f9 := s_fact9 g c
  have f10 := s_fact10 g c
  simp only [fcL, List.mem_cons, List.not_mem_nil, or_false] at h
  rcases h with rfl | rfl | rfl | rfl | rfl | rfl | rfl | rfl | rfl | rfl
  all_goals repeat' ((conv => whnf); first
  | refine Br.tt ?_ | refine Br.ff ?_ | refine Need.w ?_ | refine Wr.w ?_ | refine Cmp.t ?_ | refine Cmp.f ?_ | refine Rem.w ?_ | refine Quo.w ?_ | refine PickV.now rfl ?_ | refine Pick.now rfl ?_ | refine Chk.mk rfl ?_ | refine PickW.w rfl ?_
    | (refine CallS.known g rfl ?_)
    | (refine Find.mk ⟨_, rfl, ?_⟩)
    | (apply CallI.of; assumption)
    | (refine CallI.of (s_pwhen g _ _) ?_)
    | (refine CallI.of (s_pfirst2 g _ _) ?_)
    | (refine Ret.mk rfl))
theorem s_Fact_bad (c : Clm) (s : List UInt8) (h : s ∉ fcL ∨ chkCl c ≠ 0) : Fc E n_priority_Fact [Clv c, S s] (.tup [I 0, I (firstI [chkCl c, if s ∈ fcL then 0 else 10])]) := by
  refine g.fn code_priority_Fact rfl ?_
  have h0 := s_CheckClaim g c
  by_cases hs : s ∈ fcL
  · rw [if_pos hs]
    have hc : chkCl c ≠ 0 := by
      rcases h with h | h
      · exact absurd hs h
      · exact h
    have hp := s_pfirst2 g (chkCl c) 0
    have hr : firstI [chkCl c, 0] ≠ 0 := by simp only [firstI]; split <;> simp_all
    generalize firstI [chkCl c, 0] = r at *
    generalize chkCl c = e at *
    simp only [fcL, List.mem_cons, List.not_mem_nil, or_false] at hs
    rcases hs with rfl | rfl | rfl | rfl | rfl | rfl | rfl | rfl | rfl | rfl
    all_goals repeat' ((conv => whnf); first
    | refine Br.tt ?_ | refine Br.ff ?_ | refine Need.w ?_ | refine Wr.w ?_ | refine Cmp.t ?_ | refine Cmp.f ?_ | refine Rem.w ?_ | refine Quo.w ?_ | refine PickV.now rfl ?_ | refine Pick.now rfl ?_ | refine Chk.mk rfl ?_ | refine PickW.w rfl ?_
      | (refine CallS.known g rfl ?_)
      | (refine Find.mk ⟨_, rfl, ?_⟩)
      | (apply CallI.of; assumption)
      | (refine CallI.of (s_pwhen g _ _) ?_)
      | (refine Cmp.tt hr ?_)
      | (refine Ret.mk rfl))
  · have hf := fact_none hs
    rw [if_neg hs]
    have hp := s_pfirst2 g (chkCl c) 10
    have hr : firstI [chkCl c, 10] ≠ 0 := by simp only [firstI]; split <;> simp_all
    generalize firstI [chkCl c, 10] = r at *
    generalize chkCl c = e at *
    repeat' ((conv => whnf); first
    | refine Br.tt ?_ | refine Br.ff ?_ | refine Need.w ?_ | refine Wr.w ?_ | refine Cmp.t ?_ | refine Cmp.f ?_ | refine Rem.w ?_ | refine Quo.w ?_ | refine PickV.now rfl ?_ | refine Pick.now rfl ?_ | refine Chk.mk rfl ?_ | refine PickW.w rfl ?_
      | (refine CallS.known g rfl ?_)
      | (refine Find.mk ⟨_, hf, ?_⟩)
      | (apply CallI.of; assumption)
      | (refine CallI.of (s_pwhen g _ _) ?_)
      | (refine Cmp.tt hr ?_)
      | (refine Ret.mk rfl))
set_option maxHeartbeats 4000000 in
theorem r_Fact (c : Clm) (s : List UInt8) (h : s ∈ fcL) (hc : chkCl c = 0) : Fc E n_ref05_Fact [Clv c, S s] (I (factV c s)) := by
  refine g.fn code_ref05_Fact rfl ?_
  have h1 := r_DaysOf g _ _ _ (chkCl_per hc)
  simp only [fcL, List.mem_cons, List.not_mem_nil, or_false] at h
  rcases h with rfl | rfl | rfl | rfl | rfl | rfl | rfl | rfl | rfl | rfl
  all_goals repeat' ((conv => whnf); first
  | refine Br.tt ?_ | refine Br.ff ?_ | refine Need.w ?_ | refine Wr.w ?_ | refine Cmp.t ?_ | refine Cmp.f ?_ | refine Rem.w ?_ | refine Quo.w ?_ | refine PickV.now rfl ?_ | refine Pick.now rfl ?_ | refine Chk.mk rfl ?_ | refine PickW.w rfl ?_
    | (apply CallI.of; assumption)
    | (refine CallI.of (r_pbit g _) ?_)
    | (refine Ret.mk rfl))
end
end Go.Proofs.YtcephlgejkngiaaGreatDoor.Co
