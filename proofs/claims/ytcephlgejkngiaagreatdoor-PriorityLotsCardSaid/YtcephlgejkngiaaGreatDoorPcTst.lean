
/-
  Priority: conditions.
-/
import Derived.Test.YtcephlgejkngiaaGreatDoorPcFit
namespace Go.Proofs.YtcephlgejkngiaaGreatDoor.Co
open Go Go.Evl
def idxG : List (List UInt8) → List UInt8 → Nat → Int
  | [], _, _ => -1
  | x :: r, s, k => if s = x then k else idxG r s (k + 1)
theorem idxG_mem (s : List UInt8) : ∀ (l : List (List UInt8)) (k : Nat), 0 ≤ idxG l s k ↔ s ∈ l
  | [], k => by simp [idxG]
  | x :: r, k => by
    unfold idxG
    split
    · rename_i h
      simp [h]
    · rename_i h
      rw [idxG_mem s r]
      simp [h]
theorem idxG_drop (l : List (List UInt8)) (s : List UInt8) (k : Nat) (h : k < l.length) : idxG (l.drop k) s k = if s = l[k] then (k : Int) else idxG (l.drop (k + 1)) s (k + 1) := by
  rw [List.drop_eq_getElem_cons h]
  rfl
def opB (s : List UInt8) : Bool := decide (s = [61]) || decide (s = [60]) || decide (s = [62])
def chkTs (t : Tst) : Int := firstI [if t.fa ∈ fcL then 0 else 10, if opB t.op = true then 0 else 13, rng t.va 0 999999999]
def holdV (v : Int) (op : List UInt8) (va : Int) : Bool := if op = [60] then decide (v < va) else if op = [62] then decide (va < v) else decide (v = va)
def holdB (c : Clm) (t : Tst) : Bool := holdV (factV c t.fa) t.op t.va
theorem chkTs_zero {t : Tst} (h : chkTs t = 0) : t.fa ∈ fcL ∧ (t.op = [61] ∨ t.op = [60] ∨ t.op = [62]) := by
  unfold chkTs at h
  rw [firstI_zero] at h
  have h1 := h _ (List.mem_cons_self ..)
  have h2 := h (if opB t.op = true then 0 else 13) (by simp)
  refine ⟨Classical.byContradiction fun hn => ?_, ?_⟩
  · rw [if_neg hn] at h1; cases h1
  · cases ho : opB t.op with
    | false => rw [ho] at h2; cases h2
    | true => simpa [opB, or_assoc] using ho
section
variable {E : Oracle} (g : Good E)
include g
set_option maxRecDepth 100000
theorem s_IndexS (l : List (List UInt8)) (s : List UInt8) (hl : l.length ≤ 140737488355328) : Fc E n_slices_Index_Lstring_string [.d (.list l.length (l.map D.str)), S s] (I (idxG l s 0)) := by
  refine g.fn code_slices_Index_Lstring_string rfl ?_
  conv => whnf
  refine LoopW.upP g (fun k => [(0, .d (.list l.length (l.map D.str))), (1, S s), (7, I l.length), (8, I k)]) (fun _ => []) (fun k => idxG l s 0 = idxG (l.drop k) s k) l.length (fun k hk hp ih => ?_) 0 (Nat.zero_le _) (by simp)
  by_cases hlt : k < l.length
  · have hd := idxG_drop l s k hlt
    have hg : (l.map D.str)[((k : Int)).toNat * 1]? = some (.str l[k]) := by simp [hlt]
    by_cases he : s = l[k]
    · rw [hp, hd, if_pos he]
      repeat' ((conv => whnf); first
      | refine Br.tt ?_ | refine Br.ff ?_ | refine Need.w ?_ | refine Wr.w ?_ | refine Cmp.t ?_ | refine Cmp.f ?_ | refine Rem.w ?_ | refine Quo.w ?_ | refine PickV.now rfl ?_ | refine Pick.now rfl ?_ | refine Chk.mk rfl ?_ | refine PickW.w rfl ?_
        | (refine Pick.now hg ?_)
        | (refine Cmp.tt he ?_)
        | (refine Ret.mk rfl))
    · have ih := ih hlt (by rw [hp, hd, if_neg he])
      repeat' ((conv => whnf); first
      | refine Br.tt ?_ | refine Br.ff ?_ | refine Need.w ?_ | refine Wr.w ?_ | refine Cmp.t ?_ | refine Cmp.f ?_ | refine Rem.w ?_ | refine Quo.w ?_ | refine PickV.now rfl ?_ | refine Pick.now rfl ?_ | refine Chk.mk rfl ?_ | refine PickW.w rfl ?_
        | (refine Pick.now hg ?_)
        | (refine Cmp.ff he ?_)
        | (refine LoopW.to ih rfl rfl))
  · have : l.drop k = [] := List.drop_eq_nil_of_le (by omega)
    rw [hp, this]
    repeat' ((conv => whnf); first
    | refine Br.tt ?_ | refine Br.ff ?_ | refine Need.w ?_ | refine Wr.w ?_ | refine Cmp.t ?_ | refine Cmp.f ?_ | refine Rem.w ?_ | refine Quo.w ?_ | refine PickV.now rfl ?_ | refine Pick.now rfl ?_ | refine Chk.mk rfl ?_ | refine PickW.w rfl ?_
      | (refine Ret.mk rfl))
theorem s_ContainsS (l : List (List UInt8)) (s : List UInt8) (hl : l.length ≤ 140737488355328) : Fc E n_slices_Contains_Lstring_string [.d (.list l.length (l.map D.str)), S s] (B (decide (s ∈ l))) := by
  refine g.fn code_slices_Contains_Lstring_string rfl ?_
  have h := s_IndexS g l s hl
  have hm := idxG_mem s l 0
  generalize idxG l s 0 = r at *
  by_cases hr : 0 ≤ r
  · rw [decide_eq_true (hm.1 hr)]
    repeat' ((conv => whnf); first
    | refine Br.tt ?_ | refine Br.ff ?_ | refine Need.w ?_ | refine Wr.w ?_ | refine Cmp.t ?_ | refine Cmp.f ?_ | refine Rem.w ?_ | refine Quo.w ?_ | refine PickV.now rfl ?_ | refine Pick.now rfl ?_ | refine Chk.mk rfl ?_ | refine PickW.w rfl ?_
      | (apply CallI.of; assumption)
      | (refine Ret.mk rfl))
  · rw [decide_eq_false fun h => hr (hm.2 h)]
    repeat' ((conv => whnf); first
    | refine Br.tt ?_ | refine Br.ff ?_ | refine Need.w ?_ | refine Wr.w ?_ | refine Cmp.t ?_ | refine Cmp.f ?_ | refine Rem.w ?_ | refine Quo.w ?_ | refine PickV.now rfl ?_ | refine Pick.now rfl ?_ | refine Chk.mk rfl ?_ | refine PickW.w rfl ?_
      | (apply CallI.of; assumption)
      | (refine Ret.mk rfl))
theorem s_TestCheck (t : Tst) : Fc E n_priority_Test_check [Tsv t] (I (chkTs t)) := by
  refine g.fn code_priority_Test_check rfl ?_
  have h1 := s_Facts g
  have h2 : Fc E n_slices_Contains_Lstring_string [.d (.list 10 (fcL.map D.str)), S t.fa] (B (decide (t.fa ∈ fcL))) := s_ContainsS g fcL t.fa (by decide)
  have h3 := s_pwithin g t.va 0 999999999
  have h4 : Fc E n_priority_first [.d (.list 3 [DI (if (!decide (t.fa ∈ fcL)) = true then 10 else 0), DI (if (!opB t.op) = true then 13 else 0), DI (rng t.va 0 999999999)])] (I (chkTs t)) := by
    have e : chkTs t = firstI [if (!decide (t.fa ∈ fcL)) = true then 10 else 0, if (!opB t.op) = true then 13 else 0, rng t.va 0 999999999] := by
      unfold chkTs
      cases opB t.op <;> by_cases hf : t.fa ∈ fcL <;> simp [hf]
    rw [e]
    exact s_pfirst3 g _ _ _
  generalize chkTs t = z at *
  generalize rng t.va 0 999999999 = y at *
  generalize decide (t.fa ∈ fcL) = b at *
  by_cases o1 : t.op = [61]
  · have ho : opB t.op = true := by simp [opB, o1]
    rw [ho] at h4
    repeat' ((conv => whnf); first
    | refine Br.tt ?_ | refine Br.ff ?_ | refine Need.w ?_ | refine Wr.w ?_ | refine Cmp.t ?_ | refine Cmp.f ?_ | refine Rem.w ?_ | refine Quo.w ?_ | refine PickV.now rfl ?_ | refine Pick.now rfl ?_ | refine Chk.mk rfl ?_ | refine PickW.w rfl ?_
      | (apply CallI.of; assumption)
      | (refine CallI.of (s_pwhen g _ _) ?_)
      | (refine Cmp.ff (fun h => h o1) ?_)
      | (refine Ret.mk rfl))
  · by_cases o2 : t.op = [60]
    · have ho : opB t.op = true := by simp [opB, o2]
      rw [ho] at h4
      repeat' ((conv => whnf); first
      | refine Br.tt ?_ | refine Br.ff ?_ | refine Need.w ?_ | refine Wr.w ?_ | refine Cmp.t ?_ | refine Cmp.f ?_ | refine Rem.w ?_ | refine Quo.w ?_ | refine PickV.now rfl ?_ | refine Pick.now rfl ?_ | refine Chk.mk rfl ?_ | refine PickW.w rfl ?_
        | (apply CallI.of; assumption)
        | (refine CallI.of (s_pwhen g _ _) ?_)
        | (refine Cmp.tt o1 ?_)
        | (refine Cmp.ff (fun h => h o2) ?_)
        | (refine Ret.mk rfl))
    · by_cases o3 : t.op = [62]
      · have ho : opB t.op = true := by simp [opB, o3]
        rw [ho] at h4
        repeat' ((conv => whnf); first
        | refine Br.tt ?_ | refine Br.ff ?_ | refine Need.w ?_ | refine Wr.w ?_ | refine Cmp.t ?_ | refine Cmp.f ?_ | refine Rem.w ?_ | refine Quo.w ?_ | refine PickV.now rfl ?_ | refine Pick.now rfl ?_ | refine Chk.mk rfl ?_ | refine PickW.w rfl ?_
          | (apply CallI.of; assumption)
          | (refine CallI.of (s_pwhen g _ _) ?_)
          | (refine Cmp.tt o1 ?_)
          | (refine Cmp.tt o2 ?_)
          | (refine Cmp.ff (fun h => h o3) ?_)
          | (refine Ret.mk rfl))
      · have ho : opB t.op = false := by simp [opB, o1, o2, o3]
        rw [ho] at h4
        repeat' ((conv => whnf); first
        | refine Br.tt ?_ | refine Br.ff ?_ | refine Need.w ?_ | refine Wr.w ?_ | refine Cmp.t ?_ | refine Cmp.f ?_ | refine Rem.w ?_ | refine Quo.w ?_ | refine PickV.now rfl ?_ | refine Pick.now rfl ?_ | refine Chk.mk rfl ?_ | refine PickW.w rfl ?_
          | (apply CallI.of; assumption)
          | (refine CallI.of (s_pwhen g _ _) ?_)
          | (refine Cmp.tt o1 ?_)
          | (refine Cmp.tt o2 ?_)
          | (refine Cmp.tt o3 ?_)
          | (refine Ret.mk rfl))
theorem r_CheckTest (t : Tst) : Fc E n_ref05_CheckTest [Tsv t] (I (chkTs t)) := by
  refine g.fn code_ref05_CheckTest rfl ?_
  have h1 := r_Facts g
  have h2 := r_HasFact g t.fa
  have h3 := r_CheckRange g t.va 0 999999999
  unfold chkTs
  generalize rng t.va 0 999999999 = y at *
  by_cases hf : t.fa ∈ fcL
  · rw [decide_eq_true hf] at h2
    rw [if_pos hf]
    by_cases o1 : t.op = [61]
    · have ho : opB t.op = true := by simp [opB, o1]
      rw [ho]
      repeat' ((conv => whnf); first
      | refine Br.tt ?_ | refine Br.ff ?_ | refine Need.w ?_ | refine Wr.w ?_ | refine Cmp.t ?_ | refine Cmp.f ?_ | refine Rem.w ?_ | refine Quo.w ?_ | refine PickV.now rfl ?_ | refine Pick.now rfl ?_ | refine Chk.mk rfl ?_ | refine PickW.w rfl ?_
        | (apply CallI.of; assumption)
        | (refine Cmp.ff (fun h => h o1) ?_)
        | (refine Ret.mk ?_))
      all_goals simp [firstI]
      all_goals (intro h; exact h.symm)
    · by_cases o2 : t.op = [60]
      · have ho : opB t.op = true := by simp [opB, o2]
        rw [ho]
        repeat' ((conv => whnf); first
        | refine Br.tt ?_ | refine Br.ff ?_ | refine Need.w ?_ | refine Wr.w ?_ | refine Cmp.t ?_ | refine Cmp.f ?_ | refine Rem.w ?_ | refine Quo.w ?_ | refine PickV.now rfl ?_ | refine Pick.now rfl ?_ | refine Chk.mk rfl ?_ | refine PickW.w rfl ?_
          | (apply CallI.of; assumption)
          | (refine Cmp.tt o1 ?_)
          | (refine Cmp.ff (fun h => h o2) ?_)
          | (refine Ret.mk ?_))
        all_goals simp [firstI]
        all_goals (intro h; exact h.symm)
      · by_cases o3 : t.op = [62]
        · have ho : opB t.op = true := by simp [opB, o3]
          rw [ho]
          repeat' ((conv => whnf); first
          | refine Br.tt ?_ | refine Br.ff ?_ | refine Need.w ?_ | refine Wr.w ?_ | refine Cmp.t ?_ | refine Cmp.f ?_ | refine Rem.w ?_ | refine Quo.w ?_ | refine PickV.now rfl ?_ | refine Pick.now rfl ?_ | refine Chk.mk rfl ?_ | refine PickW.w rfl ?_
            | (apply CallI.of; assumption)
            | (refine Cmp.tt o1 ?_)
            | (refine Cmp.tt o2 ?_)
            | (refine Cmp.ff (fun h => h o3) ?_)
            | (refine Ret.mk ?_))
          all_goals simp [firstI]
          all_goals (intro h; exact h.symm)
        · have ho : opB t.op = false := by simp [opB, o1, o2, o3]
          rw [ho]
          repeat' ((conv => whnf); first
          | refine Br.tt ?_ | refine Br.ff ?_ | refine Need.w ?_ | refine Wr.w ?_ | refine Cmp.t ?_ | refine Cmp.f ?_ | refine Rem.w ?_ | refine Quo.w ?_ | refine PickV.now rfl ?_ | refine Pick.now rfl ?_ | refine Chk.mk rfl ?_ | refine PickW.w rfl ?_
            | (apply CallI.of; assumption)
            | (refine Cmp.tt o1 ?_)
            | (refine Cmp.tt o2 ?_)
            | (refine Cmp.tt o3 ?_)
            | (refine Ret.mk ?_))
          all_goals simp [firstI]
  · rw [decide_eq_false hf] at h2
    rw [if_neg hf]
    repeat' ((conv => whnf); first
    | refine Br.tt ?_ | refine Br.ff ?_ | refine Need.w ?_ | refine Wr.w ?_ | refine Cmp.t ?_ | refine Cmp.f ?_ | refine Rem.w ?_ | refine Quo.w ?_ | refine PickV.now rfl ?_ | refine Pick.now rfl ?_ | refine Chk.mk rfl ?_ | refine PickW.w rfl ?_
      | (apply CallI.of; assumption)
      | (refine Ret.mk ?_))
    all_goals simp [firstI]
theorem fact_find (c : Clm) (s : List UInt8) (h : s ∈ fcL) (hc : chkCl c = 0) : ∃ n, findE (.str s) facM = some (some (.d (.agg [.str s, .fn n]))) ∧ Fc E n [Clv c] (I (factV c s)) := by
  have f5 := s_fact5 g c (chkCl_per hc)
  simp only [fcL, List.mem_cons, List.not_mem_nil, or_false] at h
  rcases h with rfl | rfl | rfl | rfl | rfl | rfl | rfl | rfl | rfl | rfl
  · exact ⟨_, rfl, s_fact1 g c⟩
  · exact ⟨_, rfl, s_fact2 g c⟩
  · exact ⟨_, rfl, s_fact3 g c⟩
  · exact ⟨_, rfl, s_fact4 g c⟩
  · exact ⟨_, rfl, f5⟩
  · exact ⟨_, rfl, s_fact6 g c⟩
  · exact ⟨_, rfl, s_fact7 g c⟩
  · exact ⟨_, rfl, s_fact8 g c⟩
  · exact ⟨_, rfl, s_fact9 g c⟩
  · exact ⟨_, rfl, s_fact10 g c⟩
set_option maxHeartbeats 4000000 in
theorem s_holdsV (c : Clm) (fa op : List UInt8) (va : Int) (hc : chkCl c = 0) (hf : fa ∈ fcL) (ho : op = [61] ∨ op = [60] ∨ op = [62]) : Fc E n_priority_holds [Clv c, .d (.agg [.str fa, .str op, DI va])] (B (holdV (factV c fa) op va)) := by
  refine g.fn code_priority_holds rfl ?_
  obtain ⟨n, h1, h2⟩ := fact_find g c fa hf hc
  unfold holdV
  generalize factV c fa = v at *
  rcases ho with rfl | rfl | rfl
  all_goals rcases Int.lt_trichotomy v va with h | h | h
  all_goals (first | rw [if_neg (by decide), if_neg (by decide)] | rw [if_neg (by decide), if_pos rfl] | rw [if_pos rfl])
  all_goals (first | rw [decide_eq_true (by omega)] | rw [decide_eq_false (by omega)])
  all_goals repeat' ((conv => whnf); first
  | refine Br.tt ?_ | refine Br.ff ?_ | refine Need.w ?_ | refine Wr.w ?_ | refine Cmp.t ?_ | refine Cmp.f ?_ | refine Rem.w ?_ | refine Quo.w ?_ | refine PickV.now rfl ?_ | refine Pick.now rfl ?_ | refine Chk.mk rfl ?_ | refine PickW.w rfl ?_
    | (refine CallS.known g rfl ?_)
    | (refine Find.mk ⟨_, h1, ?_⟩)
    | (apply CallI.of; assumption)
    | (refine Ret.mk rfl))
set_option maxHeartbeats 4000000 in
theorem r_HoldsV (c : Clm) (fa op : List UInt8) (va : Int) (hc : chkCl c = 0) (hf : fa ∈ fcL) (ho : op = [61] ∨ op = [60] ∨ op = [62]) : Fc E n_ref05_Holds [Clv c, .d (.agg [.str fa, .str op, DI va])] (B (holdV (factV c fa) op va)) := by
  refine g.fn code_ref05_Holds rfl ?_
  have h1 := r_Fact g c fa hf hc
  unfold holdV
  generalize factV c fa = v at *
  rcases ho with rfl | rfl | rfl
  all_goals rcases Int.lt_trichotomy v va with h | h | h
  all_goals (first | rw [if_neg (by decide), if_neg (by decide)] | rw [if_neg (by decide), if_pos rfl] | rw [if_pos rfl])
  all_goals (first | rw [decide_eq_true (by omega)] | rw [decide_eq_false (by omega)])
  all_goals repeat' ((conv => whnf); first
  | refine Br.tt ?_ | refine Br.ff ?_ | refine Need.w ?_ | refine Wr.w ?_ | refine Cmp.t ?_ | refine Cmp.f ?_ | refine Rem.w ?_ | refine Quo.w ?_ | refine PickV.now rfl ?_ | refine Pick.now rfl ?_ | refine Chk.mk rfl ?_ | refine PickW.w rfl ?_
    | (apply CallI.of; assumption)
    | (refine Ret.mk rfl))
theorem s_holds (c : Clm) (t : Tst) (hc : chkCl c = 0) (ht : chkTs t = 0) : Fc E n_priority_holds [Clv c, Tsv t] (B (holdB c t)) := s_holdsV g c t.fa t.op t.va hc (chkTs_zero ht).1 (chkTs_zero ht).2
theorem r_Holds (c : Clm) (t : Tst) (hc : chkCl c = 0) (ht : chkTs t = 0) : Fc E n_ref05_Holds [Clv c, Tsv t] (B (holdB c t)) := r_HoldsV g c t.fa t.op t.va hc (chkTs_zero ht).1 (chkTs_zero ht).2
end
end Go.Proofs.YtcephlgejkngiaaGreatDoor.Co
