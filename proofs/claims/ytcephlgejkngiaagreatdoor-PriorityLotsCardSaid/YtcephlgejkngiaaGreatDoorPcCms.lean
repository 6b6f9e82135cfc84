
/-
  Priority: lists of claims, checked by the program and by the reference; the law's copy of them.
-/
import Derived.Test.YtcephlgejkngiaaGreatDoorPcFic
import Derived.Test.YtcephlgejkngiaaGreatDoorPcPrh
namespace Go.Proofs.YtcephlgejkngiaaGreatDoor.Co
open Go Go.Evl
set_option maxRecDepth 100000
def nmsM (l : List Clm) : List (List UInt8) := l.map (·.rq.nm)
def chkCm (seen : List (List UInt8)) (c : Clm) : Int := firstI [chkCl c, if c.rq.nm ∈ seen then 9 else 0]
def chkCmG (seen : List (List UInt8)) : List Clm → Int
  | [] => 0
  | c :: r => if chkCm seen c = 0 then chkCmG (seen ++ [c.rq.nm]) r else chkCm seen c
def chkCms (l : List Clm) : Int := if 64 < l.length then 5 else chkCmG [] l
theorem chkCmG_zero : ∀ {l : List Clm} {seen : List (List UInt8)}, chkCmG seen l = 0 → (∀ c ∈ l, chkCl c = 0) ∧ (∀ c ∈ l, c.rq.nm ∉ seen) ∧ (nmsM l).Nodup
  | [], _, _ => ⟨fun _ h => (by cases h), fun _ h => (by cases h), List.Pairwise.nil⟩
  | x :: r, seen, h => by
    rw [chkCmG] at h
    by_cases hz : chkCm seen x = 0
    · rw [if_pos hz] at h
      obtain ⟨h1, h2, h3⟩ := chkCmG_zero h
      unfold chkCm at hz
      rw [firstI_zero] at hz
      have z1 := hz (chkCl x) (by simp)
      have z2 := hz (if x.rq.nm ∈ seen then 9 else 0) (by simp)
      have z3 : x.rq.nm ∉ seen := fun hc => by rw [if_pos hc] at z2; cases z2
      refine ⟨fun c hc => ?_, fun c hc => ?_, ?_⟩
      · rcases List.mem_cons.1 hc with rfl | hc
        · exact z1
        · exact h1 c hc
      · rcases List.mem_cons.1 hc with rfl | hc
        · exact z3
        · exact fun hm => h2 c hc (by simp [hm])
      · refine List.nodup_cons.2 ⟨fun hm => ?_, h3⟩
        obtain ⟨c, hc, e⟩ := List.mem_map.1 hm
        exact h2 c hc (by simp [e])
    · rw [if_neg hz] at h
      exact absurd h hz
theorem chkCms_zero {l : List Clm} (h : chkCms l = 0) : l.length ≤ 64 ∧ (∀ c ∈ l, chkCl c = 0) ∧ (nmsM l).Nodup := by
  unfold chkCms at h
  by_cases hl : 64 < l.length
  · rw [if_pos hl] at h; cases h
  · rw [if_neg hl] at h
    have := chkCmG_zero h
    exact ⟨by omega, this.1, this.2.2⟩
theorem nmsM_in {l : List Clm} {s : List UInt8} {j : Nat} (h : j < l.length) (e : l[j].rq.nm = s) : s ∈ nmsM l := List.mem_map.2 ⟨_, List.getElem_mem h, e⟩
theorem nmsM_out {l : List Clm} {k : Nat} (h : k < l.length) {s : List UInt8} (hn : s ∉ nmsM (l.take k)) (e : l[k].rq.nm ≠ s) : s ∉ nmsM (l.take (k + 1)) := by
  unfold nmsM at *
  rw [nms_succ (fun c : Clm => c.rq.nm) h]
  intro hm
  rcases List.mem_append.1 hm with h1 | h1
  · exact hn h1
  · exact e (List.mem_singleton.1 h1).symm
abbrev clmV (q : Clm) : List V := [S q.rq.nm, S q.rq.ca, S q.rq.ki, S q.rq.te, S q.rq.pa, S q.rq.li, I q.rq.fr, I q.rq.to, I q.rq.da, I q.rq.mi, I q.rq.se, I q.rq.si, I q.rq.no, B q.hi, B q.re, B q.ne, B q.ye, I q.di]
theorem Pick.rec00 {α : Type} {cell : α → List D} {w : Nat} (hw : ∀ a, (cell a).length = w) {l : List α} {i : Int} {K : D → Prop} {d : D} (k : Nat) (hi : i = k) (h : k < l.length) (hj : (cell l[k])[0]? = some d) (hk : K d) : Pick (l.flatMap cell) (i.toNat * w + 0 + 0) K := Pick.rec hw k hi h hj hk
theorem PickW.part {α : Type} {cell : α → List D} {w : Nat} (hw : ∀ a, (cell a).length = w) {l : List α} {i : Int} {j n : Nat} {ds : List D} {K : List D → Prop} (k : Nat) (hi : i = k) (h : k < l.length) (hj : j + n ≤ w) (hd : win (cell l[k]) j n = ds) (hk : K ds) : PickW (l.flatMap cell) (i.toNat * w + j) n K := by
  subst hi
  rw [Int.toNat_natCast]
  have h1 := flatR_length cell w hw l
  have h2 : (k + 1) * w ≤ l.length * w := Nat.mul_le_mul_right _ h
  rw [Nat.succ_mul] at h2
  refine ⟨by omega, ?_⟩
  have e : win (l.flatMap cell) (k * w + j) n = ds := by
    rw [← hd]
    unfold win
    rw [← List.drop_drop, flatR_drop cell w hw, List.drop_eq_getElem_cons h, List.flatMap_cons, List.drop_append_of_le_length (by rw [hw]; omega), List.take_append_of_le_length (by rw [List.length_drop, hw]; omega)]
  rw [e]; exact hk
section
variable {E : Oracle} (g : Good E)
include g
set_option maxHeartbeats 4000000 in
theorem w_claims (l : List Clm) (hl : l.length ≤ 1000000) : Fc E n_law05_claims [LM l] (LM l) := by
  refine g.fn code_law05_claims rfl ?_
  repeat' ((conv => whnf); first
  | refine Br.tt ?_ | refine Br.ff ?_ | refine Need.w ?_ | refine Wr.w ?_ | refine Cmp.t ?_ | refine Cmp.f ?_ | refine Rem.w ?_ | refine Quo.w ?_ | refine PickV.now rfl ?_ | refine Pick.now rfl ?_ | refine Chk.mk rfl ?_ | refine PickW.w rfl ?_)
  refine LoopW.to (LoopW.up g (fun k => [(3, .ref ⟨0, 3, 0⟩ 0 k k), (6, LM l), (7, I l.length), (8, I k)]) (fun k => [(⟨0, 2, 0⟩, .row false ty_priority_Claim 18 0 []), (⟨0, 3, 0⟩, .row false ty_priority_Claim 18 k ((l.take k).flatMap Clm.cells))]) l.length (fun k hk ih => ?_) 0 (Nat.zero_le _)) rfl rfl
  by_cases hlt : k < l.length
  · have ih := ih hlt
    rw [flatR_take Clm.cells l k hlt] at ih
    have hf := flatR_length Clm.cells 18 Clm.cells_length (l.take k)
    generalize hx : l[k] = x at *
    repeat' ((conv => whnf); first
    | refine Br.tt ?_ | refine Br.ff ?_ | refine Need.w ?_ | refine Wr.w ?_ | refine Cmp.t ?_ | refine Cmp.f ?_ | refine Rem.w ?_ | refine Quo.w ?_ | refine PickV.now rfl ?_ | refine Pick.now rfl ?_ | refine Chk.mk rfl ?_ | refine PickW.w rfl ?_
      | (refine PickW.rec Clm.cells_length k rfl hlt ?_; rw [hx])
      | (refine Need.mk (by simp only [List.length_cons, List.length_nil]; omega) ?_)
      | (refine LoopW.to ih rfl rfl))
  · have hk' : k = l.length := by omega
    subst hk'
    rw [List.take_length]
    have hf := flatR_length Clm.cells 18 Clm.cells_length l
    repeat' ((conv => whnf); first
    | refine Br.tt ?_ | refine Br.ff ?_ | refine Need.w ?_ | refine Wr.w ?_ | refine Cmp.t ?_ | refine Cmp.f ?_ | refine Rem.w ?_ | refine Quo.w ?_ | refine PickV.now rfl ?_ | refine Pick.now rfl ?_ | refine Chk.mk rfl ?_ | refine PickW.w rfl ?_
      | (refine Ret.mk ?_))
    rw [if_pos ⟨rfl, rfl⟩]
set_option maxHeartbeats 4000000 in
theorem in_clm (l : List Clm) (q : Clm) (hl : l.length ≤ 1000000) {K : V → Mem → Prop} (hK : K (I (idxG (nmsM l) q.rq.nm 0)) [(⟨0, 3, 0⟩, .cells ty_priority_Claim (clmV q))]) :
    In E 2 n_slices_IndexFunc_Lpriority_Claim_priority_Claim [LM l, .fn n_priority_checkClaims_1_1 [] [.ptr ⟨0, 3, 0⟩ 0 0]] [(⟨0, 3, 0⟩, .cells ty_priority_Claim (clmV q))] K := by
  generalize hA : idxG (nmsM l) q.rq.nm 0 = A at *
  refine In.enter g.lim rfl code_slices_IndexFunc_Lpriority_Claim_priority_Claim ?_
  repeat' ((conv => whnf); first
  | refine Br.tt ?_ | refine Br.ff ?_ | refine Need.w ?_ | refine Wr.w ?_ | refine Cmp.t ?_ | refine Cmp.f ?_ | refine Rem.w ?_ | refine Quo.w ?_ | refine PickV.now rfl ?_ | refine Pick.now rfl ?_ | refine Chk.mk rfl ?_ | refine PickW.w rfl ?_)
  refine LoopW.to (LoopW.upP g (fun k => [(0, LM l), (1, .fn n_priority_checkClaims_1_1 [] [.ptr ⟨0, 3, 0⟩ 0 0]), (7, I l.length), (8, I k)]) (fun _ => _) (fun k => idxG (nmsM (l.drop k)) q.rq.nm k = A) l.length (fun k hk h0 ih => ?_) 0 (Nat.zero_le _) hA) rfl rfl
  by_cases hlt : k < l.length
  · rw [List.drop_eq_getElem_cons hlt, nmsM, List.map_cons, idxG] at h0
    have ih := ih hlt
    by_cases hd : l[k].rq.nm = q.rq.nm
    · rw [if_pos hd.symm] at h0
      subst h0
      repeat' ((conv => whnf); first
      | refine Br.tt ?_ | refine Br.ff ?_ | refine Need.w ?_ | refine Wr.w ?_ | refine Cmp.t ?_ | refine Cmp.f ?_ | refine Rem.w ?_ | refine Quo.w ?_ | refine PickV.now rfl ?_ | refine Pick.now rfl ?_ | refine Chk.mk rfl ?_ | refine PickW.w rfl ?_
        | (refine PickW.rec Clm.cells_length k rfl hlt ?_)
        | (refine In.enter g.lim rfl code_priority_checkClaims_1_1 ?_)
        | (refine Cmp.tt hd ?_)
        | (exact hK))
    · rw [if_neg (Ne.symm hd)] at h0
      have ih := ih h0
      repeat' ((conv => whnf); first
      | refine Br.tt ?_ | refine Br.ff ?_ | refine Need.w ?_ | refine Wr.w ?_ | refine Cmp.t ?_ | refine Cmp.f ?_ | refine Rem.w ?_ | refine Quo.w ?_ | refine PickV.now rfl ?_ | refine Pick.now rfl ?_ | refine Chk.mk rfl ?_ | refine PickW.w rfl ?_
        | (refine PickW.rec Clm.cells_length k rfl hlt ?_)
        | (refine In.enter g.lim rfl code_priority_checkClaims_1_1 ?_)
        | (refine Cmp.ff hd ?_)
        | (refine LoopW.to ih rfl rfl))
  · rw [List.drop_eq_nil_of_le (by omega), nmsM, List.map_nil, idxG] at h0
    subst h0
    repeat' ((conv => whnf); first
    | refine Br.tt ?_ | refine Br.ff ?_ | refine Need.w ?_ | refine Wr.w ?_ | refine Cmp.t ?_ | refine Cmp.f ?_ | refine Rem.w ?_ | refine Quo.w ?_ | refine PickV.now rfl ?_ | refine Pick.now rfl ?_ | refine Chk.mk rfl ?_ | refine PickW.w rfl ?_
      | (exact hK))
set_option maxHeartbeats 4000000 in
theorem s_cC1 (l : List Clm) (q : Clm) (hl : l.length ≤ 1000000) : Fc E n_priority_checkClaims_1 [LM l, Clv q] (I (chkCm (nmsM l) q)) := by
  refine g.fn code_priority_checkClaims_1 rfl ?_
  have h1 := s_CheckClaim g q
  have h3 := s_pfirst2 g (chkCl q) (if q.rq.nm ∈ nmsM l then 9 else 0)
  unfold chkCm
  have hm := idxG_mem q.rq.nm (nmsM l) 0
  have hin := fun {K} => in_clm g (K := K) l q hl
  generalize idxG (nmsM l) q.rq.nm 0 = r at *
  generalize chkCl q = e at *
  by_cases hr : 0 ≤ r
  · rw [if_pos (hm.1 hr)] at h3 ⊢
    repeat' ((conv => whnf); first
    | refine Br.tt ?_ | refine Br.ff ?_ | refine Need.w ?_ | refine Wr.w ?_ | refine Cmp.t ?_ | refine Cmp.f ?_ | refine Rem.w ?_ | refine Quo.w ?_ | refine PickV.now rfl ?_ | refine Pick.now rfl ?_ | refine Chk.mk rfl ?_ | refine PickW.w rfl ?_
      | (refine In.enter g.lim rfl code_slices_ContainsFunc_Lpriority_Claim_priority_Claim ?_)
      | (refine hin ?_)
      | (apply CallI.of; assumption)
      | (refine CallI.of (s_pwhen g _ _) ?_)
      | (refine Ret.mk rfl))
  · rw [if_neg (fun h => hr (hm.2 h))] at h3 ⊢
    repeat' ((conv => whnf); first
    | refine Br.tt ?_ | refine Br.ff ?_ | refine Need.w ?_ | refine Wr.w ?_ | refine Cmp.t ?_ | refine Cmp.f ?_ | refine Rem.w ?_ | refine Quo.w ?_ | refine PickV.now rfl ?_ | refine Pick.now rfl ?_ | refine Chk.mk rfl ?_ | refine PickW.w rfl ?_
      | (refine In.enter g.lim rfl code_slices_ContainsFunc_Lpriority_Claim_priority_Claim ?_)
      | (refine hin ?_)
      | (apply CallI.of; assumption)
      | (refine CallI.of (s_pwhen g _ _) ?_)
      | (refine Ret.mk rfl))
set_option maxHeartbeats 4000000 in
theorem s_eachM (l : List Clm) (hl : l.length ≤ 1000000) : Fc E n_priority_each_priority_Claim [LM l, .d (.fn n_priority_checkClaims_1)] (I (chkCmG [] l)) := by
  refine g.fn code_priority_each_priority_Claim rfl ?_
  generalize hR : chkCmG [] l = R
  repeat' ((conv => whnf); first
  | refine Br.tt ?_ | refine Br.ff ?_ | refine Need.w ?_ | refine Wr.w ?_ | refine Cmp.t ?_ | refine Cmp.f ?_ | refine Rem.w ?_ | refine Quo.w ?_ | refine PickV.now rfl ?_ | refine Pick.now rfl ?_ | refine Chk.mk rfl ?_ | refine PickW.w rfl ?_)
  refine LoopW.to (LoopW.upP g (fun k => [(0, LM l), (1, .d (.fn n_priority_checkClaims_1)), (8, LM l), (9, I l.length), (10, I k)]) (fun _ => []) (fun k => chkCmG (nmsM (l.take k)) (l.drop k) = R) l.length (fun k hk h0 ih => ?_) 0 (Nat.zero_le _) hR) rfl rfl
  by_cases hlt : k < l.length
  · have hs : nmsM (l.take (k + 1)) = nmsM (l.take k) ++ [l[k].rq.nm] := nms_succ (fun c : Clm => c.rq.nm) hlt
    rw [List.drop_eq_getElem_cons hlt, chkCmG, ← hs] at h0
    have ih := ih hlt
    have hn := s_cC1 g (l.take k) l[k] (by simp; omega)
    have ht := sl_take Clm.cells 18 Clm.cells_length l k (by omega)
    generalize chkCm (nmsM (l.take k)) l[k] = r at *
    by_cases hz : r = 0
    · rw [if_pos hz] at h0
      have ih := ih h0
      repeat' ((conv => whnf); first
      | refine Br.tt ?_ | refine Br.ff ?_ | refine Need.w ?_ | refine Wr.w ?_ | refine Cmp.t ?_ | refine Cmp.f ?_ | refine Rem.w ?_ | refine Quo.w ?_ | refine PickV.now rfl ?_ | refine Pick.now rfl ?_ | refine Chk.mk rfl ?_ | refine PickW.w rfl ?_
        | (refine PickW.rec Clm.cells_length k rfl hlt ?_)
        | (refine Bounds.at 0 k rfl rfl (by omega) ?_ <;> (try rw [ht]))
        | (refine CallI.of hn ?_)
        | (refine Cmp.ff (fun h => h hz) ?_)
        | (refine LoopW.to ih rfl rfl))
    · rw [if_neg hz] at h0
      rw [← h0]
      repeat' ((conv => whnf); first
      | refine Br.tt ?_ | refine Br.ff ?_ | refine Need.w ?_ | refine Wr.w ?_ | refine Cmp.t ?_ | refine Cmp.f ?_ | refine Rem.w ?_ | refine Quo.w ?_ | refine PickV.now rfl ?_ | refine Pick.now rfl ?_ | refine Chk.mk rfl ?_ | refine PickW.w rfl ?_
        | (refine PickW.rec Clm.cells_length k rfl hlt ?_)
        | (refine Bounds.at 0 k rfl rfl (by omega) ?_ <;> (try rw [ht]))
        | (refine CallI.of hn ?_)
        | (refine Cmp.tt hz ?_)
        | (refine Ret.mk rfl))
  · rw [List.drop_eq_nil_of_le (by omega), chkCmG] at h0
    rw [← h0]
    repeat' ((conv => whnf); first
    | refine Br.tt ?_ | refine Br.ff ?_ | refine Need.w ?_ | refine Wr.w ?_ | refine Cmp.t ?_ | refine Cmp.f ?_ | refine Rem.w ?_ | refine Quo.w ?_ | refine PickV.now rfl ?_ | refine Pick.now rfl ?_ | refine Chk.mk rfl ?_ | refine PickW.w rfl ?_
      | (refine Ret.mk rfl))
theorem s_checkClaims (l : List Clm) (hl : l.length ≤ 1000000) : Fc E n_priority_checkClaims [LM l] (I (chkCms l)) := by
  refine g.fn code_priority_checkClaims rfl ?_
  have h := s_eachM g l hl
  unfold chkCms
  by_cases hm : 64 < l.length
  · rw [if_pos hm]
    repeat' ((conv => whnf); first
    | refine Br.tt ?_ | refine Br.ff ?_ | refine Need.w ?_ | refine Wr.w ?_ | refine Cmp.t ?_ | refine Cmp.f ?_ | refine Rem.w ?_ | refine Quo.w ?_ | refine PickV.now rfl ?_ | refine Pick.now rfl ?_ | refine Chk.mk rfl ?_ | refine PickW.w rfl ?_
      | (refine Ret.mk rfl))
  · rw [if_neg hm]
    repeat' ((conv => whnf); first
    | refine Br.tt ?_ | refine Br.ff ?_ | refine Need.w ?_ | refine Wr.w ?_ | refine Cmp.t ?_ | refine Cmp.f ?_ | refine Rem.w ?_ | refine Quo.w ?_ | refine PickV.now rfl ?_ | refine Pick.now rfl ?_ | refine Chk.mk rfl ?_ | refine PickW.w rfl ?_
      | (apply CallI.of; assumption)
      | (refine Ret.mk rfl))
set_option maxHeartbeats 4000000 in
theorem r_CheckClaims (l : List Clm) (hl : l.length ≤ 1000000) : Fc E n_ref05_CheckClaims [LM l] (I (chkCms l)) := by
  refine g.fn code_ref05_CheckClaims rfl ?_
  unfold chkCms
  by_cases hm : 64 < l.length
  · rw [if_pos hm]
    repeat' ((conv => whnf); first
    | refine Br.tt ?_ | refine Br.ff ?_ | refine Need.w ?_ | refine Wr.w ?_ | refine Cmp.t ?_ | refine Cmp.f ?_ | refine Rem.w ?_ | refine Quo.w ?_ | refine PickV.now rfl ?_ | refine Pick.now rfl ?_ | refine Chk.mk rfl ?_ | refine PickW.w rfl ?_
      | (refine Ret.mk rfl))
  · rw [if_neg hm]
    generalize hR : chkCmG [] l = R
    repeat' ((conv => whnf); first
    | refine Br.tt ?_ | refine Br.ff ?_ | refine Need.w ?_ | refine Wr.w ?_ | refine Cmp.t ?_ | refine Cmp.f ?_ | refine Rem.w ?_ | refine Quo.w ?_ | refine PickV.now rfl ?_ | refine Pick.now rfl ?_ | refine Chk.mk rfl ?_ | refine PickW.w rfl ?_)
    refine LoopW.to (LoopW.upP g (fun k => [(0, LM l), (3, I k)]) (fun _ => []) (fun k => chkCmG (nmsM (l.take k)) (l.drop k) = R) l.length (fun k hk h0 ih => ?_) 0 (Nat.zero_le _) hR) rfl rfl
    by_cases hlt : k < l.length
    · have hs : nmsM (l.take (k + 1)) = nmsM (l.take k) ++ [l[k].rq.nm] := nms_succ (fun c : Clm => c.rq.nm) hlt
      rw [List.drop_eq_getElem_cons hlt, chkCmG, ← hs] at h0
      have ih := ih hlt
      have hn := r_CheckClaim g l[k]
      by_cases hz : chkCl l[k] = 0
      · rw [hz] at hn
        repeat' ((conv => whnf); first
        | refine Br.tt ?_ | refine Br.ff ?_ | refine Need.w ?_ | refine Wr.w ?_ | refine Cmp.t ?_ | refine Cmp.f ?_ | refine Rem.w ?_ | refine Quo.w ?_ | refine PickV.now rfl ?_ | refine Pick.now rfl ?_ | refine Chk.mk rfl ?_ | refine PickW.w rfl ?_
          | (refine PickW.rec Clm.cells_length k rfl hlt ?_)
          | (refine CallI.of hn ?_))
        refine LoopW.to (LoopW.upP g (fun j => [(0, LM l), (3, I k), (4, I 0), (5, I j)]) (fun _ => []) (fun j => l[k].rq.nm ∉ nmsM (l.take j)) k (fun j hj hno jh => ?_) 0 (Nat.zero_le _) (by simp [nmsM])) rfl rfl
        by_cases hjk : j < k
        · have hjl : j < l.length := by omega
          replace jh := jh hjk
          by_cases hd : l[j].rq.nm = l[k].rq.nm
          · have hin : l[k].rq.nm ∈ nmsM (l.take k) := by
              refine nmsM_in (j := j) (by simp; omega) ?_
              rw [List.getElem_take]
              exact hd
            have he : chkCm (nmsM (l.take k)) l[k] = 9 := by
              unfold chkCm
              rw [hz, if_pos hin]
              rfl
            rw [he, if_neg (by decide)] at h0
            rw [← h0]
            repeat' ((conv => whnf); first
            | refine Br.tt ?_ | refine Br.ff ?_ | refine Need.w ?_ | refine Wr.w ?_ | refine Cmp.t ?_ | refine Cmp.f ?_ | refine Rem.w ?_ | refine Quo.w ?_ | refine PickV.now rfl ?_ | refine Pick.now rfl ?_ | refine Chk.mk rfl ?_ | refine PickW.w rfl ?_
              | (refine Pick.rec00 Clm.cells_length j rfl hjl rfl ?_)
              | (refine Pick.rec00 Clm.cells_length k rfl hlt rfl ?_)
              | (refine Cmp.tt hd ?_)
              | (refine LoopW.step g.lim ?_)
              | (refine Ret.mk rfl)
              | (refine Cmp.mk (fun h => ?_) (fun h => ?_)) | (refine Rem.any (by omega) (fun r hr he => ?_)) | (refine Br.mk (fun h => ?_) (fun h => ?_)))
          · have jh := jh (nmsM_out hjl hno hd)
            repeat' ((conv => whnf); first
            | refine Br.tt ?_ | refine Br.ff ?_ | refine Need.w ?_ | refine Wr.w ?_ | refine Cmp.t ?_ | refine Cmp.f ?_ | refine Rem.w ?_ | refine Quo.w ?_ | refine PickV.now rfl ?_ | refine Pick.now rfl ?_ | refine Chk.mk rfl ?_ | refine PickW.w rfl ?_
              | (refine Pick.rec00 Clm.cells_length j rfl hjl rfl ?_)
              | (refine Pick.rec00 Clm.cells_length k rfl hlt rfl ?_)
              | (refine Cmp.ff hd ?_)
              | (refine LoopW.to jh rfl rfl))
        · obtain rfl : j = k := by omega
          have he : chkCm (nmsM (l.take j)) l[j] = 0 := by
            unfold chkCm
            rw [hz, if_neg hno]
            rfl
          rw [he, if_pos rfl] at h0
          have ih := ih h0
          repeat' ((conv => whnf); first
          | refine Br.tt ?_ | refine Br.ff ?_ | refine Need.w ?_ | refine Wr.w ?_ | refine Cmp.t ?_ | refine Cmp.f ?_ | refine Rem.w ?_ | refine Quo.w ?_ | refine PickV.now rfl ?_ | refine Pick.now rfl ?_ | refine Chk.mk rfl ?_ | refine PickW.w rfl ?_
            | (refine LoopW.to ih rfl rfl))
      · have he : chkCm (nmsM (l.take k)) l[k] = chkCl l[k] := by
          unfold chkCm
          simp [firstI, hz]
        rw [he, if_neg hz] at h0
        rw [← h0]
        generalize chkCl l[k] = e at *
        repeat' ((conv => whnf); first
        | refine Br.tt ?_ | refine Br.ff ?_ | refine Need.w ?_ | refine Wr.w ?_ | refine Cmp.t ?_ | refine Cmp.f ?_ | refine Rem.w ?_ | refine Quo.w ?_ | refine PickV.now rfl ?_ | refine Pick.now rfl ?_ | refine Chk.mk rfl ?_ | refine PickW.w rfl ?_
          | (refine PickW.rec Clm.cells_length k rfl hlt ?_)
          | (refine CallI.of hn ?_)
          | (refine LoopW.step g.lim ?_)
          | (refine Cmp.tt hz ?_)
          | (refine Cmp.ff hz ?_)
          | (refine Ret.mk rfl)
          | (refine Cmp.mk (fun h => ?_) (fun h => ?_)) | (refine Rem.any (by omega) (fun r hr he => ?_)) | (refine Br.mk (fun h => ?_) (fun h => ?_)))
    · rw [List.drop_eq_nil_of_le (by omega), chkCmG] at h0
      rw [← h0]
      repeat' ((conv => whnf); first
      | refine Br.tt ?_ | refine Br.ff ?_ | refine Need.w ?_ | refine Wr.w ?_ | refine Cmp.t ?_ | refine Cmp.f ?_ | refine Rem.w ?_ | refine Quo.w ?_ | refine PickV.now rfl ?_ | refine Pick.now rfl ?_ | refine Chk.mk rfl ?_ | refine PickW.w rfl ?_
        | (refine Ret.mk rfl))
set_option maxHeartbeats 4000000 in
theorem r_ShortClaims (l : List Clm) (n : Int) (hl : l.length ≤ 9223372036854775807) : Fc E n_ref05_ShortClaims [LM l, I n] (B (decide (((l.length : Int) ≤ n ∨ l.length = 65) ∧ ∀ c ∈ l, briefB c.rq = true))) := by
  refine g.fn code_ref05_ShortClaims rfl ?_
  by_cases hs : (l.length : Int) ≤ n ∨ l.length = 65
  · generalize hR : decide (((l.length : Int) ≤ n ∨ l.length = 65) ∧ ∀ c ∈ l, briefB c.rq = true) = R
    have hR : decide (∀ c ∈ l, briefB c.rq = true) = R := by
      rw [← hR]
      simp [hs]
    repeat' ((conv => whnf); first
    | refine Br.tt ?_ | refine Br.ff ?_ | refine Need.w ?_ | refine Wr.w ?_ | refine Cmp.t ?_ | refine Cmp.f ?_ | refine Rem.w ?_ | refine Quo.w ?_ | refine PickV.now rfl ?_ | refine Pick.now rfl ?_ | refine Chk.mk rfl ?_ | refine PickW.w rfl ?_
      | (refine Cmp.mk (fun h => ?_) (fun h => ?_)) | (refine Rem.any (by omega) (fun r hr he => ?_)) | (refine Br.mk (fun h => ?_) (fun h => ?_))
      | (exfalso; omega))
    all_goals
      refine LoopW.to (LoopW.upP g (fun k => [(0, LM l), (5, I k)]) (fun _ => []) (fun k => decide (∀ c ∈ l.drop k, briefB c.rq = true) = R) l.length (fun k hk h0 ih => ?_) 0 (Nat.zero_le _) hR) rfl rfl
      by_cases hlt : k < l.length
      · rw [List.drop_eq_getElem_cons hlt] at h0
        have ih := ih hlt
        have hb := r_Brief g l[k].rq
        cases hc : briefB l[k].rq
        · rw [hc] at hb
          rw [decide_eq_false fun h => by have := h l[k] (List.mem_cons_self ..); rw [hc] at this; cases this] at h0
          rw [← h0]
          repeat' ((conv => whnf); first
          | refine Br.tt ?_ | refine Br.ff ?_ | refine Need.w ?_ | refine Wr.w ?_ | refine Cmp.t ?_ | refine Cmp.f ?_ | refine Rem.w ?_ | refine Quo.w ?_ | refine PickV.now rfl ?_ | refine Pick.now rfl ?_ | refine Chk.mk rfl ?_ | refine PickW.w rfl ?_
            | (refine PickW.part Clm.cells_length k rfl hlt (by decide) rfl ?_)
            | (refine CallI.of hb ?_)
            | (refine Ret.mk rfl))
        · rw [hc] at hb
          have ih := ih (h0 ▸ decide_eq_decide.2 ⟨fun h c hm => (List.mem_cons.1 hm).elim (fun e => e ▸ hc) (h c), fun h c hm => h c (List.mem_cons_of_mem _ hm)⟩)
          repeat' ((conv => whnf); first
          | refine Br.tt ?_ | refine Br.ff ?_ | refine Need.w ?_ | refine Wr.w ?_ | refine Cmp.t ?_ | refine Cmp.f ?_ | refine Rem.w ?_ | refine Quo.w ?_ | refine PickV.now rfl ?_ | refine Pick.now rfl ?_ | refine Chk.mk rfl ?_ | refine PickW.w rfl ?_
            | (refine PickW.part Clm.cells_length k rfl hlt (by decide) rfl ?_)
            | (refine CallI.of hb ?_)
            | (refine LoopW.to ih rfl rfl))
      · rw [List.drop_eq_nil_of_le (by omega)] at h0
        rw [← h0]
        repeat' ((conv => whnf); first
        | refine Br.tt ?_ | refine Br.ff ?_ | refine Need.w ?_ | refine Wr.w ?_ | refine Cmp.t ?_ | refine Cmp.f ?_ | refine Rem.w ?_ | refine Quo.w ?_ | refine PickV.now rfl ?_ | refine Pick.now rfl ?_ | refine Chk.mk rfl ?_ | refine PickW.w rfl ?_
          | (refine Ret.mk (by simp)))
  · rw [decide_eq_false (fun h => hs h.1)]
    repeat' ((conv => whnf); first
    | refine Br.tt ?_ | refine Br.ff ?_ | refine Need.w ?_ | refine Wr.w ?_ | refine Cmp.t ?_ | refine Cmp.f ?_ | refine Rem.w ?_ | refine Quo.w ?_ | refine PickV.now rfl ?_ | refine Pick.now rfl ?_ | refine Chk.mk rfl ?_ | refine PickW.w rfl ?_
      | (refine Cmp.mk (fun h => ?_) (fun h => ?_)) | (refine Rem.any (by omega) (fun r hr he => ?_)) | (refine Br.mk (fun h => ?_) (fun h => ?_))
      | (refine Ret.mk rfl)
      | (exfalso; omega))
end
end Go.Proofs.YtcephlgejkngiaaGreatDoor.Co
