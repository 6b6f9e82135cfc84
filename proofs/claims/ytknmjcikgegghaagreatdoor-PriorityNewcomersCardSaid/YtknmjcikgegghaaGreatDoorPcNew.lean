
/-
  Priority: newcomers.
-/
import Derived.Test.YtknmjcikgegghaaGreatDoorMsRqs
import Derived.Test.YtknmjcikgegghaaGreatDoorPcCla
namespace Go.Proofs.YtknmjcikgegghaaGreatDoor.Co
open Go Go.Evl
set_option maxRecDepth 100000
def onB (ca : List UInt8) (day : Int) (q : Rqt) : Bool := decide (q.ca = ca) && hasB q.fr q.to q.da day
def onN (ca : List UInt8) (day : Int) (l : List Rqt) : Nat := l.countP (onB ca day)
theorem onN_succ {ca : List UInt8} {day : Int} {l : List Rqt} {k : Nat} (h : k < l.length) : (onN ca day (l.take (k + 1)) : Int) = onN ca day (l.take k) + (if onB ca day l[k] = true then 1 else 0) := by
  unfold onN
  rw [List.take_add_one, List.getElem?_eq_getElem h, List.countP_append]
  simp only [Option.toList_some, List.countP_cons, List.countP_nil]
  split <;> simp
theorem onN_le (ca : List UInt8) (day : Int) (l : List Rqt) : onN ca day l ≤ l.length := List.countP_le_length
def chkHeld (ca : List UInt8) (day : Int) (l : List Rqt) : Int := if isNameB ca = true then firstI [rng day 0 99999, chkRqs l] else 8
section
variable {E : Oracle} (g : Good E)
include g
set_option maxHeartbeats 4000000 in
theorem in_new (l : List Rqt) (q : Rqt) (hl : l.length ≤ 1000000) {K : V → Mem → Prop}
    (hK : K (I (atG q.nm 0 l)) [(⟨0, 3, 0⟩, .cells ty_api_Request [V.d (.str q.nm), V.d (.str q.ca), V.d (.str q.ki), V.d (.str q.te), V.d (.str q.pa), V.d (.str q.li), V.d (DI q.fr), V.d (DI q.to), V.d (DI q.da), V.d (DI q.mi), V.d (DI q.se), V.d (DI q.si), V.d (DI q.no)])]) :
    In E 2 n_slices_IndexFunc_Lapi_Request_api_Request [LQ l, .fn n_priority_Newcomer_1_1 [] [.ptr ⟨0, 3, 0⟩ 0 0]] [(⟨0, 3, 0⟩, .cells ty_api_Request [V.d (.str q.nm), V.d (.str q.ca), V.d (.str q.ki), V.d (.str q.te), V.d (.str q.pa), V.d (.str q.li), V.d (DI q.fr), V.d (DI q.to), V.d (DI q.da), V.d (DI q.mi), V.d (DI q.se), V.d (DI q.si), V.d (DI q.no)])] K := by
  generalize hA : atG q.nm 0 l = A at *
  refine In.enter g.lim rfl code_slices_IndexFunc_Lapi_Request_api_Request ?_
  repeat' ((conv => whnf); first
  | refine Br.tt ?_
  | refine Br.ff ?_
  | refine Need.w ?_
  | refine Wr.w ?_
  | refine Cmp.t ?_
  | refine Cmp.f ?_
  | refine Rem.w ?_
  | refine Quo.w ?_
  | refine PickV.now rfl ?_
  | refine Pick.now rfl ?_
  | refine Chk.mk rfl ?_
  | refine PickW.w rfl ?_)
  refine LoopW.to (LoopW.upP g (fun k => [(0, LQ l), (1, .fn n_priority_Newcomer_1_1 [] [.ptr ⟨0, 3, 0⟩ 0 0]), (7, I l.length), (8, I k)]) (fun _ => _) (fun k => atG q.nm k (l.drop k) = A) l.length (fun k hk h0 ih => ?_) 0 (Nat.zero_le _) hA) rfl rfl
  by_cases hlt : k < l.length
  · rw [List.drop_eq_getElem_cons hlt, atG] at h0
    have ih := ih hlt
    by_cases hd : l[k].nm = q.nm
    · rw [if_pos hd] at h0
      subst h0
      repeat' ((conv => whnf); first
      | refine Br.tt ?_
      | refine Br.ff ?_
      | refine Need.w ?_
      | refine Wr.w ?_
      | refine Cmp.t ?_
      | refine Cmp.f ?_
      | refine Rem.w ?_
      | refine Quo.w ?_
      | refine PickV.now rfl ?_
      | refine Pick.now rfl ?_
      | refine Chk.mk rfl ?_
      | refine PickW.w rfl ?_
        | (refine PickW.rec Rqt.cells_length k rfl hlt ?_)
        | (refine In.enter g.lim rfl code_priority_Newcomer_1_1 ?_)
        | (refine Cmp.tt hd ?_)
        | (exact hK))
    · rw [if_neg hd] at h0
      have ih := ih h0
      repeat' ((conv => whnf); first
      | refine Br.tt ?_
      | refine Br.ff ?_
      | refine Need.w ?_
      | refine Wr.w ?_
      | refine Cmp.t ?_
      | refine Cmp.f ?_
      | refine Rem.w ?_
      | refine Quo.w ?_
      | refine PickV.now rfl ?_
      | refine Pick.now rfl ?_
      | refine Chk.mk rfl ?_
      | refine PickW.w rfl ?_
        | (refine PickW.rec Rqt.cells_length k rfl hlt ?_)
        | (refine In.enter g.lim rfl code_priority_Newcomer_1_1 ?_)
        | (refine Cmp.ff hd ?_)
        | (refine LoopW.to ih rfl rfl))
  · rw [List.drop_eq_nil_of_le (by omega), atG] at h0
    subst h0
    repeat' ((conv => whnf); first
    | refine Br.tt ?_
    | refine Br.ff ?_
    | refine Need.w ?_
    | refine Wr.w ?_
    | refine Cmp.t ?_
    | refine Cmp.f ?_
    | refine Rem.w ?_
    | refine Quo.w ?_
    | refine PickV.now rfl ?_
    | refine Pick.now rfl ?_
    | refine Chk.mk rfl ?_
    | refine PickW.w rfl ?_
      | (exact hK))
set_option maxHeartbeats 4000000 in
theorem s_New1 (l : List Rqt) (q : Rqt) (hl : l.length ≤ 1000000) : Fc E n_priority_Newcomer_1 [LQ l, Rqv q] (I (firstI [chkRq q, if q.nm ∈ nmsQ l then 9 else 0])) := by
  refine g.fn code_priority_Newcomer_1 rfl ?_
  have hc := s_CheckRequest g q
  have hm : 0 ≤ atG q.nm 0 l ↔ q.nm ∈ nmsQ l := by
    rcases atG_spec q.nm l 0 with ⟨a1, a2⟩ | ⟨j, hj, a1, a2, _⟩
    · rw [a1]
      exact ⟨fun h => absurd h (by decide), fun h => absurd h a2⟩
    · rw [a1]
      refine ⟨fun _ => ?_, fun _ => by omega⟩
      unfold nmsQ
      rw [List.mem_map]
      exact ⟨_, List.getElem_mem hj, a2⟩
  have hin := fun {K} => in_new g (K := K) l q hl
  generalize atG q.nm 0 l = r at *
  by_cases hr : 0 ≤ r
  · rw [if_pos (hm.1 hr)]
    repeat' ((conv => whnf); first
    | refine Br.tt ?_
    | refine Br.ff ?_
    | refine Need.w ?_
    | refine Wr.w ?_
    | refine Cmp.t ?_
    | refine Cmp.f ?_
    | refine Rem.w ?_
    | refine Quo.w ?_
    | refine PickV.now rfl ?_
    | refine Pick.now rfl ?_
    | refine Chk.mk rfl ?_
    | refine PickW.w rfl ?_
      | (refine In.enter g.lim rfl code_slices_ContainsFunc_Lapi_Request_api_Request ?_)
      | (refine hin ?_)
      | (apply CallI.of; assumption)
      | (refine CallI.of (s_pwhen g _ _) ?_)
      | (refine CallI.of (s_pfirst2 g _ _) ?_)
      | (refine Ret.mk rfl))
  · rw [if_neg (fun h => hr (hm.2 h))]
    repeat' ((conv => whnf); first
    | refine Br.tt ?_
    | refine Br.ff ?_
    | refine Need.w ?_
    | refine Wr.w ?_
    | refine Cmp.t ?_
    | refine Cmp.f ?_
    | refine Rem.w ?_
    | refine Quo.w ?_
    | refine PickV.now rfl ?_
    | refine Pick.now rfl ?_
    | refine Chk.mk rfl ?_
    | refine PickW.w rfl ?_
      | (refine In.enter g.lim rfl code_slices_ContainsFunc_Lapi_Request_api_Request ?_)
      | (refine hin ?_)
      | (apply CallI.of; assumption)
      | (refine CallI.of (s_pwhen g _ _) ?_)
      | (refine CallI.of (s_pfirst2 g _ _) ?_)
      | (refine Ret.mk rfl))
set_option maxHeartbeats 4000000 in
theorem s_eachQ (l : List Rqt) (hl : l.length ≤ 1000000) : Fc E n_priority_each_api_Request [LQ l, .d (.fn n_priority_Newcomer_1)] (I (chkRqG [] l)) := by
  refine g.fn code_priority_each_api_Request rfl ?_
  generalize hR : chkRqG [] l = R
  repeat' ((conv => whnf); first
  | refine Br.tt ?_
  | refine Br.ff ?_
  | refine Need.w ?_
  | refine Wr.w ?_
  | refine Cmp.t ?_
  | refine Cmp.f ?_
  | refine Rem.w ?_
  | refine Quo.w ?_
  | refine PickV.now rfl ?_
  | refine Pick.now rfl ?_
  | refine Chk.mk rfl ?_
  | refine PickW.w rfl ?_)
  refine LoopW.to (LoopW.upP g (fun k => [(0, LQ l), (1, .d (.fn n_priority_Newcomer_1)), (8, LQ l), (9, I l.length), (10, I k)]) (fun _ => []) (fun k => chkRqG (nmsQ (l.take k)) (l.drop k) = R) l.length (fun k hk h0 ih => ?_) 0 (Nat.zero_le _) hR) rfl rfl
  by_cases hlt : k < l.length
  · rw [List.drop_eq_getElem_cons hlt, chkRqG, ← nmsQ_succ hlt] at h0
    have ih := ih hlt
    have hn := s_New1 g (l.take k) l[k] (by simp; omega)
    have ht : V.d (.list (k - 0) (win (l.flatMap Rqt.cells) (0 * 13) ((k - 0) * 13))) = LQ (l.take k) := by
      rw [Nat.zero_mul, Nat.sub_zero, win_take l k (by omega), LQ, List.length_take, Nat.min_eq_left (by omega)]
    generalize firstI [chkRq l[k], if l[k].nm ∈ nmsQ (l.take k) then 9 else 0] = r at *
    by_cases hz : r = 0
    · rw [if_pos hz] at h0
      have ih := ih h0
      repeat' ((conv => whnf); first
      | refine Br.tt ?_
      | refine Br.ff ?_
      | refine Need.w ?_
      | refine Wr.w ?_
      | refine Cmp.t ?_
      | refine Cmp.f ?_
      | refine Rem.w ?_
      | refine Quo.w ?_
      | refine PickV.now rfl ?_
      | refine Pick.now rfl ?_
      | refine Chk.mk rfl ?_
      | refine PickW.w rfl ?_
        | (refine PickW.rec Rqt.cells_length k rfl hlt ?_)
        | (refine Bounds.at 0 k rfl rfl (by omega) ?_ <;> (try rw [ht]))
        | (refine CallI.of hn ?_)
        | (refine Cmp.ff (fun h => h hz) ?_)
        | (refine LoopW.to ih rfl rfl))
    · rw [if_neg hz] at h0
      rw [← h0]
      repeat' ((conv => whnf); first
      | refine Br.tt ?_
      | refine Br.ff ?_
      | refine Need.w ?_
      | refine Wr.w ?_
      | refine Cmp.t ?_
      | refine Cmp.f ?_
      | refine Rem.w ?_
      | refine Quo.w ?_
      | refine PickV.now rfl ?_
      | refine Pick.now rfl ?_
      | refine Chk.mk rfl ?_
      | refine PickW.w rfl ?_
        | (refine PickW.rec Rqt.cells_length k rfl hlt ?_)
        | (refine Bounds.at 0 k rfl rfl (by omega) ?_ <;> (try rw [ht]))
        | (refine CallI.of hn ?_)
        | (refine Cmp.tt hz ?_)
        | (refine Ret.mk rfl))
  · rw [List.drop_eq_nil_of_le (by omega), chkRqG] at h0
    rw [← h0]
    repeat' ((conv => whnf); first
    | refine Br.tt ?_
    | refine Br.ff ?_
    | refine Need.w ?_
    | refine Wr.w ?_
    | refine Cmp.t ?_
    | refine Cmp.f ?_
    | refine Rem.w ?_
    | refine Quo.w ?_
    | refine PickV.now rfl ?_
    | refine Pick.now rfl ?_
    | refine Chk.mk rfl ?_
    | refine PickW.w rfl ?_
      | (refine Ret.mk rfl))
theorem r_CheckHeld (ca : List UInt8) (day : Int) (l : List Rqt) (hl : l.length ≤ 1000000) : Fc E n_ref05_CheckHeld [S ca, I day, LQ l] (I (chkHeld ca day l)) := by
  refine g.fn code_ref05_CheckHeld rfl ?_
  have h1 := r_IsName g ca
  have h2 := r_CheckDay g day
  have h3 := r_CheckRequests g l hl
  unfold chkHeld
  generalize isNameB ca = b at *
  cases b
  all_goals repeat' ((conv => whnf); first
  | refine Br.tt ?_
  | refine Br.ff ?_
  | refine Need.w ?_
  | refine Wr.w ?_
  | refine Cmp.t ?_
  | refine Cmp.f ?_
  | refine Rem.w ?_
  | refine Quo.w ?_
  | refine PickV.now rfl ?_
  | refine Pick.now rfl ?_
  | refine Chk.mk rfl ?_
  | refine PickW.w rfl ?_
    | (apply CallI.of; assumption)
    | (refine CallI.of (r_First2 g _ _) ?_)
    | (refine Ret.mk rfl))
set_option maxHeartbeats 4000000 in
theorem s_Newcomer_ok (ca : List UInt8) (day : Int) (l : List Rqt) (h : chkHeld ca day l = 0) : Fc E n_priority_Newcomer [S ca, I day, LQ l] (.tup [B (decide (onN ca day l < 5)), I 0]) := by
  refine g.fn code_priority_Newcomer rfl ?_
  have h1 := s_IsName g ca
  have h2 := s_pwithin g day 0 99999
  unfold chkHeld at h
  split at h
  · rename_i hn
    rw [firstI_zero] at h
    have hd : rng day 0 99999 = 0 := h _ (by simp)
    have hq : chkRqs l = 0 := h _ (by simp)
    have hl := (chkRqs_zero hq).1
    have ho := (chkRqs_zero hq).2.2
    have h3 := s_eachQ g l (by omega)
    have hg : chkRqG [] l = 0 := by unfold chkRqs at hq; rwa [if_neg (by omega)] at hq
    rw [hn] at h1
    rw [hd] at h2
    rw [hg] at h3
    repeat' ((conv => whnf); first
    | refine Br.tt ?_
    | refine Br.ff ?_
    | refine Need.w ?_
    | refine Wr.w ?_
    | refine Cmp.t ?_
    | refine Cmp.f ?_
    | refine Rem.w ?_
    | refine Quo.w ?_
    | refine PickV.now rfl ?_
    | refine Pick.now rfl ?_
    | refine Chk.mk rfl ?_
    | refine PickW.w rfl ?_
      | (apply CallI.of; assumption)
      | (refine CallI.of (s_pwhen g _ _) ?_)
      | (refine CallI.of (s_pfirst3 g _ _ _) ?_))
    refine LoopW.to (LoopW.up g (fun k => [(0, S ca), (1, I day), (9, I (onN ca day (l.take k))), (34, LQ l), (35, I l.length), (36, I k)]) (fun _ => []) l.length (fun k hk ih => ?_) 0 (Nat.zero_le _)) rfl rfl
    by_cases hlt : k < l.length
    · have ih := ih hlt
      have hc := ho l[k] (List.getElem_mem hlt)
      have hp : chkPer l[k].fr l[k].to l[k].da = 0 := by
        unfold chkRq at hc
        rw [firstI_zero] at hc
        exact hc _ (by simp)
      have hh := s_Has_ok g _ _ _ day hp hd
      have hs := onN_succ (ca := ca) (day := day) hlt
      have hx := onN_le ca day (l.take k)
      have hy : (l.take k).length ≤ 64 := by simp; omega
      rw [hs] at ih
      have b0 : Fc E n_priority_bit [B false] (I 0) := s_pbit g false
      have b1 : Fc E n_priority_bit [B true] (I 1) := s_pbit g true
      unfold onB at ih
      generalize hasB l[k].fr l[k].to l[k].da day = b at *
      by_cases hca : l[k].ca = ca
      · rw [decide_eq_true hca, Bool.true_and] at ih
        cases b
        · rw [if_neg (by decide)] at ih
          repeat' ((conv => whnf); first
          | refine Br.tt ?_
          | refine Br.ff ?_
          | refine Need.w ?_
          | refine Wr.w ?_
          | refine Cmp.t ?_
          | refine Cmp.f ?_
          | refine Rem.w ?_
          | refine Quo.w ?_
          | refine PickV.now rfl ?_
          | refine Pick.now rfl ?_
          | refine Chk.mk rfl ?_
          | refine PickW.w rfl ?_
            | (refine PickW.rec Rqt.cells_length k rfl hlt ?_)
            | (apply CallI.of; assumption)
            | (refine Cmp.tt hca ?_)
            | (refine LoopW.to ih rfl rfl))
        · rw [if_pos rfl] at ih
          repeat' ((conv => whnf); first
          | refine Br.tt ?_
          | refine Br.ff ?_
          | refine Need.w ?_
          | refine Wr.w ?_
          | refine Cmp.t ?_
          | refine Cmp.f ?_
          | refine Rem.w ?_
          | refine Quo.w ?_
          | refine PickV.now rfl ?_
          | refine Pick.now rfl ?_
          | refine Chk.mk rfl ?_
          | refine PickW.w rfl ?_
            | (refine PickW.rec Rqt.cells_length k rfl hlt ?_)
            | (apply CallI.of; assumption)
            | (refine Cmp.tt hca ?_)
            | (refine LoopW.to ih rfl rfl))
      · rw [decide_eq_false hca, Bool.false_and, if_neg (by decide)] at ih
        cases b
        all_goals repeat' ((conv => whnf); first
        | refine Br.tt ?_
        | refine Br.ff ?_
        | refine Need.w ?_
        | refine Wr.w ?_
        | refine Cmp.t ?_
        | refine Cmp.f ?_
        | refine Rem.w ?_
        | refine Quo.w ?_
        | refine PickV.now rfl ?_
        | refine Pick.now rfl ?_
        | refine Chk.mk rfl ?_
        | refine PickW.w rfl ?_
          | (refine PickW.rec Rqt.cells_length k rfl hlt ?_)
          | (apply CallI.of; assumption)
          | (refine Cmp.ff hca ?_)
          | (refine LoopW.to ih rfl rfl))
    · have e : l.take k = l := List.take_of_length_le (by omega)
      rw [e]
      by_cases h5 : onN ca day l < 5
      · rw [decide_eq_true h5]
        repeat' ((conv => whnf); first
        | refine Br.tt ?_
        | refine Br.ff ?_
        | refine Need.w ?_
        | refine Wr.w ?_
        | refine Cmp.t ?_
        | refine Cmp.f ?_
        | refine Rem.w ?_
        | refine Quo.w ?_
        | refine PickV.now rfl ?_
        | refine Pick.now rfl ?_
        | refine Chk.mk rfl ?_
        | refine PickW.w rfl ?_
          | (refine Ret.mk rfl))
      · rw [decide_eq_false h5]
        repeat' ((conv => whnf); first
        | refine Br.tt ?_
        | refine Br.ff ?_
        | refine Need.w ?_
        | refine Wr.w ?_
        | refine Cmp.t ?_
        | refine Cmp.f ?_
        | refine Rem.w ?_
        | refine Quo.w ?_
        | refine PickV.now rfl ?_
        | refine Pick.now rfl ?_
        | refine Chk.mk rfl ?_
        | refine PickW.w rfl ?_
          | (refine Ret.mk rfl))
  · cases h
set_option maxHeartbeats 4000000 in
theorem s_Newcomer_bad (ca : List UInt8) (day : Int) (l : List Rqt) (hl : l.length ≤ 1000000) (h : chkHeld ca day l ≠ 0) : Fc E n_priority_Newcomer [S ca, I day, LQ l] (.tup [B false, I (chkHeld ca day l)]) := by
  refine g.fn code_priority_Newcomer rfl ?_
  have h1 := s_IsName g ca
  have h2 := s_pwithin g day 0 99999
  have h3 := s_eachQ g l hl
  have hp := s_pfirst3 g (if (!isNameB ca) = true then 8 else 0) (rng day 0 99999) (if 64 < l.length then 5 else 0)
  by_cases hz : firstI [if (!isNameB ca) = true then 8 else 0, rng day 0 99999, if 64 < l.length then 5 else 0] = 0
  · have hz' := hz
    rw [firstI_zero] at hz'
    have hn : isNameB ca = true := by
      have := hz' _ (List.mem_cons_self ..)
      cases hb : isNameB ca with
      | true => rfl
      | false => rw [hb] at this; cases this
    have hd : rng day 0 99999 = 0 := hz' _ (by simp)
    have hm : ¬ 64 < l.length := fun hm => by
      have := hz' (if 64 < l.length then 5 else 0) (by simp)
      rw [if_pos hm] at this; cases this
    have he : chkHeld ca day l = chkRqG [] l := by
      unfold chkHeld chkRqs
      rw [if_pos hn, if_neg hm, hd]
      simp only [firstI]
      split <;> simp_all
    rw [he] at h ⊢
    rw [hz, if_neg hm, hd, hn] at hp
    rw [hn] at h1
    rw [hd] at h2
    generalize chkRqG [] l = r at *
    repeat' ((conv => whnf); first
    | refine Br.tt ?_
    | refine Br.ff ?_
    | refine Need.w ?_
    | refine Wr.w ?_
    | refine Cmp.t ?_
    | refine Cmp.f ?_
    | refine Rem.w ?_
    | refine Quo.w ?_
    | refine PickV.now rfl ?_
    | refine Pick.now rfl ?_
    | refine Chk.mk rfl ?_
    | refine PickW.w rfl ?_
      | (apply CallI.of; assumption)
      | (refine CallI.of (s_pwhen g _ _) ?_)
      | (refine CallI.of (s_pfirst3 g _ _ _) ?_)
      | (refine Cmp.tt h ?_)
      | (refine Ret.mk rfl))
  · have he : chkHeld ca day l = firstI [if (!isNameB ca) = true then 8 else 0, rng day 0 99999, if 64 < l.length then 5 else 0] := by
      unfold chkHeld
      cases hb : isNameB ca with
      | false => rfl
      | true =>
        rw [hb] at hz
        unfold chkRqs
        by_cases hm : 64 < l.length
        · simp [if_pos hm, firstI]
        · have hr : rng day 0 99999 ≠ 0 := fun e => hz (by rw [e, if_neg hm]; rfl)
          simp [firstI, hr]
    rw [he]
    clear h he
    by_cases hm : 64 < l.length
    · rw [if_pos hm] at hz hp ⊢
      generalize rng day 0 99999 = y at *
      generalize isNameB ca = b at *
      generalize firstI [if (!b) = true then 8 else 0, y, 5] = r at *
      repeat' ((conv => whnf); first
      | refine Br.tt ?_
      | refine Br.ff ?_
      | refine Need.w ?_
      | refine Wr.w ?_
      | refine Cmp.t ?_
      | refine Cmp.f ?_
      | refine Rem.w ?_
      | refine Quo.w ?_
      | refine PickV.now rfl ?_
      | refine Pick.now rfl ?_
      | refine Chk.mk rfl ?_
      | refine PickW.w rfl ?_
        | (apply CallI.of; assumption)
        | (refine CallI.of (s_pwhen g _ _) ?_)
        | (refine Cmp.tt hz ?_)
        | (refine Ret.mk rfl))
    · rw [if_neg hm] at hz hp ⊢
      generalize rng day 0 99999 = y at *
      generalize isNameB ca = b at *
      generalize firstI [if (!b) = true then 8 else 0, y, 0] = r at *
      repeat' ((conv => whnf); first
      | refine Br.tt ?_
      | refine Br.ff ?_
      | refine Need.w ?_
      | refine Wr.w ?_
      | refine Cmp.t ?_
      | refine Cmp.f ?_
      | refine Rem.w ?_
      | refine Quo.w ?_
      | refine PickV.now rfl ?_
      | refine Pick.now rfl ?_
      | refine Chk.mk rfl ?_
      | refine PickW.w rfl ?_
        | (apply CallI.of; assumption)
        | (refine CallI.of (s_pwhen g _ _) ?_)
        | (refine Cmp.tt hz ?_)
        | (refine Ret.mk rfl))
end
end Go.Proofs.YtknmjcikgegghaaGreatDoor.Co
