
/-
  TopBeaconMasks returns true, for every two periods and every mask.
-/
import Derived.Test.YtddpjjaebkaggabGreatDoorFit
import Derived.Test.YtddpjjaebkaggabGreatDoorPlMask
import Derived.Test.YtddpjjaebkaggabGreatDoorAwT
namespace Go.Proofs.YtddpjjaebkaggabGreatDoor.Co
open Go Go.Evl
set_option maxRecDepth 100000
abbrev tpM (f t d f2 t2 d2 : Int) : Mem := [(⟨0, 3, 0⟩, .cells ty_api_Period [I f, I t, I d]), (⟨0, 4, 0⟩, .cells ty_api_Period [I f2, I t2, I d2])]
abbrev rwL (all : List Int) : Evl.Ob := .row false ty_int 1 all.length (all.map DI)
abbrev tpR (f t d f2 t2 d2 : Int) (all : List Int) (rn : Nat) (rc : List D) : Mem := [(⟨0, 3, 0⟩, .cells ty_api_Period [I f, I t, I d]), (⟨0, 4, 0⟩, .cells ty_api_Period [I f2, I t2, I d2]), (⟨0, 13, 0⟩, rwL all), (⟨0, 130, 0⟩, .row false ty_int 1 rn rc)]
section
variable {E : Oracle} (g : Good E)
include g
theorem r_HasIntB (l : List Int) (n : Int) (hl : l.length ≤ 140737488355328) : Fc E n_ref01_HasInt [LI l, I n] (B (decide (n ∈ l))) := by
  refine g.fn code_ref01_HasInt rfl ?_
  by_cases h : n ∈ l
  · rw [decide_eq_true h]
    conv => whnf
    refine LoopW.upP g (fun k => [(0, LI l), (1, I n), (5, I k)]) (fun _ => []) (fun k => ∀ i, i < k → l.getD i 0 ≠ n) l.length (fun k hk hp ih => ?_) 0 (Nat.zero_le _) (fun i hi => by omega)
    by_cases hlt : k < l.length
    · by_cases e : l.getD k 0 = n
      · repeat' ((conv => whnf); first
      | refine Br.tt ?_
      | refine Br.ff ?_
      | refine Need.w ?_
      | refine Wr.w ?_
      | refine Cmp.t ?_
      | refine Cmp.f ?_
      | refine Rem.w ?_
      | refine Quo.w ?_
      | refine PickV.now rfl ?_
      | refine Pick.now rfl ?_
      | refine Chk.mk rfl ?_
      | refine PickW.w rfl ?_
          | (refine Pick.at k (by omega) hlt ?_)
          | (refine Cmp.tt e ?_)
          | (refine Ret.mk rfl))
      · repeat' ((conv => whnf); first
      | refine Br.tt ?_
      | refine Br.ff ?_
      | refine Need.w ?_
      | refine Wr.w ?_
      | refine Cmp.t ?_
      | refine Cmp.f ?_
      | refine Rem.w ?_
      | refine Quo.w ?_
      | refine PickV.now rfl ?_
      | refine Pick.now rfl ?_
      | refine Chk.mk rfl ?_
      | refine PickW.w rfl ?_
          | (refine Pick.at k (by omega) hlt ?_)
          | (refine Cmp.ff e ?_)
          | (refine LoopW.to (ih hlt ?_) ?_ rfl))
        · intro i hi
          by_cases e2 : i = k
          · subst e2; exact e
          · exact hp i (by omega)
        · rfl
    · exfalso
      obtain ⟨i, hi, e⟩ := List.mem_iff_getElem.1 h
      exact hp i (by omega) (by rw [List.getD, List.getElem?_eq_getElem hi]; exact e)
  · rw [decide_eq_false h]
    conv => whnf
    refine LoopW.up g (fun k => [(0, LI l), (1, I n), (5, I k)]) (fun _ => []) l.length (fun k hk ih => ?_) 0 (Nat.zero_le _)
    by_cases hlt : k < l.length
    · have e : l.getD k 0 ≠ n := fun e => h (by rw [← e, List.getD, List.getElem?_eq_getElem hlt]; exact List.getElem_mem hlt)
      repeat' ((conv => whnf); first
      | refine Br.tt ?_
      | refine Br.ff ?_
      | refine Need.w ?_
      | refine Wr.w ?_
      | refine Cmp.t ?_
      | refine Cmp.f ?_
      | refine Rem.w ?_
      | refine Quo.w ?_
      | refine PickV.now rfl ?_
      | refine Pick.now rfl ?_
      | refine Chk.mk rfl ?_
      | refine PickW.w rfl ?_
        | (refine Pick.at k (by omega) hlt ?_)
        | (refine Cmp.ff e ?_)
        | (refine LoopW.to (ih hlt) rfl rfl))
    · repeat' ((conv => whnf); first
    | refine Br.tt ?_
    | refine Br.ff ?_
    | refine Need.w ?_
    | refine Wr.w ?_
    | refine Cmp.t ?_
    | refine Cmp.f ?_
    | refine Rem.w ?_
    | refine Quo.w ?_
    | refine PickV.now rfl ?_
    | refine Pick.now rfl ?_
    | refine Chk.mk rfl ?_
    | refine PickW.w rfl ?_
        | (refine Ret.mk rfl))
theorem masks_all {f t d f2 t2 d2 mask lo hi : Int} {x y m : List Int} {p : Int → Bool} (h0 : 0 ≤ lo ∧ lo ≤ hi ∧ hi ≤ 99999) (hx : x.length ≤ 1000) (hy : y.length ≤ 1000) (hp : ∀ day, lo ≤ day → day ≤ hi → p day = (decide (day ∈ x) || decide (day ∈ y))) (K : Ex → Env → Mem → Prop)
    (hk : ∀ all, all = filL p lo (hi - lo + 1).toNat → K (.exit 0) [(2, .d (.int .u8 mask)), (3, .ptr ⟨0, 3, 0⟩ 0 0), (7, LI x), (9, LI y), (11, LI m), (13, .ref ⟨0, 13, 0⟩ 0 all.length all.length), (15, I hi), (16, I (lo + ((hi - lo + 1).toNat : Int))), (114, B false)] [(⟨0, 3, 0⟩, .cells ty_api_Period [I f, I t, I d]), (⟨0, 4, 0⟩, .cells ty_api_Period [I f2, I t2, I d2]), (⟨0, 13, 0⟩, rwL all)]) :
    LoopW E ⟨0, 1⟩ [2, 3, 7, 9, 11, 13, 15, 16] [⟨0, 3, 0⟩, ⟨0, 4, 0⟩, ⟨0, 13, 0⟩] b_top_TopBeaconMasks_1 [(2, .d (.int .u8 mask)), (3, .ptr ⟨0, 3, 0⟩ 0 0), (7, LI x), (9, LI y), (11, LI m), (13, .ref ⟨0, 13, 0⟩ 0 0 0), (15, I hi), (16, I lo)]
      [(⟨0, 3, 0⟩, .cells ty_api_Period [I f, I t, I d]), (⟨0, 4, 0⟩, .cells ty_api_Period [I f2, I t2, I d2]), (⟨0, 13, 0⟩, .row false ty_int 1 0 [])] K := by
  refine LoopW.to (LoopW.up g (fun k => [(2, .d (.int .u8 mask)), (3, .ptr ⟨0, 3, 0⟩ 0 0), (7, LI x), (9, LI y), (11, LI m), (13, .ref ⟨0, 13, 0⟩ 0 (filL p lo k).length (filL p lo k).length), (15, I hi), (16, I (lo + k))])
    (fun k => [(⟨0, 3, 0⟩, .cells ty_api_Period [I f, I t, I d]), (⟨0, 4, 0⟩, .cells ty_api_Period [I f2, I t2, I d2]), (⟨0, 13, 0⟩, rwL (filL p lo k))]) (hi - lo + 1).toNat (fun k hk2 ih => ?_) 0 (Nat.zero_le _)) (by simp [filL]) (by simp [filL])
  have hfl := filL_length p lo k
  by_cases hlt : k < (hi - lo + 1).toNat
  · have hs : filL p lo (k + 1) = filL p lo k ++ (if p (lo + k) then [lo + (k : Int)] else []) := rfl
    have hpd := hp (lo + k) (by omega) (by omega)
    have c1 := r_HasIntB g x (lo + k) (by omega)
    have c2 := r_HasIntB g y (lo + k) (by omega)
    rw [hs] at ih
    rw [hpd] at ih
    generalize filL p lo k = l at *
    generalize decide (lo + (k : Int) ∈ x) = b1 at *
    generalize decide (lo + (k : Int) ∈ y) = b2 at *
    cases b1 <;> cases b2
    all_goals (repeat' ((conv => whnf); first
    | refine Br.tt ?_
    | refine Br.ff ?_
    | refine Need.w ?_
    | refine Wr.w ?_
    | refine Cmp.t ?_
    | refine Cmp.f ?_
    | refine Rem.w ?_
    | refine Quo.w ?_
    | refine PickV.now rfl ?_
    | refine Pick.now rfl ?_
    | refine Chk.mk rfl ?_
    | refine PickW.w rfl ?_
      | (apply CallI.of; assumption)
      | (refine LoopW.to (ih hlt) ?_ ?_)))
    all_goals simp
    all_goals omega
  · have e : k = (hi - lo + 1).toNat := by omega
    subst e
    have hk' := hk _ rfl
    repeat' ((conv => whnf); first
    | refine Br.tt ?_
    | refine Br.ff ?_
    | refine Need.w ?_
    | refine Wr.w ?_
    | refine Cmp.t ?_
    | refine Cmp.f ?_
    | refine Rem.w ?_
    | refine Quo.w ?_
    | refine PickV.now rfl ?_
    | refine Pick.now rfl ?_
    | refine Chk.mk rfl ?_
    | refine PickW.w rfl ?_
      | (exact hk'))
theorem masks_sum {f t d f2 t2 d2 mask : Int} {x y m all : List Int} {rn : Nat} {rc : List D} (hz : chkDays all = 0) (hal : all.length ≤ 512) (K : Ex → Env → Mem → Prop)
    (hk : K (.exit 2) [(2, .d (.int .u8 mask)), (3, .ptr ⟨0, 3, 0⟩ 0 0), (7, LI x), (9, LI y), (11, LI m), (19, I all.length), (145, LP (joinL all)), (146, I (joinL all).length), (147, I (joinL all).length), (148, B false)] (tpR f t d f2 t2 d2 all rn rc)) :
    LoopW E ⟨0, 1⟩ [2, 3, 7, 9, 11, 19, 145, 146, 147] [⟨0, 3, 0⟩, ⟨0, 4, 0⟩, ⟨0, 13, 0⟩, ⟨0, 130, 0⟩] b_top_TopBeaconMasks_2 [(2, .d (.int .u8 mask)), (3, .ptr ⟨0, 3, 0⟩ 0 0), (7, LI x), (9, LI y), (11, LI m), (19, I 0), (145, LP (joinL all)), (146, I (joinL all).length), (147, I 0)] (tpR f t d f2 t2 d2 all rn rc) K := by
  obtain ⟨b, hb0, hb1, hb2⟩ := cov_idx (join_cov (l := all))
  have hol := outs_length all all.length
  have hjl : (joinL all).length ≤ all.length := hol
  refine LoopW.to (LoopW.upP g (fun r => [(2, .d (.int .u8 mask)), (3, .ptr ⟨0, 3, 0⟩ 0 0), (7, LI x), (9, LI y), (11, LI m), (19, I (b r)), (145, LP (joinL all)), (146, I (joinL all).length), (147, I r)]) (fun _ => tpR f t d f2 t2 d2 all rn rc) (fun r => b r ≤ all.length) (joinL all).length (fun r hr hbr ih => ?_) 0 (Nat.zero_le _) (by omega)) (by simp [hb0]) rfl
  by_cases hlt : r < (joinL all).length
  · obtain ⟨hbr2, w, ho⟩ := hb2 r hlt
    obtain ⟨u, hu1, hu2, _, _, _⟩ := cov_seg hz hbr2 ho
    have dq := s_DaysOf_ok g _ _ _ (open_chk hz ho)
    rw [hu1] at dq
    have cq := s_Count g _ _ _ _ _ dq
    have hlo := ho.lt
    repeat' ((conv => whnf); first
    | refine Br.tt ?_
    | refine Br.ff ?_
    | refine Need.w ?_
    | refine Wr.w ?_
    | refine Cmp.t ?_
    | refine Cmp.f ?_
    | refine Rem.w ?_
    | refine Quo.w ?_
    | refine PickV.now rfl ?_
    | refine Pick.now rfl ?_
    | refine Chk.mk rfl ?_
    | refine PickW.w rfl ?_
      | (apply CallI.of; assumption)
      | (refine PickW.rec cellP_len r (by omega) hlt ?_)
      | (refine LoopW.to (ih hlt (by omega)) ?_ rfl))
    simp
    omega
  · have e : r = (joinL all).length := by omega
    subst e
    rw [hb1]
    repeat' ((conv => whnf); first
    | refine Br.tt ?_
    | refine Br.ff ?_
    | refine Need.w ?_
    | refine Wr.w ?_
    | refine Cmp.t ?_
    | refine Cmp.f ?_
    | refine Rem.w ?_
    | refine Quo.w ?_
    | refine PickV.now rfl ?_
    | refine Pick.now rfl ?_
    | refine Chk.mk rfl ?_
    | refine PickW.w rfl ?_
      | (exact hk))
theorem masks_three {f t d f2 t2 d2 o u n : Int} {x all : List Int} {rn : Nat} {rc : List D} (hf : 0 ≤ f ∧ f ≤ t ∧ t ≤ 99999 ∧ t - f ≤ 60) (ho : 1 ≤ o ∧ o ≤ 127) (hu : 1 ≤ u ∧ u ≤ 127) (hn : 0 ≤ n ∧ n ≤ 127) (K : Ex → Env → Mem → Prop)
    (hk : K (.exit 4) [(3, .ptr ⟨0, 3, 0⟩ 0 0), (7, LI x), (25, .ptr ⟨0, 25, 0⟩ 0 0), (186, LI [o, u, n]), (187, I 3), (188, I 3), (189, B false)] (tpR f t d f2 t2 d2 all rn rc ++ [(⟨0, 25, 0⟩, .cells ty_3_int [I (daysP f o (t - f + 1).toNat).length, I (daysP f u (t - f + 1).toNat).length, I (daysP f n (t - f + 1).toNat).length])])) :
    LoopW E ⟨0, 1⟩ [3, 7, 25, 186, 187, 188] [⟨0, 3, 0⟩, ⟨0, 4, 0⟩, ⟨0, 13, 0⟩, ⟨0, 130, 0⟩, ⟨0, 25, 0⟩] b_top_TopBeaconMasks_3 [(3, .ptr ⟨0, 3, 0⟩ 0 0), (7, LI x), (25, .ptr ⟨0, 25, 0⟩ 0 0), (186, LI [o, u, n]), (187, I 3), (188, I 0)] (tpR f t d f2 t2 d2 all rn rc ++ [(⟨0, 25, 0⟩, .cells ty_3_int [I 0, I 0, I 0])]) K := by
  have c1 := s_Count g _ _ _ _ _ (s_DaysOf_ok g f t o (chkPer_zero.2 (by omega)))
  have c2 := s_Count g _ _ _ _ _ (s_DaysOf_ok g f t u (chkPer_zero.2 (by omega)))
  by_cases h0 : n = 0
  · subst h0
    rw [no_mask] at hk
    generalize (daysP f o (t - f + 1).toNat).length = k1 at *
    generalize (daysP f u (t - f + 1).toNat).length = k2 at *
    repeat' ((conv => whnf); first
    | refine Br.tt ?_
    | refine Br.ff ?_
    | refine Need.w ?_
    | refine Wr.w ?_
    | refine Cmp.t ?_
    | refine Cmp.f ?_
    | refine Rem.w ?_
    | refine Quo.w ?_
    | refine PickV.now rfl ?_
    | refine Pick.now rfl ?_
    | refine Chk.mk rfl ?_
    | refine PickW.w rfl ?_
      | (apply CallI.of; assumption)
      | (exact hk)
      | (refine LoopW.step g.lim ?_))
  · have c3 := s_Count g _ _ _ _ _ (s_DaysOf_ok g f t n (chkPer_zero.2 (by omega)))
    generalize (daysP f o (t - f + 1).toNat).length = k1 at *
    generalize (daysP f u (t - f + 1).toNat).length = k2 at *
    generalize (daysP f n (t - f + 1).toNat).length = k3 at *
    repeat' ((conv => whnf); first
    | refine Br.tt ?_
    | refine Br.ff ?_
    | refine Need.w ?_
    | refine Wr.w ?_
    | refine Cmp.t ?_
    | refine Cmp.f ?_
    | refine Rem.w ?_
    | refine Quo.w ?_
    | refine PickV.now rfl ?_
    | refine Pick.now rfl ?_
    | refine Chk.mk rfl ?_
    | refine PickW.w rfl ?_
      | (apply CallI.of; assumption)
      | (exact hk)
      | (refine LoopW.step g.lim ?_))
theorem masks_week {f t d f2 t2 d2 s1 s2 s3 : Int} {all : List Int} {rn : Nat} {rc : List D} (hf : 0 ≤ f ∧ f ≤ 99993) (K : Ex → Env → Mem → Prop)
    (hk : K (.exit 6) [(3, .ptr ⟨0, 3, 0⟩ 0 0), (227, I 7), (228, B false)] (tpR f t d f2 t2 d2 all rn rc ++ [(⟨0, 25, 0⟩, .cells ty_3_int [I s1, I s2, I s3])])) :
    LoopW E ⟨0, 1⟩ [3, 227] [⟨0, 3, 0⟩, ⟨0, 4, 0⟩, ⟨0, 13, 0⟩, ⟨0, 130, 0⟩, ⟨0, 25, 0⟩] b_top_TopBeaconMasks_4 [(3, .ptr ⟨0, 3, 0⟩ 0 0), (227, I 0)] (tpR f t d f2 t2 d2 all rn rc ++ [(⟨0, 25, 0⟩, .cells ty_3_int [I s1, I s2, I s3])]) K := by
  have hc : ∀ w : Nat, w < 7 → ∀ m : Int, m = 2 ^ w → Fc E n_calendar_Count [Per f (f + 6) m] (.tup [I 1, I 0]) := by
    intro w hw m hm
    have h1 : 1 ≤ m ∧ m ≤ 127 := by
      subst hm
      match w, hw with
      | 0, _ => decide
      | 1, _ => decide
      | 2, _ => decide
      | 3, _ => decide
      | 4, _ => decide
      | 5, _ => decide
      | 6, _ => decide
    have h2 := s_Count g _ _ _ _ _ (s_DaysOf_ok g f (f + 6) m (chkPer_zero.2 (by omega)))
    have h3 := week_once f w hw
    rw [← hm] at h3
    rw [show (f + 6 - f + 1).toNat = 7 by omega, h3] at h2
    exact h2
  refine LoopW.to (LoopW.up g (fun k => [(3, .ptr ⟨0, 3, 0⟩ 0 0), (227, I k)]) (fun _ => (tpR f t d f2 t2 d2 all rn rc ++ [(⟨0, 25, 0⟩, .cells ty_3_int [I s1, I s2, I s3])])) 7 (fun k hk2 ih => ?_) 0 (by decide)) rfl rfl
  by_cases hlt : k < 7
  · have hm : (1 * 2 ^ (min (k : Int).toNat IntKind.i64.bits) : Int) = 2 ^ k := by
      rw [Int.toNat_natCast, show IntKind.i64.bits = 64 from rfl, Nat.min_eq_left (by omega)]; omega
    have hb : (2 : Int) ^ k ≤ 64 := by
      match k, hlt with
      | 0, _ => decide
      | 1, _ => decide
      | 2, _ => decide
      | 3, _ => decide
      | 4, _ => decide
      | 5, _ => decide
      | 6, _ => decide
    have hb0 : (0 : Int) < 2 ^ k := Int.pow_pos (by decide)
    have hck := hc k hlt _ hm
    repeat' ((conv => whnf); first
    | refine Br.tt ?_
    | refine Br.ff ?_
    | refine Need.w ?_
    | refine Wr.w ?_
    | refine Cmp.t ?_
    | refine Cmp.f ?_
    | refine Rem.w ?_
    | refine Quo.w ?_
    | refine PickV.now rfl ?_
    | refine Pick.now rfl ?_
    | refine Chk.mk rfl ?_
    | refine PickW.w rfl ?_
      | (refine Wr.keep (by rw [hm]; omega) ?_)
      | (apply CallI.of; assumption)
      | (refine LoopW.to (ih hlt) ?_ rfl))
    simp
  · have e : k = 7 := by omega
    subst e
    repeat' ((conv => whnf); first
    | refine Br.tt ?_
    | refine Br.ff ?_
    | refine Need.w ?_
    | refine Wr.w ?_
    | refine Cmp.t ?_
    | refine Cmp.f ?_
    | refine Rem.w ?_
    | refine Quo.w ?_
    | refine PickV.now rfl ?_
    | refine Pick.now rfl ?_
    | refine Chk.mk rfl ?_
    | refine PickW.w rfl ?_
      | (exact hk))
set_option maxHeartbeats 8000000 in
theorem w_TopBeaconMasks (f t d f2 t2 d2 mask : Int) (hmask : 0 ≤ mask ∧ mask ≤ 255) : Fc E n_top_TopBeaconMasks [Per f t d, Per f2 t2 d2, .d (.int .u8 mask)] (B true) := by
  have bd := s_beacon g
  have ca := r_CheckPeriod g f t d
  have cb := r_CheckPeriod g f2 t2 d2
  refine g.fn code_top_TopBeaconMasks rfl ?_
  by_cases h0 : chkPer f t d = 0 ∧ chkPer f2 t2 d2 = 0 ∧ t - f ≤ 60 ∧ t2 - f2 ≤ 60
  · obtain ⟨z1, z2, h3, h4⟩ := h0
    have p1 := chkPer_zero.1 z1
    have p2 := chkPer_zero.1 z2
    rw [z1] at ca
    rw [z2] at cb
    have dx := s_DaysOf_ok g f t d z1
    have dy := s_DaysOf_ok g f2 t2 d2 z2
    have dm := s_Meet_ok g f t d f2 t2 d2 z1 z2
    have lx := daysP_length f d (t - f + 1).toNat
    have hdx : (filL (hasB f t d) f (t - f + 1).toNat).length = (daysP f d (t - f + 1).toNat).length := by rw [days_in (by omega)]
    have ly := daysP_length f2 d2 (t2 - f2 + 1).toNat
    have lm := meetP_length (hasB f2 t2 d2) f d (t - f + 1).toNat
    have mx : ∀ z, z ∈ daysP f d (t - f + 1).toNat ↔ hasB f t d z = true := fun z => mem_days (by omega)
    have my : ∀ z, z ∈ daysP f2 d2 (t2 - f2 + 1).toNat ↔ hasB f2 t2 d2 z = true := fun z => mem_days (by omega)
    have bc := fun lo hi h h' => @both_count f t d f2 t2 d2 lo hi h h'
    have fm := @far_meet f t d f2 t2 d2
    obtain ⟨lo, hlo⟩ : ∃ lo, lo = if f2 < f then f2 else f := ⟨_, rfl⟩
    obtain ⟨hi, hhi⟩ : ∃ hi, hi = if t2 > t then t2 else t := ⟨_, rfl⟩
    have hlo2 : lo ≤ f ∧ lo ≤ f2 ∧ (lo = f ∨ lo = f2) := by rw [hlo]; split <;> omega
    have hhi2 : t ≤ hi ∧ t2 ≤ hi ∧ (hi = t ∨ hi = t2) := by rw [hhi]; split <;> omega
    -- the counts by masks
    obtain ⟨o, hoo⟩ : ∃ o, o = 1 + mask % 127 := ⟨_, rfl⟩
    have ho : 1 ≤ o ∧ o ≤ 127 := by omega
    obtain ⟨hor, hand⟩ := or_mask (show 0 ≤ d ∧ d ≤ 127 by omega) (show 0 ≤ o ∧ o ≤ 127 by omega)
    have mc := masks_count (show 0 ≤ d ∧ d ≤ 127 by omega) (show 0 ≤ o ∧ o ≤ 127 by omega) f (t - f + 1).toNat
    have hu : (1 : Int) ≤ ((d.toNat ||| o.toNat : Nat) : Int) ∧ ((d.toNat ||| o.toNat : Nat) : Int) ≤ 127 := by
      have h1 : d.toNat ||| o.toNat < 2 ^ 7 := Nat.or_lt_two_pow (by omega) (by omega)
      have h2 : o.toNat ≤ d.toNat ||| o.toNat := Nat.right_le_or
      omega
    have hn : (0 : Int) ≤ ((d.toNat &&& o.toNat : Nat) : Int) ∧ ((d.toNat &&& o.toNat : Nat) : Int) ≤ 127 := by
      have h1 : d.toNat &&& o.toNat < 2 ^ 7 := Nat.and_lt_two_pow _ (by omega)
      omega
    have l3 := fun K all rn rc => @masks_three E g f t d f2 t2 d2 o _ _ (daysP f d (t - f + 1).toNat) all rn rc (by omega) ho hu hn K
    have hjoin : ∀ all : List Int, chkDays all = 0 → ∀ {n : Nat} {cs : List D}, n = all.length → cs = all.map DI → Fc E n_calendar_Join [.d (.list n cs)] (.tup [LP (joinL all), I 0]) := by
      rintro all hz _ _ rfl rfl; exact s_Join_ok g all hz
    have lo1 := daysP_length f o (t - f + 1).toNat
    have lo2 := daysP_length f ((d.toNat ||| o.toNat : Nat) : Int) (t - f + 1).toNat
    have lo3 := daysP_length f ((d.toNat &&& o.toNat : Nat) : Int) (t - f + 1).toNat
    have hjl : ∀ all : List Int, (joinL all).length ≤ all.length := fun all => outs_length all all.length
    generalize daysP f d (t - f + 1).toNat = x at *
    generalize daysP f2 d2 (t2 - f2 + 1).toNat = y at *
    generalize meetP (hasB f2 t2 d2) f d (t - f + 1).toNat = m at *
    generalize ((d.toNat ||| o.toNat : Nat) : Int) = u at *
    generalize ((d.toNat &&& o.toNat : Nat) : Int) = n at *
    -- the days of both, or of the first one alone
    have hall : ∃ (Y : List Int) (p : Int → Bool) (L H : Int), (0 ≤ L ∧ L ≤ H ∧ H ≤ 99999 ∧ H - L ≤ 200) ∧ Y.length ≤ 1000 ∧ (∀ day, L ≤ day → day ≤ H → p day = (decide (day ∈ x) || decide (day ∈ Y))) ∧ (filL p L (H - L + 1).toNat).length + m.length = x.length + Y.length ∧
        ((hi - lo ≤ 200 ∧ Y = y ∧ L = lo ∧ H = hi) ∨ (200 < hi - lo ∧ m.length = 0 ∧ Y = [] ∧ L = f ∧ H = t)) := by
      by_cases hfar : 200 < hi - lo
      · have hm0 : m = [] := fm (by omega)
        refine ⟨[], hasB f t d, f, t, by omega, by simp, fun day _ _ => ?_, ?_, .inr ⟨hfar, by simp [hm0], rfl, rfl, rfl⟩⟩
        · have := mx day
          by_cases e : hasB f t d day = true
          · rw [e, decide_eq_true (this.2 e)]; rfl
          · rw [Bool.eq_false_iff.2 e, decide_eq_false (mt this.1 e)]; simp
        · rw [hdx, hm0]
      · refine ⟨y, fun z => hasB f t d z || hasB f2 t2 d2 z, lo, hi, by omega, by omega, fun day _ _ => ?_, bc lo hi (by omega) (by omega), .inl ⟨by omega, rfl, rfl, rfl⟩⟩
        have k1 := mx day
        have k2 := my day
        show (hasB f t d day || hasB f2 t2 d2 day) = _
        congr 1
        · by_cases e : hasB f t d day = true
          · rw [e, decide_eq_true (k1.2 e)]
          · rw [Bool.eq_false_iff.2 e, decide_eq_false (mt k1.1 e)]
        · by_cases e : hasB f2 t2 d2 day = true
          · rw [e, decide_eq_true (k2.2 e)]
          · rw [Bool.eq_false_iff.2 e, decide_eq_false (mt k2.1 e)]
    obtain ⟨Y, p, L, H, q1, q2, q3, q4, q5⟩ := hall
    clear bc fm mx my hdx
    have hfc : chkDays (filL p L (H - L + 1).toNat) = 0 := filL_chk (by omega) (by omega)
    have hfl := filL_length p L (H - L + 1).toNat
    rcases q5 with ⟨hfar, rfl, rfl, rfl⟩ | ⟨hfar, hm0, rfl, rfl, rfl⟩
    all_goals subst hlo hhi hoo
    all_goals (repeat' ((conv => whnf); first
    | refine Br.tt ?_
    | refine Br.ff ?_
    | refine Need.w ?_
    | refine Wr.w ?_
    | refine Cmp.t ?_
    | refine Cmp.f ?_
    | refine Rem.w ?_
    | refine Quo.w ?_
    | refine PickV.now rfl ?_
    | refine Pick.now rfl ?_
    | refine Chk.mk rfl ?_
    | refine PickW.w rfl ?_
      | (apply CallI.of; assumption)
      | (refine Cmp.tt (by simp only [List.length_cons, List.length_nil]; omega) ?_)
      | (refine Cmp.ff (by simp only [List.length_cons, List.length_nil]; omega) ?_)
      | (refine masks_all g ⟨q1.1, q1.2.1, q1.2.2.1⟩ (by omega) q2 q3 _ (fun all hal => ?_))))
    all_goals subst hal
    all_goals generalize filL p _ _ = all at *
    all_goals have hj2 := hjl all
    all_goals (repeat' ((conv => whnf); first
    | refine Br.tt ?_
    | refine Br.ff ?_
    | refine Need.w ?_
    | refine Wr.w ?_
    | refine Cmp.t ?_
    | refine Cmp.f ?_
    | refine Rem.w ?_
    | refine Quo.w ?_
    | refine PickV.now rfl ?_
    | refine Pick.now rfl ?_
    | refine Chk.mk rfl ?_
    | refine PickW.w rfl ?_
      | (apply CallI.of; assumption)
      | (refine Cmp.tt (by simp only [List.length_cons, List.length_nil]; omega) ?_)
      | (refine Cmp.ff (by simp only [List.length_cons, List.length_nil]; omega) ?_)
      | (refine CallI.of (hjoin all hfc (by omega) (by simp)) ?_)
      | (refine masks_sum g hfc (by omega) _ ?_)
      | (refine l3 _ all _ _ ?_)
      | (refine masks_week g (by omega) _ ?_)
      | (rw [hor])
      | (rw [hand])
      | (refine Cmp.mk (fun h => ?_) (fun h => ?_))
      | (refine Ret.mk rfl)))
  · have q1 := @chkPer_zero f t d
    have q2 := @chkPer_zero f2 t2 d2
    generalize chkPer f t d = e1 at *
    generalize chkPer f2 t2 d2 = e2 at *
    repeat' ((conv => whnf); first
    | refine Br.tt ?_
    | refine Br.ff ?_
    | refine Need.w ?_
    | refine Wr.w ?_
    | refine Cmp.t ?_
    | refine Cmp.f ?_
    | refine Rem.w ?_
    | refine Quo.w ?_
    | refine PickV.now rfl ?_
    | refine Pick.now rfl ?_
    | refine Chk.mk rfl ?_
    | refine PickW.w rfl ?_
      | (apply CallI.of; assumption)
      | (refine Cmp.mk (fun h => ?_) (fun h => ?_))
      | (refine Rem.any (by omega) (fun r hr he => ?_))
      | (refine Br.mk (fun h => ?_) (fun h => ?_))
      | (refine Wr.keep (by omega) ?_)
      | (refine Ret.mk rfl)
      | (exfalso; omega))
end
theorem s_TopBeaconMasks {E : Oracle} (g : Good E) {xs : List D} (h : fitArgs Tryz.prog [32, 32, 5] xs) : Fc E n_top_TopBeaconMasks (asV xs) (B true) := by
  obtain ⟨x, y, z, rfl, h1, h2, h3⟩ := args3 h
  obtain ⟨f, t, d, rfl, _⟩ := arg_Per h1
  obtain ⟨f2, t2, d2, rfl, _⟩ := arg_Per h2
  obtain ⟨c, rfl, hc⟩ := arg_i Tryz.underlying5 h3
  simp only [Lit.wf, Bool.and_eq_true, decide_eq_true_eq] at hc
  exact w_TopBeaconMasks g f t d f2 t2 d2 c hc
end Go.Proofs.YtddpjjaebkaggabGreatDoor.Co
