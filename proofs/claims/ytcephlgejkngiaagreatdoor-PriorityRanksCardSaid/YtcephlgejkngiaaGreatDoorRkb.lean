/-
  PriorityRanks returns true, for every argument: the law, and the last part of what it leans on.
-/
import Derived.Laws.RangeAny
import Derived.Lib.SplitLaws
import Derived.Test.YtcephlgejkngiaaGreatDoorEvE
import Derived.Test.YtcephlgejkngiaaGreatDoorEvX
import Derived.Test.YtcephlgejkngiaaGreatDoorGood
import Derived.Test.YtcephlgejkngiaaGreatDoorRead
import Derived.Test.YtcephlgejkngiaaGreatDoorRka
/-
 Priority: the order of a list by a share; by the program and by the reference.
-/
namespace Go.Proofs.YtcephlgejkngiaaGreatDoor.Co
open Go Go.Evl
set_option maxRecDepth 100000
abbrev LB (l : List Bool) : V := .d (.list l.length (l.map D.bool))
theorem Pick.boolI {l : List Bool} {i : Int} {K : D → Prop} (k : Nat) (hi : i = k) (h : k < l.length) (hk : K (.bool l[k])) : Pick (l.map D.bool) (i.toNat * 1) K := by
 subst hi
 refine ⟨⟨_, ?_, hk⟩⟩
 simp [h]
theorem Pick.boolI0 {l : List Bool} {i : Int} {K : D → Prop} (k : Nat) (hi : i = k) (h : k < l.length) (hk : K (.bool l[k])) : Pick (l.map D.bool) ((0 + i.toNat) * 1) K := by
 rw [Nat.zero_add]; exact Pick.boolI k hi h hk
def leftV (t : Bool) (o : Evl.Id) (A0 A : List Int) : V := if t = true then LI A else .ref o 0 A0.length A0.length
theorem take_map (l : List Int) : List.take l.length (l.map DI) = l.map DI := List.take_of_length_le (by simp)
theorem patchB (l : List Bool) (i : Nat) (v : Bool) (h : i < l.length) : patch (l.map D.bool) i [D.bool v] = (l.set i v).map D.bool := by
 unfold patch
 rw [List.set_eq_take_append_cons_drop, if_pos h]
 simp
theorem rem_val {l T : List Bool} {v : Bool} {k : Nat} {x : Int} (h : x ∈ remG v k (l.drop k) (T.drop k)) : ∃ p : Nat, x = p ∧ p < l.length ∧ l.getD x.toNat false = v := by
 obtain ⟨i, rfl, h1, _⟩ := remG_mem h
 rw [List.getElem?_drop] at h1
 refine ⟨k + i, rfl, (List.getElem?_eq_some_iff.1 h1).1, ?_⟩
 rw [Int.toNat_natCast, List.getD, h1]
 rfl
theorem best_val (l T : List Bool) (w : Bool) (k : Nat) : bestQ (remG w k (l.drop k) (T.drop k)) (remG (!w) k (l.drop k) (T.drop k)) = -1 ∨ ∃ p : Nat, bestQ (remG w k (l.drop k) (T.drop k)) (remG (!w) k (l.drop k) (T.drop k)) = p ∧ p < l.length := by
 cases h : remG w k (l.drop k) (T.drop k) with
 | cons x r =>
  obtain ⟨p, h1, h2, _⟩ := rem_val (l := l) (T := T) (k := k) (v := w) (x := x) (by rw [h]; simp)
  exact .inr ⟨p, h1, h2⟩
 | nil =>
  cases h' : remG (!w) k (l.drop k) (T.drop k) with
  | cons x r =>
   obtain ⟨p, h1, h2, _⟩ := rem_val (l := l) (T := T) (k := k) (v := !w) (x := x) (by rw [h']; simp)
   exact .inr ⟨p, h1, h2⟩
  | nil => exact .inl rfl
structure ShR where
 i : Nat
 T : List Bool
 out : List Int
structure ShS where
 i : Nat
 (A C : List Int)
 (ta tc : Bool)
 out : List Int
section
variable {E : Oracle} (g : Good E)
include g
set_option maxHeartbeats 32000000 in
theorem s_interleaved (m fo : Int) (l : List Bool) (hm : 1 ≤ m ∧ m ≤ 100) (hl : l.length ≤ 64) : Fc E n_priority_interleaved [I m, I fo, LB l] (LI (shrL m fo l)) := by
 refine g.fn code_priority_interleaved rfl ?_
 have b0 : Fc E n_priority_bit [B false] (I 0) := s_pbit g false
 have b1 : Fc E n_priority_bit [B true] (I 1) := s_pbit g true
 have hAC := selG_length 0 l
 unfold shrL
 repeat' ((conv => whnf); first
 | refine Ya ?_ | refine Yb ?_ | refine Yc ?_ | refine Yd ?_ | refine Ye ?_ | refine Yf ?_ | refine Yg ?_ | refine Yh ?_ | refine Yi rfl ?_ | refine Yj rfl ?_ | refine Yk rfl ?_ | refine Yl rfl ?_)
 refine LoopW.to (LoopW.up g (fun k => [(0, I m), (1, I fo), (2, LB l), (7, .ptr ⟨0, 7, 2⟩ 0 0), (13, LB l), (14, I l.length), (15, I k)])
  (fun k => [(⟨0, 6, 0⟩, .row false ty_int 1 0 []), (⟨0, 7, 0⟩, .row false ty_int 1 (selG true 0 (l.take k)).length ((selG true 0 (l.take k)).map DI)), (⟨0, 7, 1⟩, .row false ty_int 1 (selG false 0 (l.take k)).length ((selG false 0 (l.take k)).map DI)), (⟨0, 7, 2⟩, .cells ty_2_Lint [.ref ⟨0, 7, 0⟩ 0 (selG true 0 (l.take k)).length (selG true 0 (l.take k)).length, .ref ⟨0, 7, 1⟩ 0 (selG false 0 (l.take k)).length (selG false 0 (l.take k)).length])])
  l.length (fun k hk ih => ?_) 0 (Nat.zero_le _)) rfl rfl
 have l1 := selG_le true 0 (l.take k)
 have l2 := selG_le false 0 (l.take k)
 have l3 : (l.take k).length = k := by simp; omega
 by_cases hlt : k < l.length
 ·have ih := ih hlt
  rw [selG_take true hlt, selG_take false hlt] at ih
  generalize hx : l[k] = x at *
  generalize selG true 0 (l.take k) = A at *
  generalize selG false 0 (l.take k) = C at *
  cases x
  ·simp only [reduceCtorEq, if_false, if_true, List.append_nil, List.length_append, List.length_cons, List.length_nil, List.map_append, List.map_cons, List.map_nil] at ih
   repeat' ((conv => whnf); first
   | refine Ya ?_ | refine Yb ?_ | refine Yc ?_ | refine Yd ?_ | refine Ye ?_ | refine Yf ?_ | refine Yg ?_ | refine Yh ?_ | refine Yi rfl ?_ | refine Yj rfl ?_ | refine Yk rfl ?_ | refine Yl rfl ?_
    | (refine Pick.boolI k rfl hlt ?_; rw [hx])
    | (apply CallI.of; assumption)
    | (refine Need.mk (by simp only [List.length_cons, List.length_nil, List.length_map]; omega) ?_)
    | (refine LoopW.to ih rfl rfl))
  ·simp only [reduceCtorEq, if_false, if_true, List.append_nil, List.length_append, List.length_cons, List.length_nil, List.map_append, List.map_cons, List.map_nil] at ih
   repeat' ((conv => whnf); first
   | refine Ya ?_ | refine Yb ?_ | refine Yc ?_ | refine Yd ?_ | refine Ye ?_ | refine Yf ?_ | refine Yg ?_ | refine Yh ?_ | refine Yi rfl ?_ | refine Yj rfl ?_ | refine Yk rfl ?_ | refine Yl rfl ?_
    | (refine Pick.boolI k rfl hlt ?_; rw [hx])
    | (apply CallI.of; assumption)
    | (refine Need.mk (by simp only [List.length_cons, List.length_nil, List.length_map]; omega) ?_)
    | (refine LoopW.to ih rfl rfl))
 ·have hk' : k = l.length := by omega
  subst hk'
  rw [List.take_length] at *
  generalize hA0 : selG true 0 l = A0 at *
  generalize hC0 : selG false 0 l = C0 at *
  generalize hR : shrG m fo l.length 0 A0 C0 = R
  repeat' ((conv => whnf); first
  | refine Ya ?_ | refine Yb ?_ | refine Yc ?_ | refine Yd ?_ | refine Ye ?_ | refine Yf ?_ | refine Yg ?_ | refine Yh ?_ | refine Yi rfl ?_ | refine Yj rfl ?_ | refine Yk rfl ?_ | refine Yl rfl ?_)
  refine LoopW.to (LoopW.by g (fun s : ShS => s.out ++ shrG m fo (l.length - s.i) s.i s.A s.C = R ∧ s.A.length + s.C.length + s.i = l.length ∧ s.out.length = s.i ∧ (s.ta = false → s.A = A0) ∧ (s.tc = false → s.C = C0))
   (fun s => [(0, I m), (1, I fo), (7, .ptr ⟨0, 7, 2⟩ 0 0), (10, .ref ⟨0, 10, 0⟩ 0 s.out.length s.out.length), (34, I l.length), (35, I s.i)])
   (fun s => [(⟨0, 6, 0⟩, .row false ty_int 1 0 []), (⟨0, 7, 0⟩, .row false ty_int 1 A0.length (A0.map DI)), (⟨0, 7, 1⟩, .row false ty_int 1 C0.length (C0.map DI)), (⟨0, 7, 2⟩, .cells ty_2_Lint [leftV s.ta ⟨0, 7, 0⟩ A0 s.A, leftV s.tc ⟨0, 7, 1⟩ C0 s.C]), (⟨0, 10, 0⟩, .row false ty_int 1 s.out.length (s.out.map DI))])
   (fun s => l.length - s.i) (fun s hs ih => ?_) ⟨0, A0, C0, false, false, []⟩ ⟨by simpa using hR, by simpa using hAC, rfl, fun _ => rfl, fun _ => rfl⟩) rfl rfl
  obtain ⟨i, A, C, ta, tc, out⟩ := s
  obtain ⟨h1, h2, h3, h4, h5⟩ := hs
  dsimp only at h1 h2 h3 h4 h5 ih ⊢
  by_cases hlt : i < l.length
  ·obtain ⟨x, A', C', hp⟩ := pickQ_some (w := decide ((i : Int) % m < fo)) (A := A) (C := C) (by omega)
   have hn : l.length - i = (l.length - (i + 1)) + 1 := by omega
   rw [hn, shrG, hp] at h1
   have hq := pickQ_len hp
   have ihn := ih ⟨i + 1, A', C', true, tc, out ++ [x]⟩
   have iho := ih ⟨i + 1, A', C', ta, true, out ++ [x]⟩
   dsimp only at ihn iho
   have hw := Int.emod_nonneg (i : Int) (show m ≠ 0 by omega)
   rcases pickQ_cases hp with ⟨rfl, rfl, hc⟩ | ⟨rfl, rfl, hc⟩
   ·have ihn := ihn ⟨by simpa using h1, by omega, by simp [h3], by simp, h5⟩ (by omega)
    simp only [List.length_append, List.length_cons, List.length_nil, List.map_append, List.map_cons, List.map_nil] at ihn
    cases ta
    ·have h4 := h4 rfl
     subst h4
     cases hwd : decide ((i : Int) % m < fo)
     ·have hwf := of_decide_eq_false hwd
      rw [hwd] at hc
      have hc : C' = [] := by simpa using hc
      subst hc
      cases tc
      ·have h5 := h5 rfl
       subst h5
       repeat' ((conv => whnf); first
       | refine Ya ?_ | refine Yb ?_ | refine Yc ?_ | refine Yd ?_ | refine Ye ?_ | refine Yf ?_ | refine Yg ?_ | refine Yh ?_ | refine Yi rfl ?_ | refine Yj rfl ?_ | refine Yk rfl ?_ | refine Yl rfl ?_
        | (apply CallI.of; assumption)
        | (refine Need.mk (by simp only [List.length_cons, List.length_nil, List.length_map]; omega) ?_)
        | (refine Bounds.at 1 (A'.length + 1) rfl rfl ⟨by omega, by simp⟩ ?_)
        | (refine LoopW.to ihn rfl ?_))
       simp [leftV, win, take_map]
      ·repeat' ((conv => whnf); first
      | refine Ya ?_ | refine Yb ?_ | refine Yc ?_ | refine Yd ?_ | refine Ye ?_ | refine Yf ?_ | refine Yg ?_ | refine Yh ?_ | refine Yi rfl ?_ | refine Yj rfl ?_ | refine Yk rfl ?_ | refine Yl rfl ?_
        | (apply CallI.of; assumption)
        | (refine Need.mk (by simp only [List.length_cons, List.length_nil, List.length_map]; omega) ?_)
        | (refine Bounds.at 1 (A'.length + 1) rfl rfl ⟨by omega, by simp⟩ ?_)
        | (refine LoopW.to ihn rfl ?_))
       simp [leftV, win, take_map]
     ·have hwf := of_decide_eq_true hwd
      cases tc
      ·have h5 := h5 rfl
       subst h5
       repeat' ((conv => whnf); first
       | refine Ya ?_ | refine Yb ?_ | refine Yc ?_ | refine Yd ?_ | refine Ye ?_ | refine Yf ?_ | refine Yg ?_ | refine Yh ?_ | refine Yi rfl ?_ | refine Yj rfl ?_ | refine Yk rfl ?_ | refine Yl rfl ?_
        | (apply CallI.of; assumption)
        | (refine Need.mk (by simp only [List.length_cons, List.length_nil, List.length_map]; omega) ?_)
        | (refine Bounds.at 1 (A'.length + 1) rfl rfl ⟨by omega, by simp⟩ ?_)
        | (refine LoopW.to ihn rfl ?_))
       simp [leftV, win, take_map]
      ·repeat' ((conv => whnf); first
      | refine Ya ?_ | refine Yb ?_ | refine Yc ?_ | refine Yd ?_ | refine Ye ?_ | refine Yf ?_ | refine Yg ?_ | refine Yh ?_ | refine Yi rfl ?_ | refine Yj rfl ?_ | refine Yk rfl ?_ | refine Yl rfl ?_
        | (apply CallI.of; assumption)
        | (refine Need.mk (by simp only [List.length_cons, List.length_nil, List.length_map]; omega) ?_)
        | (refine Bounds.at 1 (A'.length + 1) rfl rfl ⟨by omega, by simp⟩ ?_)
        | (refine LoopW.to ihn rfl ?_))
       simp [leftV, win, take_map]
    ·cases hwd : decide ((i : Int) % m < fo)
     ·have hwf := of_decide_eq_false hwd
      rw [hwd] at hc
      have hc : C' = [] := by simpa using hc
      subst hc
      cases tc
      ·have h5 := h5 rfl
       subst h5
       repeat' ((conv => whnf); first
       | refine Ya ?_ | refine Yb ?_ | refine Yc ?_ | refine Yd ?_ | refine Ye ?_ | refine Yf ?_ | refine Yg ?_ | refine Yh ?_ | refine Yi rfl ?_ | refine Yj rfl ?_ | refine Yk rfl ?_ | refine Yl rfl ?_
        | (apply CallI.of; assumption)
        | (refine Need.mk (by simp only [List.length_cons, List.length_nil, List.length_map]; omega) ?_)
        | (refine Bounds.at 1 (A'.length + 1) rfl rfl ⟨by omega, by simp⟩ ?_)
        | (refine LoopW.to ihn rfl ?_))
       simp [leftV, win, take_map]
      ·repeat' ((conv => whnf); first
      | refine Ya ?_ | refine Yb ?_ | refine Yc ?_ | refine Yd ?_ | refine Ye ?_ | refine Yf ?_ | refine Yg ?_ | refine Yh ?_ | refine Yi rfl ?_ | refine Yj rfl ?_ | refine Yk rfl ?_ | refine Yl rfl ?_
        | (apply CallI.of; assumption)
        | (refine Need.mk (by simp only [List.length_cons, List.length_nil, List.length_map]; omega) ?_)
        | (refine Bounds.at 1 (A'.length + 1) rfl rfl ⟨by omega, by simp⟩ ?_)
        | (refine LoopW.to ihn rfl ?_))
       simp [leftV, win, take_map]
     ·have hwf := of_decide_eq_true hwd
      cases tc
      ·have h5 := h5 rfl
       subst h5
       repeat' ((conv => whnf); first
       | refine Ya ?_ | refine Yb ?_ | refine Yc ?_ | refine Yd ?_ | refine Ye ?_ | refine Yf ?_ | refine Yg ?_ | refine Yh ?_ | refine Yi rfl ?_ | refine Yj rfl ?_ | refine Yk rfl ?_ | refine Yl rfl ?_
        | (apply CallI.of; assumption)
        | (refine Need.mk (by simp only [List.length_cons, List.length_nil, List.length_map]; omega) ?_)
        | (refine Bounds.at 1 (A'.length + 1) rfl rfl ⟨by omega, by simp⟩ ?_)
        | (refine LoopW.to ihn rfl ?_))
       simp [leftV, win, take_map]
      ·repeat' ((conv => whnf); first
      | refine Ya ?_ | refine Yb ?_ | refine Yc ?_ | refine Yd ?_ | refine Ye ?_ | refine Yf ?_ | refine Yg ?_ | refine Yh ?_ | refine Yi rfl ?_ | refine Yj rfl ?_ | refine Yk rfl ?_ | refine Yl rfl ?_
        | (apply CallI.of; assumption)
        | (refine Need.mk (by simp only [List.length_cons, List.length_nil, List.length_map]; omega) ?_)
        | (refine Bounds.at 1 (A'.length + 1) rfl rfl ⟨by omega, by simp⟩ ?_)
        | (refine LoopW.to ihn rfl ?_))
       simp [leftV, win, take_map]
   ·have iho := iho ⟨by simpa using h1, by omega, by simp [h3], h4, by simp⟩ (by omega)
    simp only [List.length_append, List.length_cons, List.length_nil, List.map_append, List.map_cons, List.map_nil] at iho
    cases tc
    ·have h5 := h5 rfl
     subst h5
     cases hwd : decide ((i : Int) % m < fo)
     ·have hwf := of_decide_eq_false hwd
      cases ta
      ·have h4 := h4 rfl
       subst h4
       repeat' ((conv => whnf); first
       | refine Ya ?_ | refine Yb ?_ | refine Yc ?_ | refine Yd ?_ | refine Ye ?_ | refine Yf ?_ | refine Yg ?_ | refine Yh ?_ | refine Yi rfl ?_ | refine Yj rfl ?_ | refine Yk rfl ?_ | refine Yl rfl ?_
        | (apply CallI.of; assumption)
        | (refine Need.mk (by simp only [List.length_cons, List.length_nil, List.length_map]; omega) ?_)
        | (refine Bounds.at 1 (C'.length + 1) rfl rfl ⟨by omega, by simp⟩ ?_)
        | (refine LoopW.to iho rfl ?_))
       simp [leftV, win, take_map]
      ·repeat' ((conv => whnf); first
      | refine Ya ?_ | refine Yb ?_ | refine Yc ?_ | refine Yd ?_ | refine Ye ?_ | refine Yf ?_ | refine Yg ?_ | refine Yh ?_ | refine Yi rfl ?_ | refine Yj rfl ?_ | refine Yk rfl ?_ | refine Yl rfl ?_
        | (apply CallI.of; assumption)
        | (refine Need.mk (by simp only [List.length_cons, List.length_nil, List.length_map]; omega) ?_)
        | (refine Bounds.at 1 (C'.length + 1) rfl rfl ⟨by omega, by simp⟩ ?_)
        | (refine LoopW.to iho rfl ?_))
       simp [leftV, win, take_map]
     ·have hwf := of_decide_eq_true hwd
      rw [hwd] at hc
      have hc : A' = [] := by simpa using hc
      subst hc
      cases ta
      ·have h4 := h4 rfl
       subst h4
       repeat' ((conv => whnf); first
       | refine Ya ?_ | refine Yb ?_ | refine Yc ?_ | refine Yd ?_ | refine Ye ?_ | refine Yf ?_ | refine Yg ?_ | refine Yh ?_ | refine Yi rfl ?_ | refine Yj rfl ?_ | refine Yk rfl ?_ | refine Yl rfl ?_
        | (apply CallI.of; assumption)
        | (refine Need.mk (by simp only [List.length_cons, List.length_nil, List.length_map]; omega) ?_)
        | (refine Bounds.at 1 (C'.length + 1) rfl rfl ⟨by omega, by simp⟩ ?_)
        | (refine LoopW.to iho rfl ?_))
       simp [leftV, win, take_map]
      ·repeat' ((conv => whnf); first
      | refine Ya ?_ | refine Yb ?_ | refine Yc ?_ | refine Yd ?_ | refine Ye ?_ | refine Yf ?_ | refine Yg ?_ | refine Yh ?_ | refine Yi rfl ?_ | refine Yj rfl ?_ | refine Yk rfl ?_ | refine Yl rfl ?_
        | (apply CallI.of; assumption)
        | (refine Need.mk (by simp only [List.length_cons, List.length_nil, List.length_map]; omega) ?_)
        | (refine Bounds.at 1 (C'.length + 1) rfl rfl ⟨by omega, by simp⟩ ?_)
        | (refine LoopW.to iho rfl ?_))
       simp [leftV, win, take_map]
    ·cases hwd : decide ((i : Int) % m < fo)
     ·have hwf := of_decide_eq_false hwd
      cases ta
      ·have h4 := h4 rfl
       subst h4
       repeat' ((conv => whnf); first
       | refine Ya ?_ | refine Yb ?_ | refine Yc ?_ | refine Yd ?_ | refine Ye ?_ | refine Yf ?_ | refine Yg ?_ | refine Yh ?_ | refine Yi rfl ?_ | refine Yj rfl ?_ | refine Yk rfl ?_ | refine Yl rfl ?_
        | (apply CallI.of; assumption)
        | (refine Need.mk (by simp only [List.length_cons, List.length_nil, List.length_map]; omega) ?_)
        | (refine Bounds.at 1 (C'.length + 1) rfl rfl ⟨by omega, by simp⟩ ?_)
        | (refine LoopW.to iho rfl ?_))
       simp [leftV, win, take_map]
      ·repeat' ((conv => whnf); first
      | refine Ya ?_ | refine Yb ?_ | refine Yc ?_ | refine Yd ?_ | refine Ye ?_ | refine Yf ?_ | refine Yg ?_ | refine Yh ?_ | refine Yi rfl ?_ | refine Yj rfl ?_ | refine Yk rfl ?_ | refine Yl rfl ?_
        | (apply CallI.of; assumption)
        | (refine Need.mk (by simp only [List.length_cons, List.length_nil, List.length_map]; omega) ?_)
        | (refine Bounds.at 1 (C'.length + 1) rfl rfl ⟨by omega, by simp⟩ ?_)
        | (refine LoopW.to iho rfl ?_))
       simp [leftV, win, take_map]
     ·have hwf := of_decide_eq_true hwd
      rw [hwd] at hc
      have hc : A' = [] := by simpa using hc
      subst hc
      cases ta
      ·have h4 := h4 rfl
       subst h4
       repeat' ((conv => whnf); first
       | refine Ya ?_ | refine Yb ?_ | refine Yc ?_ | refine Yd ?_ | refine Ye ?_ | refine Yf ?_ | refine Yg ?_ | refine Yh ?_ | refine Yi rfl ?_ | refine Yj rfl ?_ | refine Yk rfl ?_ | refine Yl rfl ?_
        | (apply CallI.of; assumption)
        | (refine Need.mk (by simp only [List.length_cons, List.length_nil, List.length_map]; omega) ?_)
        | (refine Bounds.at 1 (C'.length + 1) rfl rfl ⟨by omega, by simp⟩ ?_)
        | (refine LoopW.to iho rfl ?_))
       simp [leftV, win, take_map]
      ·repeat' ((conv => whnf); first
      | refine Ya ?_ | refine Yb ?_ | refine Yc ?_ | refine Yd ?_ | refine Ye ?_ | refine Yf ?_ | refine Yg ?_ | refine Yh ?_ | refine Yi rfl ?_ | refine Yj rfl ?_ | refine Yk rfl ?_ | refine Yl rfl ?_
        | (apply CallI.of; assumption)
        | (refine Need.mk (by simp only [List.length_cons, List.length_nil, List.length_map]; omega) ?_)
        | (refine Bounds.at 1 (C'.length + 1) rfl rfl ⟨by omega, by simp⟩ ?_)
        | (refine LoopW.to iho rfl ?_))
       simp [leftV, win, take_map]
  ·have e : l.length - i = 0 := by omega
   rw [e, shrG, List.append_nil] at h1
   subst h1
   repeat' ((conv => whnf); first
   | refine Ya ?_ | refine Yb ?_ | refine Yc ?_ | refine Yd ?_ | refine Ye ?_ | refine Yf ?_ | refine Yg ?_ | refine Yh ?_ | refine Yi rfl ?_ | refine Yj rfl ?_ | refine Yk rfl ?_ | refine Yl rfl ?_
    | (refine Ret.mk ?_))
   rw [if_pos ⟨rfl, rfl⟩]
set_option maxHeartbeats 32000000 in
theorem r_Interleave (m fo : Int) (l : List Bool) (hm : 1 ≤ m ∧ m ≤ 100) (hl : l.length ≤ 64) : Fc E n_ref05_Interleave [I m, I fo, LB l] (LI (shrL m fo l)) := by
 refine g.fn code_ref05_Interleave rfl ?_
 have hAC := selG_length 0 l
 unfold shrL
 rw [← remG_sel, ← remG_sel]
 rw [← remG_sel, ← remG_sel] at hAC
 generalize hR : shrG m fo l.length 0 (remG true 0 l (List.replicate l.length false)) (remG false 0 l (List.replicate l.length false)) = R
 repeat' ((conv => whnf); first
 | refine Ya ?_ | refine Yb ?_ | refine Yc ?_ | refine Yd ?_ | refine Ye ?_ | refine Yf ?_ | refine Yg ?_ | refine Yh ?_ | refine Yi rfl ?_ | refine Yj rfl ?_ | refine Yk rfl ?_ | refine Yl rfl ?_
  | (refine Need.mk ⟨by omega, rfl, by omega, by omega⟩ ?_))
 refine LoopW.to (LoopW.by g (fun s : ShR => s.T.length = l.length ∧ s.out ++ shrG m fo (l.length - s.i) s.i (remG true 0 l s.T) (remG false 0 l s.T) = R ∧ (remG true 0 l s.T).length + (remG false 0 l s.T).length + s.i = l.length ∧ s.out.length = s.i)
  (fun s => [(0, I m), (1, I fo), (2, LB l), (7, .ref ⟨0, 7, 0⟩ 0 s.out.length s.out.length), (8, .ref ⟨0, 15, 0⟩ 0 l.length l.length), (9, I s.i)])
  (fun s => [(⟨0, 6, 0⟩, .row false ty_int 1 0 []), (⟨0, 7, 0⟩, .row false ty_int 1 s.out.length (s.out.map DI)), (⟨0, 15, 0⟩, .row true ty_bool 1 l.length (s.T.map D.bool))])
  (fun s => l.length - s.i) (fun s hs ih => ?_) ⟨0, List.replicate l.length false, []⟩ ⟨by simp, by simpa using hR, by simpa using hAC, rfl⟩) rfl ?_
 ·obtain ⟨i, T, out⟩ := s
  obtain ⟨h0, h1, h2, h3⟩ := hs
  dsimp only at h0 h1 h2 h3 ih ⊢
  by_cases hlt : i < l.length
  ·obtain ⟨x, A', C', hp⟩ := pickQ_some (w := decide ((i : Int) % m < fo)) (A := remG true 0 l T) (C := remG false 0 l T) (by omega)
   have hn : l.length - i = (l.length - (i + 1)) + 1 := by omega
   rw [hn, shrG, hp] at h1
   have hq := pickQ_len hp
   obtain ⟨q, rfl, q1, q2, q3, q4⟩ := pickQ_rem hp
   have hbest := pickQ_best hp
   have ihn := ih ⟨i + 1, T.set q true, out ++ [(q : Int)]⟩
   dsimp only at ihn
   rw [q3, q4] at ihn
   have ihn := ihn ⟨by simpa using h0, by simpa using h1, by omega, by simp [h3]⟩ (by omega)
   simp only [List.length_append, List.length_cons, List.length_nil, List.map_append, List.map_cons, List.map_nil] at ihn
   have hw := Int.emod_nonneg (i : Int) (show m ≠ 0 by omega)
   generalize hwd : decide ((i : Int) % m < fo) = w at *
   have hbest : bestQ (remG w 0 l T) (remG (!w) 0 l T) = (q : Int) := by cases w <;> exact hbest
   have hset := patchB T q true (by omega)
   repeat' ((conv => whnf); first
   | refine Ya ?_ | refine Yb ?_ | refine Yc ?_ | refine Yd ?_ | refine Ye ?_ | refine Yf ?_ | refine Yg ?_ | refine Yh ?_ | refine Yi rfl ?_ | refine Yj rfl ?_ | refine Yk rfl ?_ | refine Yl rfl ?_)
   refine LoopW.to (LoopW.up g (fun j => [(0, I m), (1, I fo), (2, LB l), (7, .ref ⟨0, 7, 0⟩ 0 out.length out.length), (8, .ref ⟨0, 15, 0⟩ 0 l.length l.length), (9, I i), (10, I (bestQ (remG w (l.length - j) (l.drop (l.length - j)) (T.drop (l.length - j))) (remG (!w) (l.length - j) (l.drop (l.length - j)) (T.drop (l.length - j))))), (11, I ((l.length : Int) - 1 - j))])
    (fun _ => _) l.length (fun j hj jh => ?_) 0 (Nat.zero_le _)) ?_ rfl
   ·by_cases hjl : j < l.length
    ·replace jh := jh hjl
     obtain ⟨k, hk⟩ : ∃ k, l.length - j = k + 1 := ⟨l.length - j - 1, by omega⟩
     have hk1 : l.length - (j + 1) = k := by omega
     have hk2 : (l.length : Int) - 1 - j = k := by omega
     have hk3 : (l.length : Int) - 1 - (j + 1 : Nat) = (k : Int) - 1 := by omega
     have hkl : k < l.length := by omega
     have hkT : k < T.length := by omega
     have hst := bestQ_step w l[k] T[k] k (l.drop (k + 1)) (T.drop (k + 1)) (fun x => l.getD x.toNat false) (fun x hx => by obtain ⟨_, _, _, h⟩ := rem_val hx; exact h) (fun x hx => by obtain ⟨_, _, _, h⟩ := rem_val hx; exact h)
     rw [← List.drop_eq_getElem_cons hkl, ← List.drop_eq_getElem_cons hkT] at hst
     have hov := best_val l T w (k + 1)
     rw [hk1, hk3] at jh
     rw [hk, hk2]
     dsimp only at hst
     generalize bestQ (remG w (k + 1) (l.drop (k + 1)) (T.drop (k + 1))) (remG (!w) (k + 1) (l.drop (k + 1)) (T.drop (k + 1))) = o at *
     generalize bestQ (remG w k (l.drop k) (T.drop k)) (remG (!w) k (l.drop k) (T.drop k)) = o' at *
     generalize hx : l[k] = v at *
     generalize hy : T[k] = t at *
     cases t
     ·rw [if_neg (by decide)] at hst
      rcases hov with rfl | ⟨p, rfl, hpl⟩
      ·rw [if_pos (.inl (by decide))] at hst
       subst hst
       cases v <;> cases w
       all_goals
        first | have hwf := of_decide_eq_true hwd | have hwf := of_decide_eq_false hwd
        repeat' ((conv => whnf); first
        | refine Ya ?_ | refine Yb ?_ | refine Yc ?_ | refine Yd ?_ | refine Ye ?_ | refine Yf ?_ | refine Yg ?_ | refine Yh ?_ | refine Yi rfl ?_ | refine Yj rfl ?_ | refine Yk rfl ?_ | refine Yl rfl ?_
         | (refine Pick.boolI k rfl hkl ?_; rw [hx])
         | (refine Pick.boolI0 k rfl hkT ?_; rw [hy])
         | (refine LoopW.to jh rfl rfl))
      ·have hpd : l.getD ((p : Int)).toNat false = l[p] := by rw [Int.toNat_natCast, List.getD, List.getElem?_eq_getElem hpl]; rfl
       rw [hpd] at hst
       generalize hz : l[p] = z at *
       have hp0 : ¬ (p : Int) < 0 := by omega
       cases v <;> cases w <;> cases z
       all_goals
        simp only [hp0, reduceCtorEq, or_true, or_false, if_true, if_false] at hst
        subst hst
        first | have hwf := of_decide_eq_true hwd | have hwf := of_decide_eq_false hwd
        repeat' ((conv => whnf); first
        | refine Ya ?_ | refine Yb ?_ | refine Yc ?_ | refine Yd ?_ | refine Ye ?_ | refine Yf ?_ | refine Yg ?_ | refine Yh ?_ | refine Yi rfl ?_ | refine Yj rfl ?_ | refine Yk rfl ?_ | refine Yl rfl ?_
         | (refine Pick.boolI k rfl hkl ?_; rw [hx])
         | (refine Pick.boolI p rfl hpl ?_; rw [hz])
         | (refine Pick.boolI0 k rfl hkT ?_; rw [hy])
         | (refine LoopW.to jh rfl rfl))
     ·rw [if_pos rfl] at hst
      subst hst
      repeat' ((conv => whnf); first
      | refine Ya ?_ | refine Yb ?_ | refine Yc ?_ | refine Yd ?_ | refine Ye ?_ | refine Yf ?_ | refine Yg ?_ | refine Yh ?_ | refine Yi rfl ?_ | refine Yj rfl ?_ | refine Yk rfl ?_ | refine Yl rfl ?_
       | (refine Pick.boolI0 k rfl hkT ?_; rw [hy])
       | (refine LoopW.to jh rfl rfl))
    ·have hj' : j = l.length := by omega
     subst hj'
     rw [Nat.sub_self, List.drop_zero, List.drop_zero, hbest]
     repeat' ((conv => whnf); first
     | refine Ya ?_ | refine Yb ?_ | refine Yc ?_ | refine Yd ?_ | refine Ye ?_ | refine Yf ?_ | refine Yg ?_ | refine Yh ?_ | refine Yi rfl ?_ | refine Yj rfl ?_ | refine Yk rfl ?_ | refine Yl rfl ?_
      | (refine Need.mk (by simp only [List.length_cons, List.length_nil, List.length_map]; omega) ?_)
      | (refine LoopW.to ihn rfl ?_))
     simp only [Nat.zero_add, Nat.mul_one, Int.toNat_natCast]
     rw [hset]
     rfl
   ·simp [List.drop_of_length_le, h0, remG, bestQ]
  ·have e : l.length - i = 0 := by omega
   rw [e, shrG, List.append_nil] at h1
   subst h1
   repeat' ((conv => whnf); first
   | refine Ya ?_ | refine Yb ?_ | refine Yc ?_ | refine Yd ?_ | refine Ye ?_ | refine Yf ?_ | refine Yg ?_ | refine Yh ?_ | refine Yi rfl ?_ | refine Yj rfl ?_ | refine Yk rfl ?_ | refine Yl rfl ?_
    | (refine Ret.mk ?_))
   rw [if_pos ⟨rfl, rfl⟩]
 ·simp
end
end Go.Proofs.YtcephlgejkngiaaGreatDoor.Co
/-
 Priority: CheckProgram, by the reference.
-/
namespace Go.Proofs.YtcephlgejkngiaaGreatDoor.Co
open Go Go.Evl
set_option maxRecDepth 100000
theorem key_in {l : List Kyt} {k j : Nat} (h : k < l.length) (hj : j < k) (e : (l[j]'(Nat.lt_trans hj h)).fa = l[k].fa) : l[k].fa ∈ nmsK (l.take k) := by
 unfold nmsK
 rw [List.mem_map]
 refine ⟨l[j]'(Nat.lt_trans hj h), ?_, e⟩
 rw [List.mem_take_iff_getElem]
 exact ⟨j, by omega, rfl⟩
theorem key_out {l : List Kyt} {k : Nat} (h : k < l.length) (hn : ∀ (i : Nat) (hi : i < k), (l[i]'(Nat.lt_trans hi h)).fa ≠ l[k].fa) : l[k].fa ∉ nmsK (l.take k) := by
 intro hm
 unfold nmsK at hm
 rw [List.mem_map] at hm
 obtain ⟨x, hx, e⟩ := hm
 rw [List.mem_take_iff_getElem] at hx
 obtain ⟨i, hi, rfl⟩ := hx
 exact hn i (by omega) e
theorem cls_in {l : List Cls} {s : List UInt8} {j : Nat} (h : j < l.length) (e : l[j].nm = s) : s ∈ nmsC l := by
 unfold nmsC
 rw [List.mem_map]
 exact ⟨_, List.getElem_mem h, e⟩
theorem cls_out {l : List Cls} {s : List UInt8} (hn : ∀ (i : Nat) (h : i < l.length), l[i].nm ≠ s) : s ∉ nmsC l := by
 intro hm
 unfold nmsC at hm
 rw [List.mem_map] at hm
 obtain ⟨x, hx, e⟩ := hm
 obtain ⟨i, hi, rfl⟩ := List.getElem_of_mem hx
 exact hn i hi e
section
variable {E : Oracle} (g : Good E)
include g
set_option maxHeartbeats 8000000 in
theorem r_CheckClass (c : Cls) (hs : SmallC c) : Fc E n_ref05_CheckClass [Csv c] (I (chkCs c)) := by
 refine g.fn code_ref05_CheckClass rfl ?_
 have h1 := r_IsName g c.nm
 have h2 := r_Facts g
 obtain ⟨l1, l2⟩ := hs
 unfold chkCs nmE
 generalize isNameB c.nm = b at *
 cases b
 ·repeat' ((conv => whnf); first
 | refine Ya ?_ | refine Yb ?_ | refine Yc ?_ | refine Yd ?_ | refine Ye ?_ | refine Yf ?_ | refine Yg ?_ | refine Yh ?_ | refine Yi rfl ?_ | refine Yj rfl ?_ | refine Yk rfl ?_ | refine Yl rfl ?_
   | (apply CallI.of; assumption)
   | (refine Ret.mk rfl))
 ·by_cases n1 : 8 < c.wh.length
  ·rw [if_pos n1]
   repeat' ((conv => whnf); first
   | refine Ya ?_ | refine Yb ?_ | refine Yc ?_ | refine Yd ?_ | refine Ye ?_ | refine Yf ?_ | refine Yg ?_ | refine Yh ?_ | refine Yi rfl ?_ | refine Yj rfl ?_ | refine Yk rfl ?_ | refine Yl rfl ?_
    | (apply CallI.of; assumption)
    | (refine Ret.mk rfl))
  ·rw [if_neg n1]
   generalize hR : chkTsG c.wh = R
   repeat' ((conv => whnf); first
   | refine Ya ?_ | refine Yb ?_ | refine Yc ?_ | refine Yd ?_ | refine Ye ?_ | refine Yf ?_ | refine Yg ?_ | refine Yh ?_ | refine Yi rfl ?_ | refine Yj rfl ?_ | refine Yk rfl ?_ | refine Yl rfl ?_
    | (apply CallI.of; assumption))
   refine LoopW.to (LoopW.upP g (fun k => [(1, .ptr ⟨0, 1, 0⟩ 0 0), (3, I k)]) (fun _ => _) (fun k => chkTsG (c.wh.drop k) = R) c.wh.length (fun k hk h0 ih => ?_) 0 (Nat.zero_le _) hR) rfl rfl
   by_cases hlt : k < c.wh.length
   ·rw [List.drop_eq_getElem_cons hlt, chkTsG] at h0
    have ih := ih hlt
    have hc := r_CheckTest g c.wh[k]
    generalize chkTs c.wh[k] = e at *
    by_cases hz : e = 0
    ·rw [if_pos hz] at h0
     have ih := ih h0
     repeat' ((conv => whnf); first
     | refine Ya ?_ | refine Yb ?_ | refine Yc ?_ | refine Yd ?_ | refine Ye ?_ | refine Yf ?_ | refine Yg ?_ | refine Yh ?_ | refine Yi rfl ?_ | refine Yj rfl ?_ | refine Yk rfl ?_ | refine Yl rfl ?_
      | (refine PickW.rec Tst.cells_length k rfl hlt ?_)
      | (refine CallI.of hc ?_)
      | (refine Cmp.ff (fun h => h hz) ?_)
      | (refine LoopW.to ih rfl rfl))
    ·rw [if_neg hz] at h0
     have hf : firstI [if (!true) = true then 8 else 0, 0, R, if 8 < c.ky.length then 5 else 0, chkKyG [] c.ky] = e := by
      rw [← h0]
      simp [firstI, hz]
     rw [hf]
     repeat' ((conv => whnf); first
     | refine Ya ?_ | refine Yb ?_ | refine Yc ?_ | refine Yd ?_ | refine Ye ?_ | refine Yf ?_ | refine Yg ?_ | refine Yh ?_ | refine Yi rfl ?_ | refine Yj rfl ?_ | refine Yk rfl ?_ | refine Yl rfl ?_
      | (refine PickW.rec Tst.cells_length k rfl hlt ?_)
      | (refine CallI.of hc ?_)
      | (refine Cmp.tt hz ?_)
      | (refine Ret.mk rfl))
   ·rw [List.drop_eq_nil_of_le (by omega), chkTsG] at h0
    subst h0
    by_cases n2 : 8 < c.ky.length
    ·rw [if_pos n2]
     repeat' ((conv => whnf); first
     | refine Ya ?_ | refine Yb ?_ | refine Yc ?_ | refine Yd ?_ | refine Ye ?_ | refine Yf ?_ | refine Yg ?_ | refine Yh ?_ | refine Yi rfl ?_ | refine Yj rfl ?_ | refine Yk rfl ?_ | refine Yl rfl ?_
      | (refine Ret.mk rfl))
    ·rw [if_neg n2]
     generalize hQ : chkKyG [] c.ky = Q
     have hf : firstI [if (!true) = true then 8 else 0, 0, 0, 0, Q] = Q := by
      simp only [firstI]
      simp
      intro h; exact h.symm
     rw [hf]
     repeat' ((conv => whnf); first
     | refine Ya ?_ | refine Yb ?_ | refine Yc ?_ | refine Yd ?_ | refine Ye ?_ | refine Yf ?_ | refine Yg ?_ | refine Yh ?_ | refine Yi rfl ?_ | refine Yj rfl ?_ | refine Yk rfl ?_ | refine Yl rfl ?_)
     refine LoopW.to (LoopW.upP g (fun k => [(1, .ptr ⟨0, 1, 0⟩ 0 0), (5, I k)]) (fun _ => _) (fun k => chkKyG (nmsK (c.ky.take k)) (c.ky.drop k) = Q) c.ky.length (fun k hk h0 ih => ?_) 0 (Nat.zero_le _) hQ) rfl rfl
     by_cases hlt : k < c.ky.length
     ·have e : nmsK (c.ky.take (k + 1)) = nmsK (c.ky.take k) ++ [c.ky[k].fa] := nms_succ Kyt.fa hlt
      rw [List.drop_eq_getElem_cons hlt, chkKyG, ← e] at h0
      have ih := ih hlt
      have hw := r_HasFact g c.ky[k].fa
      by_cases hk1 : c.ky[k].fa ∈ fcL
      ·rw [decide_eq_true hk1] at hw
       repeat' ((conv => whnf); first
       | refine Ya ?_ | refine Yb ?_ | refine Yc ?_ | refine Yd ?_ | refine Ye ?_ | refine Yf ?_ | refine Yg ?_ | refine Yh ?_ | refine Yi rfl ?_ | refine Yj rfl ?_ | refine Yk rfl ?_ | refine Yl rfl ?_
        | (refine PickW.rec Kyt.cells_length k rfl hlt ?_)
        | (refine Pick.rec Kyt.cells_length k rfl hlt rfl ?_)
        | (apply CallI.of; assumption))
       refine LoopW.to (LoopW.upP g (fun j => [(1, .ptr ⟨0, 1, 0⟩ 0 0), (5, I k), (6, I j)]) (fun _ => _) (fun j => ∀ (i : Nat) (_ : i < j) (h : i < c.ky.length), c.ky[i].fa ≠ c.ky[k].fa) k (fun j hj hn jh => ?_) 0 (Nat.zero_le _) (fun i hi => absurd hi (Nat.not_lt_zero _))) rfl rfl
       by_cases hjk : j < k
       ·have hjl : j < c.ky.length := by omega
        by_cases hd : c.ky[j].fa = c.ky[k].fa
        ·have hm := key_in hlt hjk hd
         have hc : chkKy (nmsK (c.ky.take k)) c.ky[k] = 9 := by
          unfold chkKy
          rw [if_pos hk1, if_pos hm]
          rfl
         rw [hc, if_neg (by decide)] at h0
         rw [← h0]
         repeat' ((conv => whnf); first
         | refine Ya ?_ | refine Yb ?_ | refine Yc ?_ | refine Yd ?_ | refine Ye ?_ | refine Yf ?_ | refine Yg ?_ | refine Yh ?_ | refine Yi rfl ?_ | refine Yj rfl ?_ | refine Yk rfl ?_ | refine Yl rfl ?_
          | (refine Pick.rec Kyt.cells_length j rfl hjl rfl ?_)
          | (refine Pick.rec Kyt.cells_length k rfl hlt rfl ?_)
          | (refine Cmp.tt hd ?_)
          | (refine Ret.mk rfl))
        ·have jh := jh hjk fun i hi h => by
          by_cases e : i = j
          ·subst e; exact hd
          ·exact hn i (by omega) h
         repeat' ((conv => whnf); first
         | refine Ya ?_ | refine Yb ?_ | refine Yc ?_ | refine Yd ?_ | refine Ye ?_ | refine Yf ?_ | refine Yg ?_ | refine Yh ?_ | refine Yi rfl ?_ | refine Yj rfl ?_ | refine Yk rfl ?_ | refine Yl rfl ?_
          | (refine Pick.rec Kyt.cells_length j rfl hjl rfl ?_)
          | (refine Pick.rec Kyt.cells_length k rfl hlt rfl ?_)
          | (refine Cmp.ff hd ?_)
          | (refine LoopW.to jh rfl rfl))
       ·have hm := key_out hlt fun i hi => hn i (by omega) (by omega)
        have hc : chkKy (nmsK (c.ky.take k)) c.ky[k] = 0 := by
         unfold chkKy
         rw [if_pos hk1, if_neg hm]
         rfl
        rw [hc, if_pos rfl] at h0
        have ih := ih h0
        repeat' ((conv => whnf); first
        | refine Ya ?_ | refine Yb ?_ | refine Yc ?_ | refine Yd ?_ | refine Ye ?_ | refine Yf ?_ | refine Yg ?_ | refine Yh ?_ | refine Yi rfl ?_ | refine Yj rfl ?_ | refine Yk rfl ?_ | refine Yl rfl ?_
         | (refine LoopW.to ih rfl rfl))
      ·rw [decide_eq_false hk1] at hw
       have hc : chkKy (nmsK (c.ky.take k)) c.ky[k] = 10 := by
        unfold chkKy
        rw [if_neg hk1]
        rfl
       rw [hc, if_neg (by decide)] at h0
       rw [← h0]
       repeat' ((conv => whnf); first
       | refine Ya ?_ | refine Yb ?_ | refine Yc ?_ | refine Yd ?_ | refine Ye ?_ | refine Yf ?_ | refine Yg ?_ | refine Yh ?_ | refine Yi rfl ?_ | refine Yj rfl ?_ | refine Yk rfl ?_ | refine Yl rfl ?_
        | (refine Pick.rec Kyt.cells_length k rfl hlt rfl ?_)
        | (apply CallI.of; assumption)
        | (refine Ret.mk rfl))
     ·rw [List.drop_eq_nil_of_le (by omega), chkKyG] at h0
      rw [← h0]
      repeat' ((conv => whnf); first
      | refine Ya ?_ | refine Yb ?_ | refine Yc ?_ | refine Yd ?_ | refine Ye ?_ | refine Yf ?_ | refine Yg ?_ | refine Yh ?_ | refine Yi rfl ?_ | refine Yj rfl ?_ | refine Yk rfl ?_ | refine Yl rfl ?_
       | (refine Ret.mk rfl))
theorem r_CheckPool (p : Prg) : Fc E n_ref05_CheckPool [Pgv p] (I (chkPool p)) := by
 refine g.fn code_ref05_CheckPool rfl ?_
 have h := r_CheckRange g
 have h3 : Fc E n_ref01_First [.d (.list 3 [DI (rng p.po 0 p.cl.length), DI (rng p.of 1 100), DI (rng p.fo 0 p.of)])] (I (chkPool p)) := r_First g [_, _, _] (by simp)
 repeat' ((conv => whnf); first
 | refine Ya ?_ | refine Yb ?_ | refine Yc ?_ | refine Yd ?_ | refine Ye ?_ | refine Yf ?_ | refine Yg ?_ | refine Yh ?_ | refine Yi rfl ?_ | refine Yj rfl ?_ | refine Yk rfl ?_ | refine Yl rfl ?_
  | (refine CallI.of (h _ _ _) ?_)
  | (apply CallI.of; assumption)
  | (refine Ret.mk rfl))
set_option maxHeartbeats 8000000 in
theorem r_padded (l : List Cls) (c : Cls) (hl : l.length ≤ 1000000) (hs : SmallC c) : Fc E n_ref05_added [LC l, Csv c] (I (chkCa (nmsC l) c)) := by
 refine g.fn code_ref05_added rfl ?_
 have h1 := r_CheckClass g c hs
 unfold chkCa
 generalize chkCs c = e at *
 by_cases he : e = 0
 ·subst he
  repeat' ((conv => whnf); first
  | refine Ya ?_ | refine Yb ?_ | refine Yc ?_ | refine Yd ?_ | refine Ye ?_ | refine Yf ?_ | refine Yg ?_ | refine Yh ?_ | refine Yi rfl ?_ | refine Yj rfl ?_ | refine Yk rfl ?_ | refine Yl rfl ?_
   | (apply CallI.of; assumption))
  refine LoopW.to (LoopW.upP g (fun k => [(0, LC l), (3, .ptr ⟨0, 3, 0⟩ 0 0), (5, I 0), (6, I k)]) (fun _ => _) (fun k => ∀ (i : Nat) (_ : i < k) (h : i < l.length), l[i].nm ≠ c.nm) l.length (fun k hk hn ih => ?_) 0 (Nat.zero_le _) (fun i hi => absurd hi (Nat.not_lt_zero _))) rfl rfl
  by_cases hlt : k < l.length
  ·by_cases hd : l[k].nm = c.nm
   ·rw [if_pos (cls_in hlt hd)]
    by_cases hx : k + 1 < l.length
    all_goals repeat' ((conv => whnf); first
    | refine Ya ?_ | refine Yb ?_ | refine Yc ?_ | refine Yd ?_ | refine Ye ?_ | refine Yf ?_ | refine Yg ?_ | refine Yh ?_ | refine Yi rfl ?_ | refine Yj rfl ?_ | refine Yk rfl ?_ | refine Yl rfl ?_
     | (refine Pick.rec Cls.cells_length k rfl hlt rfl ?_)
     | (refine Cmp.tt hd ?_)
     | (refine LoopW.step g.lim ?_)
     | (refine Ret.mk rfl))
   ·have ih := ih hlt fun i hi h => by
     by_cases e : i = k
     ·subst e; exact hd
     ·exact hn i (by omega) h
    repeat' ((conv => whnf); first
    | refine Ya ?_ | refine Yb ?_ | refine Yc ?_ | refine Yd ?_ | refine Ye ?_ | refine Yf ?_ | refine Yg ?_ | refine Yh ?_ | refine Yi rfl ?_ | refine Yj rfl ?_ | refine Yk rfl ?_ | refine Yl rfl ?_
     | (refine Pick.rec Cls.cells_length k rfl hlt rfl ?_)
     | (refine Cmp.ff hd ?_)
     | (refine LoopW.to ih rfl rfl))
  ·rw [if_neg (cls_out fun i h => hn i (by omega) h)]
   repeat' ((conv => whnf); first
   | refine Ya ?_ | refine Yb ?_ | refine Yc ?_ | refine Yd ?_ | refine Ye ?_ | refine Yf ?_ | refine Yg ?_ | refine Yh ?_ | refine Yi rfl ?_ | refine Yj rfl ?_ | refine Yk rfl ?_ | refine Yl rfl ?_
    | (refine Ret.mk rfl))
 ·have hf : ∀ x, firstI [e, x] = e := fun x => by simp [firstI, he]
  rw [hf]
  by_cases hx : 0 < l.length
  all_goals repeat' ((conv => whnf); first
  | refine Ya ?_ | refine Yb ?_ | refine Yc ?_ | refine Yd ?_ | refine Ye ?_ | refine Yf ?_ | refine Yg ?_ | refine Yh ?_ | refine Yi rfl ?_ | refine Yj rfl ?_ | refine Yk rfl ?_ | refine Yl rfl ?_
   | (apply CallI.of; assumption)
   | (refine Cmp.ff he ?_)
   | (refine LoopW.step g.lim ?_)
   | (refine Ret.mk rfl))
set_option maxHeartbeats 8000000 in
theorem r_CheckProgram (p : Prg) (hs : SmallP p) : Fc E n_ref05_CheckProgram [Pgv p] (I (chkPg p)) := by
 refine g.fn code_ref05_CheckProgram rfl ?_
 have hp := r_CheckPool g p
 obtain ⟨l1, l2⟩ := hs
 unfold chkPg
 by_cases n1 : p.cl.length = 0
 ·rw [if_pos n1]
  repeat' ((conv => whnf); first
  | refine Ya ?_ | refine Yb ?_ | refine Yc ?_ | refine Yd ?_ | refine Ye ?_ | refine Yf ?_ | refine Yg ?_ | refine Yh ?_ | refine Yi rfl ?_ | refine Yj rfl ?_ | refine Yk rfl ?_ | refine Yl rfl ?_
   | (refine Ret.mk rfl))
 ·rw [if_neg n1]
  by_cases n2 : 16 < p.cl.length
  ·rw [if_pos n2]
   repeat' ((conv => whnf); first
   | refine Ya ?_ | refine Yb ?_ | refine Yc ?_ | refine Yd ?_ | refine Ye ?_ | refine Yf ?_ | refine Yg ?_ | refine Yh ?_ | refine Yi rfl ?_ | refine Yj rfl ?_ | refine Yk rfl ?_ | refine Yl rfl ?_
    | (refine Ret.mk rfl))
  ·rw [if_neg n2]
   generalize hR : chkCsG [] p.cl = R
   generalize chkPool p = q at *
   repeat' ((conv => whnf); first
   | refine Ya ?_ | refine Yb ?_ | refine Yc ?_ | refine Yd ?_ | refine Ye ?_ | refine Yf ?_ | refine Yg ?_ | refine Yh ?_ | refine Yi rfl ?_ | refine Yj rfl ?_ | refine Yk rfl ?_ | refine Yl rfl ?_)
   refine LoopW.to (LoopW.upP g (fun k => [(1, .ptr ⟨0, 1, 0⟩ 0 0), (3, I k)]) (fun _ => _) (fun k => chkCsG (nmsC (p.cl.take k)) (p.cl.drop k) = R) p.cl.length (fun k hk h0 ih => ?_) 0 (Nat.zero_le _) hR) rfl rfl
   by_cases hlt : k < p.cl.length
   ·have e : nmsC (p.cl.take (k + 1)) = nmsC (p.cl.take k) ++ [p.cl[k].nm] := nms_succ Cls.nm hlt
    rw [List.drop_eq_getElem_cons hlt, chkCsG, ← e] at h0
    have ih := ih hlt
    have hn := r_padded g (p.cl.take k) p.cl[k] (by simp; omega) (l2 _ (List.getElem_mem hlt))
    have ht := sl_take Cls.cells 3 Cls.cells_length p.cl k (by omega)
    generalize chkCa (nmsC (p.cl.take k)) p.cl[k] = r at *
    by_cases hz : r = 0
    ·rw [if_pos hz] at h0
     have ih := ih h0
     repeat' ((conv => whnf); first
     | refine Ya ?_ | refine Yb ?_ | refine Yc ?_ | refine Yd ?_ | refine Ye ?_ | refine Yf ?_ | refine Yg ?_ | refine Yh ?_ | refine Yi rfl ?_ | refine Yj rfl ?_ | refine Yk rfl ?_ | refine Yl rfl ?_
      | (refine PickW.rec Cls.cells_length k rfl hlt ?_)
      | (refine Bounds.at 0 k rfl rfl (by omega) ?_ <;> (try rw [ht]))
      | (refine CallI.of hn ?_)
      | (refine Cmp.ff (fun h => h hz) ?_)
      | (refine LoopW.to ih rfl rfl))
    ·rw [if_neg hz] at h0
     have hf : firstI [0, 0, R, q] = r := by rw [← h0]; simp [firstI, hz]
     rw [hf]
     repeat' ((conv => whnf); first
     | refine Ya ?_ | refine Yb ?_ | refine Yc ?_ | refine Yd ?_ | refine Ye ?_ | refine Yf ?_ | refine Yg ?_ | refine Yh ?_ | refine Yi rfl ?_ | refine Yj rfl ?_ | refine Yk rfl ?_ | refine Yl rfl ?_
      | (refine PickW.rec Cls.cells_length k rfl hlt ?_)
      | (refine Bounds.at 0 k rfl rfl (by omega) ?_ <;> (try rw [ht]))
      | (refine CallI.of hn ?_)
      | (refine Cmp.tt hz ?_)
      | (refine Ret.mk rfl))
   ·rw [List.drop_eq_nil_of_le (by omega), chkCsG] at h0
    have hf : firstI [0, 0, R, q] = q := by
     rw [← h0]
     simp only [firstI]
     simp
     intro h; exact h.symm
    rw [hf]
    repeat' ((conv => whnf); first
    | refine Ya ?_ | refine Yb ?_ | refine Yc ?_ | refine Yd ?_ | refine Ye ?_ | refine Yf ?_ | refine Yg ?_ | refine Yh ?_ | refine Yi rfl ?_ | refine Yj rfl ?_ | refine Yk rfl ?_ | refine Yl rfl ?_
     | (apply CallI.of; assumption)
     | (refine Ret.mk rfl))
end
end Go.Proofs.YtcephlgejkngiaaGreatDoor.Co
/-
 Priority: the class of a claim, by the program and by the reference.
-/
namespace Go.Proofs.YtcephlgejkngiaaGreatDoor.Co
open Go Go.Evl
set_option maxRecDepth 100000
def clsG (c : Clm) : Nat → List Cls → Int
 | i, [] => i
 | i, x :: r => if x.wh.all (holdB c) = true then i else clsG c (i + 1) r
def OkWh (p : Prg) : Prop := ∀ x ∈ p.cl, ∀ t ∈ x.wh, chkTs t = 0
theorem chkTsG_zero : ∀ {l : List Tst}, chkTsG l = 0 → ∀ t ∈ l, chkTs t = 0
 | [], _, t, ht => by cases ht
 | x :: r, h, t, ht => by
  rw [chkTsG] at h
  by_cases hz : chkTs x = 0
  ·rw [if_pos hz] at h
   rcases List.mem_cons.1 ht with rfl | ht
   ·exact hz
   ·exact chkTsG_zero h t ht
  ·rw [if_neg hz] at h
   exact absurd h hz
theorem chkKyG_zero : ∀ {l : List Kyt} {seen : List (List UInt8)}, chkKyG seen l = 0 → ∀ k ∈ l, k.fa ∈ fcL
 | [], _, _, k, hk => by cases hk
 | x :: r, seen, h, k, hk => by
  rw [chkKyG] at h
  by_cases hz : chkKy seen x = 0
  ·rw [if_pos hz] at h
   rcases List.mem_cons.1 hk with rfl | hk
   ·unfold chkKy at hz
    rw [firstI_zero] at hz
    refine Classical.byContradiction fun hn => ?_
    have := hz _ (List.mem_cons_self ..)
    rw [if_neg hn] at this
    cases this
   ·exact chkKyG_zero h k hk
  ·rw [if_neg hz] at h
   exact absurd h hz
structure OkCls (c : Cls) : Prop where
 nm : isNameB c.nm = true
 wh : c.wh.length ≤ 8
 ky : c.ky.length ≤ 8
 ts : ∀ t ∈ c.wh, chkTs t = 0
 ks : ∀ k ∈ c.ky, k.fa ∈ fcL
theorem chkCs_zero {c : Cls} (h : chkCs c = 0) : OkCls c := by
 unfold chkCs at h
 rw [firstI_zero] at h
 have h1 := h (nmE c.nm) (by simp)
 have h2 := h (if 8 < c.wh.length then 5 else 0) (by simp)
 have h3 := h (chkTsG c.wh) (by simp)
 have h4 := h (if 8 < c.ky.length then 5 else 0) (by simp)
 have h5 := h (chkKyG [] c.ky) (by simp)
 refine ⟨?_, ?_, ?_, chkTsG_zero h3, chkKyG_zero h5⟩
 ·unfold nmE at h1
  cases hb : isNameB c.nm with
  | true => rfl
  | false => rw [hb] at h1; cases h1
 ·refine Classical.byContradiction fun hn => ?_
  rw [if_pos (by omega)] at h2
  cases h2
 ·refine Classical.byContradiction fun hn => ?_
  rw [if_pos (by omega)] at h4
  cases h4
theorem chkCsG_zero : ∀ {l : List Cls} {seen : List (List UInt8)}, chkCsG seen l = 0 → ∀ c ∈ l, OkCls c
 | [], _, _, c, hc => by cases hc
 | x :: r, seen, h, c, hc => by
  rw [chkCsG] at h
  by_cases hz : chkCa seen x = 0
  ·rw [if_pos hz] at h
   rcases List.mem_cons.1 hc with rfl | hc
   ·unfold chkCa at hz
    rw [firstI_zero] at hz
    exact chkCs_zero (hz _ (List.mem_cons_self ..))
   ·exact chkCsG_zero h c hc
  ·rw [if_neg hz] at h
   exact absurd h hz
structure OkPrg (p : Prg) : Prop where
 one : 0 < p.cl.length
 many : p.cl.length ≤ 16
 cs : ∀ c ∈ p.cl, OkCls c
 po : 0 ≤ p.po ∧ p.po ≤ p.cl.length
 of' : 1 ≤ p.of ∧ p.of ≤ 100
 fo : 0 ≤ p.fo ∧ p.fo ≤ p.of
theorem chkPg_zero {p : Prg} (h : chkPg p = 0) : OkPrg p := by
 unfold chkPg at h
 rw [firstI_zero] at h
 have h1 := h (if p.cl.length = 0 then 12 else 0) (by simp)
 have h2 := h (if 16 < p.cl.length then 5 else 0) (by simp)
 have h3 := h (chkCsG [] p.cl) (by simp)
 have h4 := h (chkPool p) (by simp)
 unfold chkPool at h4
 rw [firstI_zero] at h4
 refine ⟨?_, ?_, chkCsG_zero h3, rng_zero.1 (h4 _ (by simp)), rng_zero.1 (h4 _ (by simp)), rng_zero.1 (h4 _ (by simp))⟩
 ·refine Classical.byContradiction fun hn => ?_
  rw [if_pos (by omega)] at h1
  cases h1
 ·refine Classical.byContradiction fun hn => ?_
  rw [if_pos (by omega)] at h2
  cases h2
theorem OkPrg.okWh {p : Prg} (h : OkPrg p) : OkWh p := fun x hx => (h.cs x hx).ts
theorem OkPrg.small {p : Prg} (h : OkPrg p) : SmallP p := ⟨by have := h.many; omega, fun c hc => ⟨by have := (h.cs c hc).wh; omega, by have := (h.cs c hc).ky; omega⟩⟩
section
variable {E : Oracle} (g : Good E)
include g
set_option maxHeartbeats 8000000 in
theorem s_classOf (p : Prg) (c : Clm) (hs : SmallP p) (hc : chkCl c = 0) (hp : OkWh p) : Fc E n_priority_Program_classOf [Pgv p, Clv c] (I (clsG c 0 p.cl)) := by
 refine g.fn code_priority_Program_classOf rfl ?_
 obtain ⟨l1, l2⟩ := hs
 generalize hR : clsG c 0 p.cl = R
 repeat' ((conv => whnf); first
 | refine Ya ?_ | refine Yb ?_ | refine Yc ?_ | refine Yd ?_ | refine Ye ?_ | refine Yf ?_ | refine Yg ?_ | refine Yh ?_ | refine Yi rfl ?_ | refine Yj rfl ?_ | refine Yk rfl ?_ | refine Yl rfl ?_)
 refine LoopW.to (LoopW.upP g (fun k => [(2, .ptr ⟨0, 2, 0⟩ 0 0), (3, .ptr ⟨0, 3, 0⟩ 0 0), (10, LC p.cl), (11, I p.cl.length), (12, I k)]) (fun _ => _) (fun k => clsG c k (p.cl.drop k) = R) p.cl.length (fun k hk h0 ih => ?_) 0 (Nat.zero_le _) hR) rfl rfl
 by_cases hlt : k < p.cl.length
 ·rw [List.drop_eq_getElem_cons hlt, clsG] at h0
  have ih := ih hlt
  have hx := hp _ (List.getElem_mem hlt)
  have l3 := (l2 _ (List.getElem_mem hlt)).1
  generalize hA : p.cl[k].wh.all (holdB c) = A at h0
  repeat' ((conv => whnf); first
  | refine Ya ?_ | refine Yb ?_ | refine Yc ?_ | refine Yd ?_ | refine Ye ?_ | refine Yf ?_ | refine Yg ?_ | refine Yh ?_ | refine Yi rfl ?_ | refine Yj rfl ?_ | refine Yk rfl ?_ | refine Yl rfl ?_
   | (refine PickW.rec Cls.cells_length k rfl hlt ?_))
  refine LoopW.to (LoopW.upP g (fun j => [(2, .ptr ⟨0, 2, 0⟩ 0 0), (3, .ptr ⟨0, 3, 0⟩ 0 0), (5, I k), (10, LC p.cl), (11, I p.cl.length), (12, I k), (18, LT p.cl[k].wh), (19, I p.cl[k].wh.length), (20, I j)]) (fun _ => _) (fun j => (p.cl[k].wh.drop j).all (holdB c) = A) p.cl[k].wh.length (fun j hj h1 jh => ?_) 0 (Nat.zero_le _) hA) rfl rfl
  by_cases hjl : j < p.cl[k].wh.length
  ·rw [List.drop_eq_getElem_cons hjl, List.all_cons] at h1
   have jh := jh hjl
   have hh := s_holds g c _ hc (hx _ (List.getElem_mem hjl))
   generalize holdB c p.cl[k].wh[j] = b at *
   cases b
   ·rw [Bool.false_and] at h1
    rw [← h1, if_neg (by decide)] at h0
    have ih := ih h0
    repeat' ((conv => whnf); first
    | refine Ya ?_ | refine Yb ?_ | refine Yc ?_ | refine Yd ?_ | refine Ye ?_ | refine Yf ?_ | refine Yg ?_ | refine Yh ?_ | refine Yi rfl ?_ | refine Yj rfl ?_ | refine Yk rfl ?_ | refine Yl rfl ?_
     | (refine PickW.rec Tst.cells_length j rfl hjl ?_)
     | (refine CallI.of hh ?_)
     | (refine LoopW.to ih rfl rfl))
   ·rw [Bool.true_and] at h1
    have jh := jh h1
    repeat' ((conv => whnf); first
    | refine Ya ?_ | refine Yb ?_ | refine Yc ?_ | refine Yd ?_ | refine Ye ?_ | refine Yf ?_ | refine Yg ?_ | refine Yh ?_ | refine Yi rfl ?_ | refine Yj rfl ?_ | refine Yk rfl ?_ | refine Yl rfl ?_
     | (refine PickW.rec Tst.cells_length j rfl hjl ?_)
     | (refine CallI.of hh ?_)
     | (refine LoopW.to jh rfl rfl))
  ·rw [List.drop_eq_nil_of_le (by omega), List.all_nil] at h1
   rw [← h1, if_pos rfl] at h0
   rw [← h0]
   repeat' ((conv => whnf); first
   | refine Ya ?_ | refine Yb ?_ | refine Yc ?_ | refine Yd ?_ | refine Ye ?_ | refine Yf ?_ | refine Yg ?_ | refine Yh ?_ | refine Yi rfl ?_ | refine Yj rfl ?_ | refine Yk rfl ?_ | refine Yl rfl ?_
    | (refine Ret.mk rfl))
 ·rw [List.drop_eq_nil_of_le (by omega), clsG] at h0
  have e : k = p.cl.length := by omega
  subst e
  rw [← h0]
  repeat' ((conv => whnf); first
  | refine Ya ?_ | refine Yb ?_ | refine Yc ?_ | refine Yd ?_ | refine Ye ?_ | refine Yf ?_ | refine Yg ?_ | refine Yh ?_ | refine Yi rfl ?_ | refine Yj rfl ?_ | refine Yk rfl ?_ | refine Yl rfl ?_
   | (refine Ret.mk rfl))
set_option maxHeartbeats 8000000 in
theorem r_ClassOf (p : Prg) (c : Clm) (hs : SmallP p) (hc : chkCl c = 0) (hp : OkWh p) : Fc E n_ref05_ClassOf [Pgv p, Clv c] (I (clsG c 0 p.cl)) := by
 refine g.fn code_ref05_ClassOf rfl ?_
 obtain ⟨l1, l2⟩ := hs
 generalize hR : clsG c 0 p.cl = R
 repeat' ((conv => whnf); first
 | refine Ya ?_ | refine Yb ?_ | refine Yc ?_ | refine Yd ?_ | refine Ye ?_ | refine Yf ?_ | refine Yg ?_ | refine Yh ?_ | refine Yi rfl ?_ | refine Yj rfl ?_ | refine Yk rfl ?_ | refine Yl rfl ?_)
 refine LoopW.to (LoopW.upP g (fun k => [(2, .ptr ⟨0, 2, 0⟩ 0 0), (3, .ptr ⟨0, 3, 0⟩ 0 0), (5, I k)]) (fun _ => _) (fun k => clsG c k (p.cl.drop k) = R) p.cl.length (fun k hk h0 ih => ?_) 0 (Nat.zero_le _) hR) rfl rfl
 by_cases hlt : k < p.cl.length
 ·rw [List.drop_eq_getElem_cons hlt, clsG] at h0
  have ih := ih hlt
  have hx := hp _ (List.getElem_mem hlt)
  have l3 := (l2 _ (List.getElem_mem hlt)).1
  repeat' ((conv => whnf); first
  | refine Ya ?_ | refine Yb ?_ | refine Yc ?_ | refine Yd ?_ | refine Ye ?_ | refine Yf ?_ | refine Yg ?_ | refine Yh ?_ | refine Yi rfl ?_ | refine Yj rfl ?_ | refine Yk rfl ?_ | refine Yl rfl ?_)
  refine LoopW.to (LoopW.up g (fun j => [(2, .ptr ⟨0, 2, 0⟩ 0 0), (3, .ptr ⟨0, 3, 0⟩ 0 0), (5, I k), (6, B ((p.cl[k].wh.take j).all (holdB c))), (7, I j)]) (fun _ => _) p.cl[k].wh.length (fun j hj jh => ?_) 0 (Nat.zero_le _)) rfl rfl
  by_cases hjl : j < p.cl[k].wh.length
  ·have e : (p.cl[k].wh.take (j + 1)).all (holdB c) = ((p.cl[k].wh.take j).all (holdB c) && holdB c p.cl[k].wh[j]) := by
    rw [List.take_add_one, List.getElem?_eq_getElem hjl, List.all_append]
    simp
   have jh := jh hjl
   rw [e] at jh
   have hh := r_Holds g c _ hc (hx _ (List.getElem_mem hjl))
   generalize (p.cl[k].wh.take j).all (holdB c) = a at *
   generalize holdB c p.cl[k].wh[j] = b at *
   cases a
   ·rw [Bool.false_and] at jh
    repeat' ((conv => whnf); first
    | refine Ya ?_ | refine Yb ?_ | refine Yc ?_ | refine Yd ?_ | refine Ye ?_ | refine Yf ?_ | refine Yg ?_ | refine Yh ?_ | refine Yi rfl ?_ | refine Yj rfl ?_ | refine Yk rfl ?_ | refine Yl rfl ?_
     | (refine Pick.rec Cls.cells_length k rfl hlt rfl ?_)
     | (refine LoopW.to jh rfl rfl))
   ·rw [Bool.true_and] at jh
    repeat' ((conv => whnf); first
    | refine Ya ?_ | refine Yb ?_ | refine Yc ?_ | refine Yd ?_ | refine Ye ?_ | refine Yf ?_ | refine Yg ?_ | refine Yh ?_ | refine Yi rfl ?_ | refine Yj rfl ?_ | refine Yk rfl ?_ | refine Yl rfl ?_
     | (refine Pick.rec Cls.cells_length k rfl hlt rfl ?_)
     | (refine PickW.rec Tst.cells_length j rfl hjl ?_)
     | (refine CallI.of hh ?_)
     | (refine LoopW.to jh rfl rfl))
  ·have e : p.cl[k].wh.take j = p.cl[k].wh := List.take_of_length_le (by omega)
   rw [e]
   generalize p.cl[k].wh.all (holdB c) = a at *
   cases a
   ·rw [if_neg (by decide)] at h0
    have ih := ih h0
    repeat' ((conv => whnf); first
    | refine Ya ?_ | refine Yb ?_ | refine Yc ?_ | refine Yd ?_ | refine Ye ?_ | refine Yf ?_ | refine Yg ?_ | refine Yh ?_ | refine Yi rfl ?_ | refine Yj rfl ?_ | refine Yk rfl ?_ | refine Yl rfl ?_
     | (refine Pick.rec Cls.cells_length k rfl hlt rfl ?_)
     | (refine LoopW.to ih rfl rfl))
   ·rw [if_pos rfl] at h0
    rw [← h0]
    repeat' ((conv => whnf); first
    | refine Ya ?_ | refine Yb ?_ | refine Yc ?_ | refine Yd ?_ | refine Ye ?_ | refine Yf ?_ | refine Yg ?_ | refine Yh ?_ | refine Yi rfl ?_ | refine Yj rfl ?_ | refine Yk rfl ?_ | refine Yl rfl ?_
     | (refine Pick.rec Cls.cells_length k rfl hlt rfl ?_)
     | (refine Ret.mk rfl))
 ·rw [List.drop_eq_nil_of_le (by omega), clsG] at h0
  have e : k = p.cl.length := by omega
  subst e
  rw [← h0]
  repeat' ((conv => whnf); first
  | refine Ya ?_ | refine Yb ?_ | refine Yc ?_ | refine Yd ?_ | refine Ye ?_ | refine Yf ?_ | refine Yg ?_ | refine Yh ?_ | refine Yi rfl ?_ | refine Yj rfl ?_ | refine Yk rfl ?_ | refine Yl rfl ?_
   | (refine Ret.mk rfl))
end
end Go.Proofs.YtcephlgejkngiaaGreatDoor.Co
/-
 Priority: which of two claims comes first; the plain law.
-/
namespace Go.Proofs.YtcephlgejkngiaaGreatDoor.Co
open Go Go.Evl
def dcF (f h : List UInt8 → Int) : List Kyt → Int × List UInt8
 | [] => (0, [])
 | k :: r => if f k.fa = h k.fa then dcF f h r else (if (decide (f k.fa < h k.fa) != k.dn) = true then -1 else 1, k.fa)
def dcC (c : Int → Option (List Kyt)) (i k : Int) (f h : List UInt8 → Int) : Int × List UInt8 :=
 if i < k then (-1, [99, 108, 97, 115, 115]) else if k < i then (1, [99, 108, 97, 115, 115]) else match c i with
  | some l => dcF f h l
  | none => (0, [])
def keyC (p : Prg) (i : Int) : Option (List Kyt) := (p.cl[i.toNat]?).map Cls.ky
def dcP (p : Prg) (a b : Clm) : Int × List UInt8 := dcC (keyC p) (clsG a 0 p.cl) (clsG b 0 p.cl) (factV a) (factV b)
theorem dcF_fst (f h : List UInt8 → Int) (k : Kyt) (r : List Kyt) : (dcF f h (k :: r)).1 = if f k.fa = h k.fa then (dcF f h r).1 else if f k.fa < h k.fa then (if k.dn = true then 1 else -1) else (if k.dn = true then -1 else 1) := by
 rw [dcF]
 generalize k.dn = d
 by_cases h1 : f k.fa = h k.fa
 ·rw [if_pos h1, if_pos h1]
 ·rw [if_neg h1, if_neg h1]
  by_cases h2 : f k.fa < h k.fa
  ·rw [decide_eq_true h2, if_pos h2]
   cases d <;> rfl
  ·rw [decide_eq_false h2, if_neg h2]
   cases d <;> rfl
theorem dcF_self (f : List UInt8 → Int) : ∀ l : List Kyt, dcF f f l = (0, [])
 | [] => rfl
 | k :: r => by rw [dcF, if_pos rfl, dcF_self f r]
theorem dcF_swap (f h : List UInt8 → Int) : ∀ l : List Kyt, (dcF f h l).1 = -(dcF h f l).1
 | [] => rfl
 | k :: r => by
  have := dcF_swap f h r
  rw [dcF_fst, dcF_fst]
  cases k.dn
  ·simp only [Bool.false_eq_true, if_false]
   split <;> split <;> (try split) <;> (try split) <;> omega
  ·simp only [if_true]
   split <;> split <;> (try split) <;> (try split) <;> omega
theorem dcF_trans (f h q : List UInt8 → Int) : ∀ l : List Kyt, (dcF f h l).1 ≤ 0 → (dcF h q l).1 ≤ 0 → (dcF f q l).1 ≤ 0
 | [] => fun _ _ => by simp [dcF]
 | k :: r => by
  have ih := dcF_trans f h q r
  rw [dcF_fst, dcF_fst, dcF_fst]
  generalize f k.fa = x
  generalize h k.fa = y
  generalize q k.fa = z
  generalize (dcF f h r).1 = u at *
  generalize (dcF h q r).1 = v at *
  generalize (dcF f q r).1 = w at *
  intro h1 h2
  generalize k.dn = d at *
  cases d
  ·simp only [Bool.false_eq_true, if_false] at *
   by_cases e1 : x = y
   ·by_cases e2 : y = z
    ·rw [if_pos e1] at h1
     rw [if_pos e2] at h2
     rw [if_pos (e1.trans e2)]
     exact ih h1 h2
    ·omega
   ·omega
  ·simp only [if_true] at *
   by_cases e1 : x = y
   ·by_cases e2 : y = z
    ·rw [if_pos e1] at h1
     rw [if_pos e2] at h2
     rw [if_pos (e1.trans e2)]
     exact ih h1 h2
    ·omega
   ·omega
theorem dcC_fst (c : Int → Option (List Kyt)) (i k : Int) (f h : List UInt8 → Int) : (dcC c i k f h).1 = if i < k then -1 else if k < i then 1 else (dcF f h ((c i).getD [])).1 := by
 unfold dcC
 split
 ·rfl
 ·split
  ·rfl
  ·cases c i <;> rfl
theorem dcC_self (c : Int → Option (List Kyt)) (i : Int) (f : List UInt8 → Int) : dcC c i i f f = (0, []) := by
 unfold dcC
 rw [if_neg (by omega), if_neg (by omega)]
 cases c i with
 | none => rfl
 | some l => exact dcF_self f l
theorem dcC_swap (c : Int → Option (List Kyt)) (i k : Int) (f h : List UInt8 → Int) : (dcC c i k f h).1 = -(dcC c k i h f).1 := by
 rw [dcC_fst, dcC_fst]
 rcases Int.lt_trichotomy i k with e | e | e
 ·rw [if_pos e, if_neg (by omega), if_pos e]
 ·subst e
  rw [if_neg (Int.lt_irrefl i), if_neg (Int.lt_irrefl i), if_neg (Int.lt_irrefl i), if_neg (Int.lt_irrefl i)]
  exact dcF_swap f h _
 ·rw [if_neg (by omega), if_pos e, if_pos e]
  rfl
theorem dcC_trans (c : Int → Option (List Kyt)) (i k j : Int) (f h q : List UInt8 → Int) (h1 : (dcC c i k f h).1 ≤ 0) (h2 : (dcC c k j h q).1 ≤ 0) : (dcC c i j f q).1 ≤ 0 := by
 rw [dcC_fst] at *
 rcases Int.lt_trichotomy i k with e1 | e1 | e1
 ·rcases Int.lt_trichotomy k j with e2 | e2 | e2
  ·rw [if_pos (by omega)]; decide
  ·rw [if_pos (by omega)]; decide
  ·rw [if_neg (by omega), if_pos e2] at h2
   exact absurd h2 (by decide)
 ·subst e1
  rcases Int.lt_trichotomy i j with e2 | e2 | e2
  ·rw [if_pos (by omega)]; decide
  ·subst e2
   rw [if_neg (by omega), if_neg (by omega)] at *
   exact dcF_trans f h q _ h1 h2
  ·rw [if_neg (by omega), if_pos e2] at h2
   exact absurd h2 (by decide)
 ·rw [if_neg (by omega), if_pos e1] at h1
  exact absurd h1 (by decide)
theorem dcC_same (c : Int → Option (List Kyt)) (i : Int) (f h : List UInt8 → Int) : dcC c i i f h = dcF f h ((c i).getD []) := by
 unfold dcC
 rw [if_neg (Int.lt_irrefl i), if_neg (Int.lt_irrefl i)]
 cases c i <;> rfl
theorem dcC_lt (c : Int → Option (List Kyt)) {i k : Int} (f h : List UInt8 → Int) (e : i < k) : dcC c i k f h = (-1, [99, 108, 97, 115, 115]) := if_pos e
theorem dcC_gt (c : Int → Option (List Kyt)) {i k : Int} (f h : List UInt8 → Int) (e : k < i) : dcC c i k f h = (1, [99, 108, 97, 115, 115]) := by
 unfold dcC
 rw [if_neg (by omega), if_pos e]
theorem keyC_in {p : Prg} {n : Nat} (h : n < p.cl.length) : (keyC p (n : Int)).getD [] = p.cl[n].ky := by
 unfold keyC
 rw [Int.toNat_natCast, List.getElem?_eq_getElem h]
 rfl
theorem keyC_out {p : Prg} {n : Nat} (h : p.cl.length ≤ n) : (keyC p (n : Int)).getD [] = [] := by
 unfold keyC
 rw [Int.toNat_natCast, List.getElem?_eq_none h]
 rfl
theorem dcP_self (p : Prg) (a : Clm) : dcP p a a = (0, []) := dcC_self _ _ _
theorem dcP_swap (p : Prg) (a b : Clm) : (dcP p a b).1 = -(dcP p b a).1 := dcC_swap _ _ _ _ _
theorem dcP_trans (p : Prg) (a b c : Clm) (h1 : (dcP p a b).1 ≤ 0) (h2 : (dcP p b c).1 ≤ 0) : (dcP p a c).1 ≤ 0 := dcC_trans _ _ _ _ _ _ _ h1 h2
end Go.Proofs.YtcephlgejkngiaaGreatDoor.Co
/-
 Priority: which of two claims comes first, by the program and by the reference.
-/
namespace Go.Proofs.YtcephlgejkngiaaGreatDoor.Co
open Go Go.Evl
set_option maxRecDepth 100000
theorem clsG_ge (c : Clm) : ∀ (i : Nat) (l : List Cls), (i : Int) ≤ clsG c i l ∧ clsG c i l ≤ i + l.length
 | i, [] => by simp [clsG]
 | i, x :: r => by
  have := clsG_ge c (i + 1) r
  rw [clsG, List.length_cons]
  split
  ·omega
  ·omega
def keyM (lv slot : Nat) (p : Prg) (i : Int) : Mem := [(⟨lv, slot, 0⟩, .cells ty_int [I i]), (⟨lv, slot, 1⟩, .cells ty_priority_Program [LC p.cl, I p.po, I p.of, I p.fo])]
def OkKy (p : Prg) : Prop := ∀ c ∈ p.cl, ∀ k ∈ c.ky, k.fa ∈ fcL
section
variable {E : Oracle} (g : Good E)
include g
theorem s_keys (p : Prg) (i : Int) : In E 0 n_priority_Program_keys [Pgv p, I i] [] fun v m' => v = .fn n_priority_Program_keys_1 [] [.ptr ⟨0, 3, 0⟩ 0 0, .ptr ⟨0, 2, 0⟩ 0 0] ∧ m' = [(⟨0, 2, 0⟩, .cells ty_priority_Program [LC p.cl, I p.po, I p.of, I p.fo]), (⟨0, 3, 0⟩, .cells ty_int [I i])] := by
 refine In.enter g.lim rfl code_priority_Program_keys ?_
 repeat' ((conv => whnf); first
 | refine Ya ?_ | refine Yb ?_ | refine Yc ?_ | refine Yd ?_ | refine Ye ?_ | refine Yf ?_ | refine Yg ?_ | refine Yh ?_ | refine Yi rfl ?_ | refine Yj rfl ?_ | refine Yk rfl ?_ | refine Yl rfl ?_
  | (exact ⟨rfl, rfl⟩))
theorem CallS.keys {p : Prg} {i : Int} {cx : Cx} {slot : Nat} {m : Mem} {K : V → Mem → Prop} (hf : Go.Evl.freeK cx.lv slot m = 0) (h : K (.fn n_priority_Program_keys_1 [] [.ptr ⟨cx.lv, slot, 0⟩ 0 0, .ptr ⟨cx.lv, slot, 1⟩ 0 0]) (m ++ keyM cx.lv slot p i)) : CallS E n_priority_Program_keys [Pgv p, I i] cx slot m K := by
 obtain ⟨v, m', h1, rfl, rfl⟩ := (s_keys g p i).got
 refine ⟨_, _, (.fn n_priority_Program_keys_1 [] [.ptr ⟨cx.lv, slot, 0⟩ 0 0, .ptr ⟨cx.lv, slot, 1⟩ 0 0], m ++ keyM cx.lv slot p i), h1, ?_, h⟩
 unfold Go.Evl.settle
 rw [hf]
 rfl
theorem fact_two (a b : Clm) (s : List UInt8) (h : s ∈ fcL) (ha : chkCl a = 0) (hb : chkCl b = 0) : ∃ n, findE (.str s) facM = some (some (.d (.agg [.str s, .fn n]))) ∧ Fc E n [Clv a] (I (factV a s)) ∧ Fc E n [Clv b] (I (factV b s)) := by
 obtain ⟨n, f1, c1⟩ := fact_find g a s h ha
 obtain ⟨k, f2, c2⟩ := fact_find g b s h hb
 have : n = k := by
  rw [f1] at f2
  simpa using f2
 subst this
 exact ⟨n, f1, c1, c2⟩
set_option maxHeartbeats 32000000 in
theorem s_decide (p : Prg) (a b : Clm) (hs : SmallP p) (ha : chkCl a = 0) (hb : chkCl b = 0) (hp : OkWh p) (hk : OkKy p) : Fc E n_priority_Program_decide [Pgv p, Clv a, Clv b] (.tup [I (dcP p a b).1, S (dcP p a b).2]) := by
 refine g.fn code_priority_Program_decide rfl ?_
 have h1 := s_classOf g p a hs ha hp
 have h2 := s_classOf g p b hs hb hp
 have b0 : Fc E n_priority_bit [B false] (I 0) := s_pbit g false
 have b1 : Fc E n_priority_bit [B true] (I 1) := s_pbit g true
 have r1 := clsG_ge a 0 p.cl
 have r2 := clsG_ge b 0 p.cl
 have l1 := hs.1
 unfold dcP
 generalize clsG a 0 p.cl = i at *
 generalize clsG b 0 p.cl = k at *
 rcases Int.lt_trichotomy i k with e | e | e
 ·rw [dcC_lt _ _ _ e]
  repeat' ((conv => whnf); first
  | refine Ya ?_ | refine Yb ?_ | refine Yc ?_ | refine Yd ?_ | refine Ye ?_ | refine Yf ?_ | refine Yg ?_ | refine Yh ?_ | refine Yi rfl ?_ | refine Yj rfl ?_ | refine Yk rfl ?_ | refine Yl rfl ?_
   | (apply CallI.of; assumption)
   | (refine Ret.mk rfl))
 ·subst e
  by_cases he : a = b
  ·subst he
   rw [dcC_self]
   repeat' ((conv => whnf); first
   | refine Ya ?_ | refine Yb ?_ | refine Yc ?_ | refine Yd ?_ | refine Ye ?_ | refine Yf ?_ | refine Yg ?_ | refine Yh ?_ | refine Yi rfl ?_ | refine Yj rfl ?_ | refine Yk rfl ?_ | refine Yl rfl ?_
    | (apply CallI.of; assumption)
    | (refine Cmp.tt (by simp) ?_)
    | (refine Ret.mk rfl))
  ·obtain ⟨n, rfl⟩ : ∃ n : Nat, i = n := ⟨i.toNat, by omega⟩
   rw [dcC_same]
   have two : ∀ s ∈ fcL, ∃ n, findE (.str s) facM = some (some (.d (.agg [.str s, .fn n]))) ∧ Fc E n [Clv a] (I (factV a s)) ∧ Fc E n [Clv b] (I (factV b s)) := fun s h => fact_two g a b s h ha hb
   generalize factV a = fa at *
   generalize factV b = fb at *
   by_cases hn : n < p.cl.length
   ·have l2 := (hs.2 _ (List.getElem_mem hn)).2
    have hkk := hk _ (List.getElem_mem hn)
    rw [keyC_in hn]
    generalize hR : dcF fa fb p.cl[n].ky = R
    repeat' ((conv => whnf); first
    | refine Ya ?_ | refine Yb ?_ | refine Yc ?_ | refine Yd ?_ | refine Ye ?_ | refine Yf ?_ | refine Yg ?_ | refine Yh ?_ | refine Yi rfl ?_ | refine Yj rfl ?_ | refine Yk rfl ?_ | refine Yl rfl ?_
     | (apply CallI.of; assumption)
     | (refine CallS.keys g rfl ?_)
     | (refine In.enter g.lim rfl code_priority_Program_keys_1 ?_)
     | (refine Cmp.mk (fun h => ?_) (fun h => ?_))
     | (refine Pick.rec Cls.cells_length n rfl hn rfl ?_))
    ·refine absurd ?_ he
     clear h1 h2 two hR he ha hb r1 r2
     obtain ⟨⟨n1, c1, k1, t1, p1, l1, f1, o1, d1, m1, s1, z1, i1⟩, h1, r1, w1, y1, x1⟩ := a
     obtain ⟨⟨n2, c2, k2, t2, p2, l2, f2, o2, d2, m2, s2, z2, i2⟩, h2, r2, w2, y2, x2⟩ := b
     simp_all
    all_goals
     refine LoopW.to (LoopW.upP g (fun k => [(0, .yld ⟨0, 67, 0⟩), (16, LK p.cl[n].ky), (17, I p.cl[n].ky.length), (18, I k)]) (fun _ => _) (fun k => dcF fa fb (p.cl[n].ky.drop k) = R) p.cl[n].ky.length (fun k hk h0 ih => ?_) 0 (Nat.zero_le _) hR) rfl rfl
     by_cases hlt : k < p.cl[n].ky.length
     ·rw [List.drop_eq_getElem_cons hlt, dcF] at h0
      have ih := ih hlt
      obtain ⟨m, m1, m2, m3⟩ := two _ (hkk _ (List.getElem_mem hlt))
      generalize hx : p.cl[n].ky[k] = x at *
      obtain ⟨f, dn⟩ := x
      dsimp only at h0 m1 m2 m3
      generalize fa f = u at *
      generalize fb f = v at *
      rcases Int.lt_trichotomy u v with e | e | e
      ·rw [if_neg (by omega), decide_eq_true e] at h0
       rw [← h0]
       cases dn
       all_goals repeat' ((conv => whnf); first
       | refine Ya ?_ | refine Yb ?_ | refine Yc ?_ | refine Yd ?_ | refine Ye ?_ | refine Yf ?_ | refine Yg ?_ | refine Yh ?_ | refine Yi rfl ?_ | refine Yj rfl ?_ | refine Yk rfl ?_ | refine Yl rfl ?_
        | (refine PickW.rec Kyt.cells_length k rfl hlt ?_; rw [hx])
        | (refine CallS.known g rfl ?_)
        | (refine Find.mk ⟨_, m1, ?_⟩)
        | (refine Rnd.enter g.lim ?_)
        | (apply CallI.of; assumption)
        | (refine Ret.mk rfl))
      ·rw [if_pos e] at h0
       have ih := ih h0
       repeat' ((conv => whnf); first
       | refine Ya ?_ | refine Yb ?_ | refine Yc ?_ | refine Yd ?_ | refine Ye ?_ | refine Yf ?_ | refine Yg ?_ | refine Yh ?_ | refine Yi rfl ?_ | refine Yj rfl ?_ | refine Yk rfl ?_ | refine Yl rfl ?_
        | (refine PickW.rec Kyt.cells_length k rfl hlt ?_; rw [hx])
        | (refine CallS.known g rfl ?_)
        | (refine Find.mk ⟨_, m1, ?_⟩)
        | (refine Rnd.enter g.lim ?_)
        | (apply CallI.of; assumption)
        | (refine LoopW.to ih rfl rfl))
      ·rw [if_neg (by omega), decide_eq_false (by omega)] at h0
       rw [← h0]
       cases dn
       all_goals repeat' ((conv => whnf); first
       | refine Ya ?_ | refine Yb ?_ | refine Yc ?_ | refine Yd ?_ | refine Ye ?_ | refine Yf ?_ | refine Yg ?_ | refine Yh ?_ | refine Yi rfl ?_ | refine Yj rfl ?_ | refine Yk rfl ?_ | refine Yl rfl ?_
        | (refine PickW.rec Kyt.cells_length k rfl hlt ?_; rw [hx])
        | (refine CallS.known g rfl ?_)
        | (refine Find.mk ⟨_, m1, ?_⟩)
        | (refine Rnd.enter g.lim ?_)
        | (apply CallI.of; assumption)
        | (refine Ret.mk rfl))
     ·rw [List.drop_eq_nil_of_le (by omega), dcF] at h0
      rw [← h0]
      repeat' ((conv => whnf); first
      | refine Ya ?_ | refine Yb ?_ | refine Yc ?_ | refine Yd ?_ | refine Ye ?_ | refine Yf ?_ | refine Yg ?_ | refine Yh ?_ | refine Yi rfl ?_ | refine Yj rfl ?_ | refine Yk rfl ?_ | refine Yl rfl ?_
       | (refine Ret.mk rfl))
   ·have hn' : n = p.cl.length := by omega
    rw [keyC_out (by omega), dcF]
    repeat' ((conv => whnf); first
    | refine Ya ?_ | refine Yb ?_ | refine Yc ?_ | refine Yd ?_ | refine Ye ?_ | refine Yf ?_ | refine Yg ?_ | refine Yh ?_ | refine Yi rfl ?_ | refine Yj rfl ?_ | refine Yk rfl ?_ | refine Yl rfl ?_
     | (apply CallI.of; assumption)
     | (refine CallS.keys g rfl ?_)
     | (refine In.enter g.lim rfl code_priority_Program_keys_1 ?_)
     | (refine Cmp.mk (fun h => ?_) (fun h => ?_))
     | (refine Ret.mk rfl))
 ·rw [dcC_gt _ _ _ e]
  repeat' ((conv => whnf); first
  | refine Ya ?_ | refine Yb ?_ | refine Yc ?_ | refine Yd ?_ | refine Ye ?_ | refine Yf ?_ | refine Yg ?_ | refine Yh ?_ | refine Yi rfl ?_ | refine Yj rfl ?_ | refine Yk rfl ?_ | refine Yl rfl ?_
   | (apply CallI.of; assumption)
   | (refine Ret.mk rfl))
set_option maxHeartbeats 8000000 in
theorem r_Decide (p : Prg) (a b : Clm) (hs : SmallP p) (ha : chkCl a = 0) (hb : chkCl b = 0) (hp : OkWh p) (hk : OkKy p) : Fc E n_ref05_Decide [Pgv p, Clv a, Clv b] (.tup [I (dcP p a b).1, S (dcP p a b).2]) := by
 refine g.fn code_ref05_Decide rfl ?_
 have h1 := r_ClassOf g p a hs ha hp
 have h2 := r_ClassOf g p b hs hb hp
 have r1 := clsG_ge a 0 p.cl
 have r2 := clsG_ge b 0 p.cl
 have l1 := hs.1
 unfold dcP
 generalize clsG a 0 p.cl = i at *
 generalize clsG b 0 p.cl = k at *
 rcases Int.lt_trichotomy i k with e | e | e
 ·rw [dcC_lt _ _ _ e]
  repeat' ((conv => whnf); first
  | refine Ya ?_ | refine Yb ?_ | refine Yc ?_ | refine Yd ?_ | refine Ye ?_ | refine Yf ?_ | refine Yg ?_ | refine Yh ?_ | refine Yi rfl ?_ | refine Yj rfl ?_ | refine Yk rfl ?_ | refine Yl rfl ?_
   | (apply CallI.of; assumption)
   | (refine Ret.mk rfl))
 ·subst e
  rw [dcC_same]
  obtain ⟨n, rfl⟩ : ∃ n : Nat, i = n := ⟨i.toNat, by omega⟩
  by_cases hn : n < p.cl.length
  ·have l2 := (hs.2 _ (List.getElem_mem hn)).2
   have hkk := hk _ (List.getElem_mem hn)
   rw [keyC_in hn]
   generalize hR : dcF (factV a) (factV b) p.cl[n].ky = R
   repeat' ((conv => whnf); first
   | refine Ya ?_ | refine Yb ?_ | refine Yc ?_ | refine Yd ?_ | refine Ye ?_ | refine Yf ?_ | refine Yg ?_ | refine Yh ?_ | refine Yi rfl ?_ | refine Yj rfl ?_ | refine Yk rfl ?_ | refine Yl rfl ?_
    | (apply CallI.of; assumption)
    | (refine Pick.rec Cls.cells_length n rfl hn rfl ?_))
   refine LoopW.to (LoopW.upP g (fun k => [(4, .ptr ⟨0, 4, 0⟩ 0 0), (5, .ptr ⟨0, 5, 0⟩ 0 0), (10, LK p.cl[n].ky), (11, I k)]) (fun _ => _) (fun k => dcF (factV a) (factV b) (p.cl[n].ky.drop k) = R) p.cl[n].ky.length (fun k hk h0 ih => ?_) 0 (Nat.zero_le _) hR) rfl rfl
   by_cases hlt : k < p.cl[n].ky.length
   ·rw [List.drop_eq_getElem_cons hlt, dcF] at h0
    have ih := ih hlt
    have hfc := hkk _ (List.getElem_mem hlt)
    generalize hx : p.cl[n].ky[k] = x at *
    obtain ⟨fa, dn⟩ := x
    have f1 := r_Fact g a fa hfc ha
    have f2 := r_Fact g b fa hfc hb
    dsimp only at h0 f1 f2
    generalize factV a fa = u at *
    generalize factV b fa = v at *
    rcases Int.lt_trichotomy u v with e | e | e
    ·rw [if_neg (by omega), decide_eq_true e] at h0
     rw [← h0]
     cases dn
     all_goals repeat' ((conv => whnf); first
     | refine Ya ?_ | refine Yb ?_ | refine Yc ?_ | refine Yd ?_ | refine Ye ?_ | refine Yf ?_ | refine Yg ?_ | refine Yh ?_ | refine Yi rfl ?_ | refine Yj rfl ?_ | refine Yk rfl ?_ | refine Yl rfl ?_
      | (refine Pick.rec Kyt.cells_length k rfl hlt (by rw [hx]; rfl) ?_)
      | (apply CallI.of; assumption)
      | (refine Ret.mk rfl))
    ·rw [if_pos e] at h0
     have ih := ih h0
     repeat' ((conv => whnf); first
     | refine Ya ?_ | refine Yb ?_ | refine Yc ?_ | refine Yd ?_ | refine Ye ?_ | refine Yf ?_ | refine Yg ?_ | refine Yh ?_ | refine Yi rfl ?_ | refine Yj rfl ?_ | refine Yk rfl ?_ | refine Yl rfl ?_
      | (refine Pick.rec Kyt.cells_length k rfl hlt (by rw [hx]; rfl) ?_)
      | (apply CallI.of; assumption)
      | (refine LoopW.to ih rfl rfl))
    ·rw [if_neg (by omega), decide_eq_false (by omega)] at h0
     rw [← h0]
     cases dn
     all_goals repeat' ((conv => whnf); first
     | refine Ya ?_ | refine Yb ?_ | refine Yc ?_ | refine Yd ?_ | refine Ye ?_ | refine Yf ?_ | refine Yg ?_ | refine Yh ?_ | refine Yi rfl ?_ | refine Yj rfl ?_ | refine Yk rfl ?_ | refine Yl rfl ?_
      | (refine Pick.rec Kyt.cells_length k rfl hlt (by rw [hx]; rfl) ?_)
      | (apply CallI.of; assumption)
      | (refine Ret.mk rfl))
   ·rw [List.drop_eq_nil_of_le (by omega), dcF] at h0
    rw [← h0]
    repeat' ((conv => whnf); first
    | refine Ya ?_ | refine Yb ?_ | refine Yc ?_ | refine Yd ?_ | refine Ye ?_ | refine Yf ?_ | refine Yg ?_ | refine Yh ?_ | refine Yi rfl ?_ | refine Yj rfl ?_ | refine Yk rfl ?_ | refine Yl rfl ?_
     | (refine Ret.mk rfl))
  ·have hn' : n = p.cl.length := by omega
   rw [keyC_out (by omega), dcF]
   repeat' ((conv => whnf); first
   | refine Ya ?_ | refine Yb ?_ | refine Yc ?_ | refine Yd ?_ | refine Ye ?_ | refine Yf ?_ | refine Yg ?_ | refine Yh ?_ | refine Yi rfl ?_ | refine Yj rfl ?_ | refine Yk rfl ?_ | refine Yl rfl ?_
    | (apply CallI.of; assumption)
    | (refine Ret.mk rfl))
 ·rw [dcC_gt _ _ _ e]
  repeat' ((conv => whnf); first
  | refine Ya ?_ | refine Yb ?_ | refine Yc ?_ | refine Yd ?_ | refine Ye ?_ | refine Yf ?_ | refine Yg ?_ | refine Yh ?_ | refine Yi rfl ?_ | refine Yj rfl ?_ | refine Yk rfl ?_ | refine Yl rfl ?_
   | (apply CallI.of; assumption)
   | (refine Ret.mk rfl))
end
end Go.Proofs.YtcephlgejkngiaaGreatDoor.Co
/-
 Priority: Compare, by the program.
-/
namespace Go.Proofs.YtcephlgejkngiaaGreatDoor.Co
open Go Go.Evl
set_option maxRecDepth 100000
theorem OkPrg.okKy {p : Prg} (h : OkPrg p) : OkKy p := fun c hc k hk => (h.cs c hc).ks k hk
end Go.Proofs.YtcephlgejkngiaaGreatDoor.Co
/-
 Priority: the order of claims, in plain Lean.
-/
namespace Go.Proofs.YtcephlgejkngiaaGreatDoor.Co
open Go Go.Evl
set_option maxRecDepth 100000
def zClm : Clm := ⟨⟨[], [], [], [], [], [], 0, 0, 0, 0, 0, 0, 0⟩, false, false, false, false, 0⟩
def atC (l : List Clm) (i : Int) : Clm := (l[i.toNat]?).getD zClm
theorem atC_get {l : List Clm} {i : Int} (h : i.toNat < l.length) : atC l i = l[i.toNat] := by
 unfold atC
 rw [List.getElem?_eq_getElem h]
 rfl
theorem atC_mem {l : List Clm} {i : Int} (h : i ∈ idL l.length) : atC l i ∈ l := by
 have := idL_mem.1 h
 rw [atC_get (by omega)]
 exact List.getElem_mem _
def ltB (p : Prg) (l : List Clm) (w : List Int) (a b : Int) : Bool := decide ((dcP p (atC l a) (atC l b)).1 < 0) || (decide ((dcP p (atC l a) (atC l b)).1 = 0) && decide (w.getD a.toNat 0 < w.getD b.toNat 0))
theorem ltB_iff {p : Prg} {l : List Clm} {w : List Int} {a b : Int} : ltB p l w a b = true ↔ (dcP p (atC l a) (atC l b)).1 < 0 ∨ ((dcP p (atC l a) (atC l b)).1 = 0 ∧ w.getD a.toNat 0 < w.getD b.toNat 0) := by
 simp [ltB]
theorem countP_lt {α : Type} {p q : α → Bool} : ∀ {l : List α}, (∀ x ∈ l, p x = true → q x = true) → ∀ a ∈ l, q a = true → p a = false → l.countP p < l.countP q
 | [], _, a, h, _, _ => by cases h
 | x :: r, hs, a, ha, hq, hp => by
  have hle : r.countP p ≤ r.countP q := List.countP_mono_left fun y hy => hs y (List.mem_cons_of_mem _ hy)
  rw [List.countP_cons, List.countP_cons]
  rcases List.mem_cons.1 ha with rfl | ha
  ·rw [hq, hp]
   simp
   omega
  ·have ih := countP_lt (fun y hy => hs y (List.mem_cons_of_mem _ hy)) a ha hq hp
   have h0 := hs x (List.mem_cons_self ..)
   cases hx : p x
   ·simp; omega
   ·rw [h0 hx]; simp; omega
theorem place_lt {n : Nat} {lt : Int → Int → Bool} (t : Tot n lt) {a b : Int} (ha : a ∈ idL n) (hb : b ∈ idL n) (h : lt a b = true) : placeL n lt a < placeL n lt b :=
 countP_lt (fun x hx hxa => t.tr x a b hx ha hb hxa h) a ha h (t.irr a)
theorem place_inj {n : Nat} {lt : Int → Int → Bool} (t : Tot n lt) {a b : Int} (ha : a ∈ idL n) (hb : b ∈ idL n) (h : placeL n lt a = placeL n lt b) : a = b := by
 refine Classical.byContradiction fun hab => ?_
 cases hl : lt a b
 ·have := place_lt t hb ha (t.tot a b ha hb hab hl)
  omega
 ·have := place_lt t ha hb hl
  omega
theorem place_in {n : Nat} {lt : Int → Int → Bool} (t : Tot n lt) {a : Int} (ha : a ∈ idL n) : placeL n lt a < n := by
 have := countP_lt (p := fun y => lt y a) (q := fun _ => true) (l := idL n) (fun _ _ _ => rfl) a ha rfl (t.irr a)
 rw [List.countP_true, idL_length] at this
 exact this
theorem drawAll_ord (key : Int) (n : Nat) : Ord n (drawAll key n) := by
 rcases Nat.eq_zero_or_pos n with rfl | hp
 ·exact Ord.id 0
 ·exact Ord.draw _ _ _ (by omega) (Ord.id n)
theorem lotL_inj {key : Int} {l : List Clm} (hn : (nmsM l).Nodup) {a b : Int} (ha : a ∈ idL l.length) (hb : b ∈ idL l.length) (h : (lotL key l).getD a.toNat 0 = (lotL key l).getD b.toNat 0) : a = b := by
 have t := ltN_tot hn
 have h1 := idL_mem.1 ha
 have h2 := idL_mem.1 hb
 have e : ∀ x : Int, x ∈ idL l.length → (lotL key l).getD x.toNat 0 = (drawAll key l.length).getD (placeL l.length (ltN l) x) 0 := fun x hx => by
  have h3 := idL_mem.1 hx
  have h4 : x.toNat < l.length := by omega
  have h5 : ((x.toNat : Nat) : Int) = x := by omega
  simp [lotL, idL, List.getD, h4, h5]
 rw [e a ha, e b hb] at h
 exact place_inj t ha hb ((drawAll_ord key l.length).inj _ _ (place_in t ha) (place_in t hb) h)
theorem ltB_tot {p : Prg} {key : Int} {l : List Clm} (hn : (nmsM l).Nodup) : Tot l.length (ltB p l (lotL key l)) := by
 refine ⟨fun a => ?_, fun a b c _ _ _ h1 h2 => ?_, fun a b ha hb hab h => ?_⟩
 ·cases h : ltB p l (lotL key l) a a with
  | false => rfl
  | true =>
   rw [ltB_iff, dcP_self] at h
   simp at h
 ·rw [ltB_iff] at h1 h2 ⊢
  have t1 := dcP_trans p (atC l a) (atC l b) (atC l c)
  have t2 := dcP_trans p (atC l b) (atC l c) (atC l a)
  have t3 := dcP_trans p (atC l c) (atC l a) (atC l b)
  have s1 := dcP_swap p (atC l a) (atC l b)
  have s2 := dcP_swap p (atC l b) (atC l c)
  have s3 := dcP_swap p (atC l c) (atC l a)
  generalize (dcP p (atC l a) (atC l b)).1 = x1 at *
  generalize (dcP p (atC l b) (atC l c)).1 = x2 at *
  generalize (dcP p (atC l a) (atC l c)).1 = x3 at *
  generalize (dcP p (atC l b) (atC l a)).1 = y1 at *
  generalize (dcP p (atC l c) (atC l b)).1 = y2 at *
  generalize (dcP p (atC l c) (atC l a)).1 = y3 at *
  have := t1 (by omega) (by omega)
  by_cases h3 : x3 < 0
  ·exact .inl h3
  ·have e3 : x3 = 0 := by omega
   have := t2 (by omega) (by omega)
   have := t3 (by omega) (by omega)
   exact .inr ⟨e3, by omega⟩
 ·have hx : ¬ ((dcP p (atC l a) (atC l b)).1 < 0 ∨ ((dcP p (atC l a) (atC l b)).1 = 0 ∧ (lotL key l).getD a.toNat 0 < (lotL key l).getD b.toNat 0)) := fun hc => by
   rw [ltB_iff.2 hc] at h
   cases h
  rw [ltB_iff]
  have s1 := dcP_swap p (atC l a) (atC l b)
  have hl : (lotL key l).getD a.toNat 0 ≠ (lotL key l).getD b.toNat 0 := fun e => hab (lotL_inj hn ha hb e)
  omega
theorem ins_ex {n : Nat} {lt : Int → Int → Bool} (t : Tot n lt) {x : Int} (hx : x ∈ idL n) : ∀ s : List Int, s.Pairwise (fun a b => lt a b = true) → (∀ y ∈ s, y ∈ idL n) → x ∉ s → ∃ s' : List Int, s'.Perm (x :: s) ∧ s'.Pairwise (fun a b => lt a b = true)
 | [], _, _, _ => ⟨[x], .refl _, List.pairwise_singleton ..⟩
 | y :: r, hs, hm, hn => by
  have hp := List.pairwise_cons.1 hs
  have hy := hm y (List.mem_cons_self ..)
  cases h : lt x y
  ·have hyx := t.tot x y hx hy (fun e => hn (by simp [e])) h
   obtain ⟨s', h1, h2⟩ := ins_ex t hx r hp.2 (fun z hz => hm z (List.mem_cons_of_mem _ hz)) (fun hc => hn (List.mem_cons_of_mem _ hc))
   refine ⟨y :: s', (h1.cons y).trans (List.Perm.swap ..), List.pairwise_cons.2 ⟨fun z hz => ?_, h2⟩⟩
   rcases List.mem_cons.1 (h1.mem_iff.1 hz) with rfl | hz
   ·exact hyx
   ·exact hp.1 z hz
  ·refine ⟨x :: y :: r, .refl _, List.pairwise_cons.2 ⟨fun z hz => ?_, hs⟩⟩
   rcases List.mem_cons.1 hz with rfl | hz
   ·exact h
   ·exact t.tr x y z hx hy (hm z (List.mem_cons_of_mem _ hz)) h (hp.1 z hz)
theorem srt_ex' {n : Nat} {lt : Int → Int → Bool} (t : Tot n lt) : ∀ l : List Int, l.Nodup → (∀ y ∈ l, y ∈ idL n) → ∃ s : List Int, s.Perm l ∧ s.Pairwise (fun a b => lt a b = true)
 | [], _, _ => ⟨[], .refl _, List.Pairwise.nil⟩
 | x :: r, hn, hm => by
  have hc := List.nodup_cons.1 hn
  obtain ⟨s, h1, h2⟩ := srt_ex' t r hc.2 fun y hy => hm y (List.mem_cons_of_mem _ hy)
  obtain ⟨s', h3, h4⟩ := ins_ex t (hm x (List.mem_cons_self ..)) s h2 (fun y hy => hm y (List.mem_cons_of_mem _ (h1.mem_iff.1 hy))) (fun hx => hc.1 (h1.mem_iff.1 hx))
  exact ⟨s', h3.trans (h1.cons x), h4⟩
theorem idL_nodup (n : Nat) : (idL n).Nodup := by
 refine List.pairwise_iff_getElem.2 fun a b ha hb hab => ?_
 simp only [idL, List.getElem_map, List.getElem_range]
 omega
theorem srt_ex {n : Nat} {lt : Int → Int → Bool} (t : Tot n lt) : ∃ s, Srt n lt s := by
 obtain ⟨s, h1, h2⟩ := srt_ex' t (idL n) (idL_nodup n) fun _ h => h
 exact ⟨s, h1, h2⟩
theorem Srt.same {n : Nat} {lt : Int → Int → Bool} {s r : List Int} (t : Tot n lt) (hs : Srt n lt s) (hr : Srt n lt r) : r = s := by
 refine List.ext_getElem (by rw [hs.len, hr.len]) fun i h1 h2 => ?_
 have hu := hs.uniq t (hr.mem h1)
 rw [hr.place t h1, List.getElem?_eq_getElem h2] at hu
 exact (Option.some.inj hu).symm
def clA (p : Prg) (l : List Clm) (i : Int) : Int := clsG (atC l i) 0 p.cl
theorem ltB_cls {p : Prg} {l : List Clm} {w : List Int} {a b : Int} (h : ltB p l w a b = true) : clA p l a ≤ clA p l b := by
 rw [ltB_iff] at h
 unfold dcP at h
 rw [dcC_fst] at h
 unfold clA
 refine Classical.byContradiction fun hc => ?_
 rw [if_neg (by omega), if_pos (by omega)] at h
 omega
def poolA (p : Prg) (l : List Clm) (s : List Int) : Nat := s.findIdx fun i => decide (p.po ≤ clA p l i)
def rankL (p : Prg) (l : List Clm) (s : List Int) : List Int :=
 s.take (poolA p l s) ++ (shrL p.of p.fo ((s.drop (poolA p l s)).map fun i => (atC l i).ne)).map fun j => (s.drop (poolA p l s)).getD j.toNat 0
theorem poolA_le (p : Prg) (l : List Clm) (s : List Int) : poolA p l s ≤ s.length := List.findIdx_le_length
theorem rankL_length (p : Prg) (l : List Clm) (s : List Int) : (rankL p l s).length = s.length := by
 have := poolA_le p l s
 unfold rankL
 rw [List.length_append, List.length_take, List.length_map, shrL_length, List.length_map, List.length_drop]
 omega
theorem pool_before {p : Prg} {l : List Clm} {s : List Int} {i : Nat} (h : i < poolA p l s) : clA p l (s[i]'(Nat.lt_of_lt_of_le h (poolA_le p l s))) < p.po := by
 have := List.not_of_lt_findIdx h
 simpa using this
theorem pool_behind {p : Prg} {l : List Clm} {s w : List Int} (hs : s.Pairwise fun a b => ltB p l w a b = true) {i : Nat} (hi : i < s.length) (h : poolA p l s ≤ i) : p.po ≤ clA p l s[i] := by
 have hp : poolA p l s < s.length := by omega
 have h0 : p.po ≤ clA p l s[poolA p l s] := by
  have := List.findIdx_getElem (xs := s) (p := fun i => decide (p.po ≤ clA p l i)) (w := hp)
  exact of_decide_eq_true this
 rcases Nat.lt_or_ge (poolA p l s) i with hlt | hge
 ·have := ltB_cls (List.pairwise_iff_getElem.1 hs _ _ hp hi hlt)
  omega
 ·have e : i = poolA p l s := by omega
  subst e
  exact h0
theorem selG_has {v : Bool} : ∀ {k : Nat} {l : List Bool} {i : Nat}, l[i]? = some v → ((k + i : Nat) : Int) ∈ selG v k l
 | k, [], i, h => by simp at h
 | k, b :: r, 0, h => by
  simp at h
  subst h
  simp [selG]
 | k, b :: r, i + 1, h => by
  have ih := selG_has (k := k + 1) (l := r) (i := i) (by simpa using h)
  rw [show k + 1 + i = k + (i + 1) by omega] at ih
  rw [selG]
  split
  ·exact List.mem_cons_of_mem _ ih
  ·exact ih
theorem shrL_has (m fo : Int) {l : List Bool} {i : Nat} (h : i < l.length) : (i : Int) ∈ shrL m fo l := by
 have hp : (shrL m fo l).Perm (selG true 0 l ++ selG false 0 l) := shrG_perm m fo _ _ _ _ (selG_length 0 l)
 refine hp.mem_iff.2 (List.mem_append.2 ?_)
 have := selG_has (k := 0) (List.getElem?_eq_getElem h)
 rw [Nat.zero_add] at this
 cases hb : l[i] <;> rw [hb] at this
 ·exact .inr this
 ·exact .inl this
theorem rankL_has {p : Prg} {l : List Clm} {s : List Int} {x : Int} (h : x ∈ s) : x ∈ rankL p l s := by
 rw [← List.take_append_drop (poolA p l s) s] at h
 unfold rankL
 rcases List.mem_append.1 h with h | h
 ·exact List.mem_append.2 (.inl h)
 ·refine List.mem_append.2 (.inr ?_)
  obtain ⟨j, hj, rfl⟩ := List.getElem_of_mem h
  refine List.mem_map.2 ⟨(j : Int), shrL_has _ _ (by simpa using hj), ?_⟩
  rw [Int.toNat_natCast, List.getD, List.getElem?_eq_getElem hj]
  rfl
def whyW (p : Prg) (l : List Clm) (w : List Int) (a b : Int) : List UInt8 :=
 if ltB p l w b a = true then [115, 104, 97, 114, 101] else if (dcP p (atC l a) (atC l b)).2 = [] then [108, 111, 116] else (dcP p (atC l a) (atC l b)).2
def whyI (p : Prg) (l : List Clm) (w R : List Int) (k : Nat) : List (List UInt8) := (List.range k).map fun j => whyW p l w (R.getD j 0) (R.getD (j + 1) 0)
theorem whyI_succ (p : Prg) (l : List Clm) (w R : List Int) (k : Nat) : whyI p l w R (k + 1) = whyI p l w R k ++ [whyW p l w (R.getD k 0) (R.getD (k + 1) 0)] := by
 simp [whyI, List.range_succ]
theorem whyI_length (p : Prg) (l : List Clm) (w R : List Int) (k : Nat) : (whyI p l w R k).length = k := by simp [whyI]
theorem rankL_in {p : Prg} {l : List Clm} {s : List Int} {x : Int} (h : x ∈ rankL p l s) : x ∈ s := by
 unfold rankL at h
 rcases List.mem_append.1 h with h | h
 ·exact List.mem_of_mem_take h
 ·obtain ⟨j, hj, rfl⟩ := List.mem_map.1 h
  have hp : (shrL p.of p.fo ((s.drop (poolA p l s)).map fun i => (atC l i).ne)).Perm _ := shrG_perm p.of p.fo _ _ _ _ (selG_length 0 _)
  have hlt : j.toNat < (s.drop (poolA p l s)).length := by
   rcases List.mem_append.1 (hp.mem_iff.1 hj) with h | h
   all_goals
    obtain ⟨i, h1, h2⟩ := selG_mem h
    have := (List.getElem?_eq_some_iff.1 h2).1
    rw [List.length_map] at this
    omega
  rw [List.getD, List.getElem?_eq_getElem hlt]
  exact List.mem_of_mem_drop (List.getElem_mem hlt)
def betL (R : List Int) (c : Int) : List Int := R.take (R.findIdx fun x => decide (x = c))
theorem dcF_what {f h : List UInt8 → Int} : ∀ {l : List Kyt}, (∀ k ∈ l, k.fa ∈ fcL) → ((dcF f h l).2 = [] ↔ (dcF f h l).1 = 0)
 | [], _ => by simp [dcF]
 | k :: r, hk => by
  have ih := dcF_what (f := f) (h := h) (l := r) fun x hx => hk x (List.mem_cons_of_mem _ hx)
  rw [dcF]
  split
  ·exact ih
  ·have hne : k.fa ≠ [] := fun e => by
    have := hk k (List.mem_cons_self ..)
    rw [e] at this
    revert this
    decide
   constructor
   ·intro h; exact absurd h hne
   ·intro h
    dsimp only at h
    split at h <;> cases h
theorem dcP_what {p : Prg} (hk : OkKy p) (a b : Clm) : (dcP p a b).2 = [] ↔ (dcP p a b).1 = 0 := by
 unfold dcP
 rcases Int.lt_trichotomy (clsG a 0 p.cl) (clsG b 0 p.cl) with e | e | e
 ·rw [dcC_lt _ _ _ e]; simp
 ·rw [e, dcC_same]
  refine dcF_what fun k hkk => ?_
  unfold keyC at hkk
  cases hc : p.cl[(clsG b 0 p.cl).toNat]? with
  | none => rw [hc] at hkk; simp at hkk
  | some c =>
   rw [hc] at hkk
   exact hk c (List.mem_of_getElem? hc) k hkk
 ·rw [dcC_gt _ _ _ e]; simp
end Go.Proofs.YtcephlgejkngiaaGreatDoor.Co
/-
 Priority: the order of claims, by the program.
-/
namespace Go.Proofs.YtcephlgejkngiaaGreatDoor.Co
open Go Go.Evl
set_option maxRecDepth 100000
abbrev Rkv (p : Prg) (l : List Clm) (w : List Int) : V := .d (.agg [.list p.cl.length (p.cl.flatMap Cls.cells), DI p.po, DI p.of, DI p.fo, .list l.length (l.flatMap Clm.cells), .list w.length (w.map DI)])
def cmpL (p : Prg) (l : List Clm) (w : List Int) (a b : Int) : Int × List UInt8 := if (dcP p (atC l a) (atC l b)).1 = 0 then (cmpI (w.getD a.toNat 0) (w.getD b.toNat 0), [108, 111, 116]) else dcP p (atC l a) (atC l b)
theorem cmpI_lt (a b : Int) : cmpI a b < 0 ↔ a < b := by
 unfold cmpI
 split
 ·simp [*]
 ·split <;> simp [*]
theorem cmpI_gt (a b : Int) : 0 < cmpI a b ↔ b < a := by
 unfold cmpI
 split
 ·simp; omega
 ·split <;> simp [*]
theorem cmpL_lt (p : Prg) (l : List Clm) (w : List Int) (a b : Int) : (cmpL p l w a b).1 < 0 ↔ ltB p l w a b = true := by
 rw [ltB_iff]
 unfold cmpL
 split
 ·rename_i h
  rw [h]
  dsimp only
  rw [cmpI_lt]
  simp
 ·rename_i h
  simp [h]
theorem cmpL_gt (p : Prg) (l : List Clm) (w : List Int) (a b : Int) : 0 < (cmpL p l w a b).1 ↔ ltB p l w b a = true := by
 rw [ltB_iff]
 have hs := dcP_swap p (atC l a) (atC l b)
 unfold cmpL
 split
 ·rename_i h
  rw [h] at hs
  dsimp only
  rw [cmpI_gt]
  constructor
  ·intro hh; exact .inr ⟨by omega, hh⟩
  ·intro hh; rcases hh with hh | hh
   ·omega
   ·exact hh.2
 ·rename_i h
  constructor
  ·intro hh; exact .inl (by omega)
  ·intro hh; rcases hh with hh | hh
   ·omega
   ·omega
theorem cmpL_why {p : Prg} (hk : OkKy p) (l : List Clm) (w : List Int) (a b : Int) : whyW p l w a b = if 0 < (cmpL p l w a b).1 then [115, 104, 97, 114, 101] else (cmpL p l w a b).2 := by
 unfold whyW
 have hw := dcP_what hk (atC l a) (atC l b)
 by_cases h : 0 < (cmpL p l w a b).1
 ·rw [if_pos h, if_pos ((cmpL_gt ..).1 h)]
 ·rw [if_neg h, if_neg (fun hc => h ((cmpL_gt ..).2 hc))]
  unfold cmpL
  by_cases h0 : (dcP p (atC l a) (atC l b)).1 = 0
  ·rw [if_pos (hw.2 h0), if_pos h0]
  ·rw [if_neg (fun hc => h0 (hw.1 hc)), if_neg h0]
structure OkRk (p : Prg) (l : List Clm) (w : List Int) : Prop where
 sm : SmallP p
 wh : OkWh p
 ky : OkKy p
 cl : ∀ c ∈ l, chkCl c = 0
 n : l.length ≤ 12
 w : w.length = l.length
 of' : 1 ≤ p.of ∧ p.of ≤ 100
theorem idx_nat {n : Nat} {x : Int} (h : x ∈ idL n) : ∃ k : Nat, x = k ∧ k < n := by
 have := idL_mem.1 h
 exact ⟨x.toNat, by omega, by omega⟩
section
variable {E : Oracle} (g : Good E)
include g
set_option maxHeartbeats 8000000 in
theorem s_compare {p : Prg} {l : List Clm} {w : List Int} (ok : OkRk p l w) {a b : Int} (ha : a ∈ idL l.length) (hb : b ∈ idL l.length) : Fc E n_priority_ranking_compare [Rkv p l w, I a, I b] (.tup [I (cmpL p l w a b).1, S (cmpL p l w a b).2]) := by
 have d := s_decide g p (atC l a) (atC l b) ok.sm (ok.cl _ (atC_mem ha)) (ok.cl _ (atC_mem hb)) ok.wh ok.ky
 obtain ⟨i, rfl, hi⟩ := idx_nat ha
 obtain ⟨k, rfl, hk⟩ := idx_nat hb
 have hw := ok.w
 have ea : atC l (i : Int) = l[i] := atC_get (i := (i : Int)) (by omega)
 have eb : atC l (k : Int) = l[k] := atC_get (i := (k : Int)) (by omega)
 have hiw : i < w.length := by omega
 have hkw : k < w.length := by omega
 have c := s_CmpI g w[i] w[k]
 unfold cmpL
 rw [ea, eb] at d ⊢
 refine g.fn code_priority_ranking_compare rfl ?_
 by_cases h0 : (dcP p l[i] l[k]).1 = 0
 ·rw [if_pos h0]
  rw [h0] at d
  have e1 : w.getD ((i : Int)).toNat 0 = w[i] := by simp [List.getD, hiw]
  have e2 : w.getD ((k : Int)).toNat 0 = w[k] := by simp [List.getD, hkw]
  rw [e1, e2]
  repeat' ((conv => whnf); first
  | refine Ya ?_ | refine Yb ?_ | refine Yc ?_ | refine Yd ?_ | refine Ye ?_ | refine Yf ?_ | refine Yg ?_ | refine Yh ?_ | refine Yi rfl ?_ | refine Yj rfl ?_ | refine Yk rfl ?_ | refine Yl rfl ?_
   | (refine PickW.rec Clm.cells_length i rfl hi ?_)
   | (refine PickW.rec Clm.cells_length k rfl hk ?_)
   | (refine Pick.intI i rfl hiw ?_)
   | (refine Pick.intI k rfl hkw ?_)
   | (apply CallI.of; assumption)
   | (refine Ret.mk rfl))
 ·rw [if_neg h0]
  generalize dcP p l[i] l[k] = z at *
  repeat' ((conv => whnf); first
  | refine Ya ?_ | refine Yb ?_ | refine Yc ?_ | refine Yd ?_ | refine Ye ?_ | refine Yf ?_ | refine Yg ?_ | refine Yh ?_ | refine Yi rfl ?_ | refine Yj rfl ?_ | refine Yk rfl ?_ | refine Yl rfl ?_
   | (refine PickW.rec Clm.cells_length i rfl hi ?_)
   | (refine PickW.rec Clm.cells_length k rfl hk ?_)
   | (apply CallI.of; assumption)
   | (refine Cmp.ff h0 ?_)
   | (refine Ret.mk rfl))
abbrev ordM (p : Prg) (l : List Clm) (w : List Int) (s : List Int) : Mem := [(⟨0, 1, 0⟩, .cells ty_priority_ranking [LC p.cl, I p.po, I p.of, I p.fo, LM l, LI w]), (⟨0, 2, 0⟩, .row true ty_int 1 0 []), (⟨0, 14, 0⟩, .row true ty_int 1 l.length (s.map DI))]
theorem in_order1 {p : Prg} {l : List Clm} {w : List Int} (ok : OkRk p l w) (x y : Int) (s : List Int) {K : V → Mem → Prop} (hx : x ∈ idL l.length) (hy : y ∈ idL l.length) (hK : ∀ c : Int, (c < 0 ↔ ltB p l w x y = true) → K (I c) (ordM p l w s)) :
  In E 4 n_priority_ranking_order_1 [I x, I y, .ptr ⟨0, 1, 0⟩ 0 0] (ordM p l w s) K := by
 have hc := s_compare g ok hx hy
 have hk := hK _ (cmpL_lt p l w x y)
 generalize cmpL p l w x y = z at *
 refine In.enter g.lim rfl code_priority_ranking_order_1 ?_
 repeat' ((conv => whnf); first
 | refine Ya ?_ | refine Yb ?_ | refine Yc ?_ | refine Yd ?_ | refine Ye ?_ | refine Yf ?_ | refine Yg ?_ | refine Yh ?_ | refine Yi rfl ?_ | refine Yj rfl ?_ | refine Yk rfl ?_ | refine Yl rfl ?_
  | (apply CallI.of; assumption)
  | (exact hk))
theorem in_order2 {p : Prg} {l : List Clm} {w : List Int} (ok : OkRk p l w) (x : Int) (s : List Int) {K : V → Mem → Prop} (hx : x ∈ idL l.length) (hK : K (B (decide (p.po ≤ clA p l x))) (ordM p l w s)) :
  In E 2 n_priority_ranking_order_2 [I x, .ptr ⟨0, 1, 0⟩ 0 0] (ordM p l w s) K := by
 have hc := s_classOf g p (atC l x) ok.sm (ok.cl _ (atC_mem hx)) ok.wh
 obtain ⟨i, rfl, hi⟩ := idx_nat hx
 have ea : atC l (i : Int) = l[i] := atC_get (i := (i : Int)) (by omega)
 unfold clA at hK
 rw [ea] at hc hK
 have l1 := ok.n
 generalize clsG l[i] 0 p.cl = z at *
 refine In.enter g.lim rfl code_priority_ranking_order_2 ?_
 by_cases h : p.po ≤ z
 ·rw [decide_eq_true h] at hK
  repeat' ((conv => whnf); first
  | refine Ya ?_ | refine Yb ?_ | refine Yc ?_ | refine Yd ?_ | refine Ye ?_ | refine Yf ?_ | refine Yg ?_ | refine Yh ?_ | refine Yi rfl ?_ | refine Yj rfl ?_ | refine Yk rfl ?_ | refine Yl rfl ?_
   | (refine PickW.rec Clm.cells_length i rfl hi ?_)
   | (apply CallI.of; assumption)
   | (exact hK))
 ·rw [decide_eq_false h] at hK
  repeat' ((conv => whnf); first
  | refine Ya ?_ | refine Yb ?_ | refine Yc ?_ | refine Yd ?_ | refine Ye ?_ | refine Yf ?_ | refine Yg ?_ | refine Yh ?_ | refine Yi rfl ?_ | refine Yj rfl ?_ | refine Yk rfl ?_ | refine Yl rfl ?_
   | (refine PickW.rec Clm.cells_length i rfl hi ?_)
   | (apply CallI.of; assumption)
   | (exact hK))
theorem in_index {p : Prg} {l : List Clm} {w : List Int} (ok : OkRk p l w) (s : List Int) {K : V → Mem → Prop} (hs : s.length = l.length) (hm : ∀ x ∈ s, x ∈ idL l.length) (hK : K (I (if poolA p l s < s.length then (poolA p l s : Int) else -1)) (ordM p l w s)) :
  In E 1 n_slices_IndexFunc_Lint_int [.ref ⟨0, 14, 0⟩ 0 l.length l.length, .fn n_priority_ranking_order_2 [] [.ptr ⟨0, 1, 0⟩ 0 0]] (ordM p l w s) K := by
 have l1 := ok.n
 refine In.enter g.lim rfl code_slices_IndexFunc_Lint_int ?_
 repeat' ((conv => whnf); first
 | refine Ya ?_ | refine Yb ?_ | refine Yc ?_ | refine Yd ?_ | refine Ye ?_ | refine Yf ?_ | refine Yg ?_ | refine Yh ?_ | refine Yi rfl ?_ | refine Yj rfl ?_ | refine Yk rfl ?_ | refine Yl rfl ?_)
 refine LoopW.to (LoopW.upP g (fun k => [(0, .ref ⟨0, 14, 0⟩ 0 l.length l.length), (1, .fn n_priority_ranking_order_2 [] [.ptr ⟨0, 1, 0⟩ 0 0]), (7, I l.length), (8, I k)]) (fun _ => ordM p l w s) (fun k => k ≤ poolA p l s) l.length (fun k hk hp ih => ?_) 0 (Nat.zero_le _) (Nat.zero_le _)) rfl rfl
 by_cases hlt : k < l.length
 ·have hks : k < s.length := by omega
  have hx := hm _ (List.getElem_mem hks)
  have hin := fun {K} => in_order2 g ok s[k] s (K := K) hx
  by_cases h : p.po ≤ clA p l s[k]
  ·have he : poolA p l s = k := by
    refine Nat.le_antisymm ?_ hp
    refine Nat.le_of_not_lt fun hc => ?_
    have := pool_before hc
    omega
   rw [decide_eq_true h] at hin
   rw [he, if_pos hks] at hK
   repeat' ((conv => whnf); first
   | refine Ya ?_ | refine Yb ?_ | refine Yc ?_ | refine Yd ?_ | refine Ye ?_ | refine Yf ?_ | refine Yg ?_ | refine Yh ?_ | refine Yi rfl ?_ | refine Yj rfl ?_ | refine Yk rfl ?_ | refine Yl rfl ?_
    | (refine Pick.intI0 k rfl hks ?_)
    | (refine hin ?_)
    | (exact hK))
  ·have hp' : k + 1 ≤ poolA p l s := by
    refine Nat.lt_of_le_of_ne hp fun e => h ?_
    subst e
    have hw : poolA p l s < s.length := hks
    have := List.findIdx_getElem (xs := s) (p := fun i => decide (p.po ≤ clA p l i)) (w := hw)
    exact of_decide_eq_true this
   have ih := ih hlt hp'
   rw [decide_eq_false h] at hin
   repeat' ((conv => whnf); first
   | refine Ya ?_ | refine Yb ?_ | refine Yc ?_ | refine Yd ?_ | refine Ye ?_ | refine Yf ?_ | refine Yg ?_ | refine Yh ?_ | refine Yi rfl ?_ | refine Yj rfl ?_ | refine Yk rfl ?_ | refine Yl rfl ?_
    | (refine Pick.intI0 k rfl hks ?_)
    | (refine hin ?_)
    | (refine LoopW.to ih rfl rfl))
 ·have hle := poolA_le p l s
  rw [if_neg (by omega)] at hK
  repeat' ((conv => whnf); first
  | refine Ya ?_ | refine Yb ?_ | refine Yc ?_ | refine Yd ?_ | refine Ye ?_ | refine Yf ?_ | refine Yg ?_ | refine Yh ?_ | refine Yi rfl ?_ | refine Yj rfl ?_ | refine Yk rfl ?_ | refine Yl rfl ?_
   | (exact hK))
omit g in
theorem copy_id (n : Nat) : patch (List.replicate n [DI 0]).flatten (0 * 1) (((idL n).map DI).take (min (idL n).length n * 1)) = (idL n).map DI := by
 have h := idL_length n
 have hm : ((idL n).map DI).take (min (idL n).length n * 1) = (idL n).map DI := List.take_of_length_le (by simp [h])
 rw [hm]
 unfold patch
 simp [h]
omit g in
theorem pool_win (s : List Int) (a n : Nat) (h : s.length = n) : (if 0 + a = 0 ∧ n - a = n then s.map DI else win (s.map DI) ((0 + a) * 1) ((n - a) * 1)) = (s.drop a).map DI := by
 subst h
 split
 ·rename_i h
  rw [show a = 0 by omega]
  rfl
 ·unfold win
  rw [Nat.zero_add, Nat.mul_one, Nat.mul_one, ← List.map_drop, List.take_of_length_le (by simp)]
set_option maxHeartbeats 16000000 in
theorem s_order {p : Prg} {l : List Clm} {w s : List Int} (ok : OkRk p l w) (t : Tot l.length (ltB p l w)) (hs : Srt l.length (ltB p l w) s) : Fc E n_priority_ranking_order [Rkv p l w] (LI (rankL p l s)) := by
 refine g.fn code_priority_ranking_order rfl ?_
 have l1 := ok.n
 have hil := idL_length l.length
 have hi := s_indices g l.length (by omega)
 have hsort0 := fun {K} => in_sortR g (K := K) t ok.n n_priority_ranking_order_1 (.list p.cl.length (p.cl.flatMap Cls.cells)) (DI p.po) (DI p.of) (DI p.fo) (.list l.length (l.flatMap Clm.cells)) (.list w.length (w.map DI)) (fun x y r K hx hy hK => in_order1 g ok x y r hx hy hK)
 have hsort : ∀ {K : V → Mem → Prop} {xs : List D}, xs = (idL l.length).map DI → K (.tup []) (ordM p l w s) → In E 1 n_slices_SortFunc_Lint_int [.ref ⟨0, 14, 0⟩ 0 l.length l.length, .fn n_priority_ranking_order_1 [] [.ptr ⟨0, 1, 0⟩ 0 0]] [(⟨0, 1, 0⟩, .cells ty_priority_ranking [LC p.cl, I p.po, I p.of, I p.fo, LM l, LI w]), (⟨0, 2, 0⟩, .row true ty_int 1 0 []), (⟨0, 14, 0⟩, .row true ty_int 1 l.length xs)] K := fun h1 h2 => by
  subst h1
  refine hsort0 fun r hr => ?_
  rw [hs.same t hr]
  exact h2
 clear hsort0
 have hsl := hs.len
 have hix := fun {K} => in_index g ok s (K := K) hsl (fun x hx => hs.pm.mem_iff.1 hx)
 repeat' ((conv => whnf); first
 | refine Ya ?_ | refine Yb ?_ | refine Yc ?_ | refine Yd ?_ | refine Ye ?_ | refine Yf ?_ | refine Yg ?_ | refine Yh ?_ | refine Yi rfl ?_ | refine Yj rfl ?_ | refine Yk rfl ?_ | refine Yl rfl ?_
  | (apply CallI.of; assumption)
  | (refine Need.mk ⟨by omega, rfl, by omega, by omega⟩ ?_)
  | (refine hsort (copy_id _) ?_)
  | (refine hix ?_))
 by_cases ha : poolA p l s < s.length
 ·rw [if_pos ha]
  have hP : (s.drop (poolA p l s)).length = l.length - poolA p l s := by simp [hsl]
  have hpm : ∀ x ∈ s.drop (poolA p l s), x ∈ idL l.length := fun x hx => hs.pm.mem_iff.1 (List.mem_of_mem_drop hx)
  have hwin := pool_win s (poolA p l s) l.length hsl
  have hrk : rankL p l s = s.take (poolA p l s) ++ (shrL p.of p.fo ((s.drop (poolA p l s)).map fun i => (atC l i).ne)).map fun j => (s.drop (poolA p l s)).getD j.toNat 0 := rfl
  generalize rankL p l s = R at *
  generalize poolA p l s = a at *
  generalize hPs : s.drop a = P at *
  repeat' ((conv => whnf); first
  | refine Ya ?_ | refine Yb ?_ | refine Yc ?_ | refine Yd ?_ | refine Ye ?_ | refine Yf ?_ | refine Yg ?_ | refine Yh ?_ | refine Yi rfl ?_ | refine Yj rfl ?_ | refine Yk rfl ?_ | refine Yl rfl ?_
   | (refine Bounds.at a l.length rfl rfl ⟨by omega, by omega⟩ ?_)
   | (refine In.enter g.lim rfl code_slices_Clone_Lint_int ?_)
   | (refine Need.mk ⟨rfl, rfl, rfl, rfl, rfl, by rw [hwin]; simp [hP], by show (0 + (l.length - a)) * 8 ≤ _; omega, by omega⟩ ?_))
  refine LoopW.to (LoopW.up g (fun k => [(1, .ptr ⟨0, 1, 0⟩ 0 0), (3, .ref ⟨0, 14, 0⟩ 0 l.length l.length), (4, I a), (5, LI P), (6, .ref ⟨0, 6, 0⟩ 0 k k), (34, LI P), (35, I P.length), (36, I k)])
   (fun k => ordM p l w s ++ [(⟨0, 6, 0⟩, .row false ty_bool 1 k ((P.take k).map fun i => D.bool (atC l i).ne))]) P.length (fun k hk ih => ?_) 0 (Nat.zero_le _)) ?_ ?_
  ·by_cases hlt : k < P.length
   ·have ih := ih hlt
    have hx := hpm _ (List.getElem_mem hlt)
    rw [List.take_add_one, List.getElem?_eq_getElem hlt, List.map_append] at ih
    obtain ⟨i, hxi, hi⟩ := idx_nat hx
    have ea : atC l (i : Int) = l[i] := atC_get (i := (i : Int)) (by omega)
    have hlen : ((P.take k).map fun i => D.bool (atC l i).ne).length = k := by simp; omega
    simp only [Option.toList_some, List.map_cons, List.map_nil] at ih
    rw [hxi, ea] at ih
    repeat' ((conv => whnf); first
    | refine Ya ?_ | refine Yb ?_ | refine Yc ?_ | refine Yd ?_ | refine Ye ?_ | refine Yf ?_ | refine Yg ?_ | refine Yh ?_ | refine Yi rfl ?_ | refine Yj rfl ?_ | refine Yk rfl ?_ | refine Yl rfl ?_
     | (refine Pick.intI k rfl hlt ?_; rw [hxi])
     | (refine Pick.rec Clm.cells_length i rfl hi rfl ?_)
     | (refine Need.mk (by simp only [List.length_cons, List.length_nil]; omega) ?_)
     | (refine LoopW.to ih rfl rfl))
   ·obtain rfl : k = P.length := by omega
    rw [List.take_length]
    have hne : (P.map fun i => (atC l i).ne).length = P.length := List.length_map ..
    have hmap : (P.map fun i => D.bool (atC l i).ne) = (P.map fun i => (atC l i).ne).map D.bool := by rw [List.map_map]; rfl
    have hil : ∀ {n : Nat} {cs : List D}, n = P.length → cs = P.map (fun i => D.bool (atC l i).ne) → Fc E n_priority_interleaved [I p.of, I p.fo, .d (.list n cs)] (LI (shrL p.of p.fo (P.map fun i => (atC l i).ne))) := fun h1 h2 => by
     subst h1 h2
     have : Fc E n_priority_interleaved [I p.of, I p.fo, .d (.list (P.map fun i => (atC l i).ne).length ((P.map fun i => (atC l i).ne).map D.bool))] (LI (shrL p.of p.fo (P.map fun i => (atC l i).ne))) := s_interleaved g p.of p.fo (P.map fun i => (atC l i).ne) ok.of' (by omega)
     rw [hne, ← hmap] at this
     exact this
    have hord := shrL_ord p.of p.fo (P.map fun i => (atC l i).ne)
    rw [hne] at hord
    have hrl := hord.len
    generalize shrL p.of p.fo (P.map fun i => (atC l i).ne) = r at *
    repeat' ((conv => whnf); first
    | refine Ya ?_ | refine Yb ?_ | refine Yc ?_ | refine Yd ?_ | refine Ye ?_ | refine Yf ?_ | refine Yg ?_ | refine Yh ?_ | refine Yi rfl ?_ | refine Yj rfl ?_ | refine Yk rfl ?_ | refine Yl rfl ?_
     | (refine CallI.of (hil rfl (if_pos ⟨rfl, rfl⟩)) ?_))
    refine LoopW.to (LoopW.up g (fun k => [(3, .ref ⟨0, 14, 0⟩ 0 l.length l.length), (4, I a), (5, LI P), (57, LI r), (58, I r.length), (59, I k)])
     (fun k => ordM p l w (s.take a ++ (r.take k).map (fun j => P.getD j.toNat 0) ++ s.drop (a + k)) ++ [(⟨0, 6, 0⟩, .row false ty_bool 1 P.length (P.map fun i => D.bool (atC l i).ne))]) r.length (fun k hk ih => ?_) 0 (Nat.zero_le _)) rfl ?_
    ·by_cases hlt : k < r.length
     ·have ih := ih hlt
      have hjr := hord.rng k (by omega)
      have hrk : r.getD k 0 = r[k] := by simp [List.getD, hlt]
      rw [hrk] at hjr
      obtain ⟨j, hj, hjP⟩ : ∃ j : Nat, r[k] = j ∧ j < P.length := ⟨r[k].toNat, by omega, by omega⟩
      have hset : (s.take a ++ (r.take k).map (fun j => P.getD j.toNat 0) ++ s.drop (a + k)).set (a + k) P[j] = s.take a ++ (r.take (k + 1)).map (fun j => P.getD j.toNat 0) ++ s.drop (a + (k + 1)) := by
       have hak : a + k < s.length := by omega
       have hlen : (s.take a ++ (r.take k).map fun j => P.getD j.toNat 0).length = a + k := by simp; omega
       rw [List.drop_eq_getElem_cons hak, List.set_append_right _ _ (by omega), hlen, Nat.sub_self, List.set_cons_zero, List.take_add_one, List.getElem?_eq_getElem hlt, List.map_append, hj]
       simp [List.getD, hjP, Nat.add_assoc]
      have hTl : (s.take a ++ (r.take k).map (fun j => P.getD j.toNat 0) ++ s.drop (a + k)).length = l.length := by simp; omega
      rw [← hset] at ih
      generalize s.take a ++ (r.take k).map (fun j => P.getD j.toNat 0) ++ s.drop (a + k) = T at *
      have hp := patch_set T (a + k) P[j] (by omega)
      repeat' ((conv => whnf); first
      | refine Ya ?_ | refine Yb ?_ | refine Yc ?_ | refine Yd ?_ | refine Ye ?_ | refine Yf ?_ | refine Yg ?_ | refine Yh ?_ | refine Yi rfl ?_ | refine Yj rfl ?_ | refine Yk rfl ?_ | refine Yl rfl ?_
       | (refine Pick.intI k rfl hlt ?_; rw [hj])
       | (refine Pick.intI j rfl hjP ?_)
       | (refine Need.mk ⟨rfl, by simp; omega, rfl⟩ ?_)
       | (refine LoopW.to ih rfl ?_))
      have e : (0 + ((a : Int) + (k : Int)).toNat) * 1 = a + k := by omega
      rw [e, hp]
      rfl
     ·obtain rfl : k = r.length := by omega
      rw [List.take_length, List.drop_of_length_le (by omega), List.append_nil, ← hrk]
      have hRl : R.length = l.length := by
       rw [hrk]
       simp
       omega
      repeat' ((conv => whnf); first
      | refine Ya ?_ | refine Yb ?_ | refine Yc ?_ | refine Yd ?_ | refine Ye ?_ | refine Yf ?_ | refine Yg ?_ | refine Yh ?_ | refine Yi rfl ?_ | refine Yj rfl ?_ | refine Yk rfl ?_ | refine Yl rfl ?_
       | (refine Ret.mk ?_))
      rw [if_pos ⟨rfl, rfl⟩]
      show V.d (.list l.length _) = V.d (.list R.length _)
      rw [hRl]
    ·simp
  ·rw [if_pos ⟨rfl, rfl⟩, hwin, List.nil_append, ← hP, Nat.zero_add P.length]
   rfl
  ·rfl
 ·rw [if_neg ha]
  have he : rankL p l s = s := by
   have := poolA_le p l s
   unfold rankL
   rw [List.take_of_length_le (by omega), List.drop_of_length_le (by omega)]
   simp [shrL, shrG]
  rw [he]
  repeat' ((conv => whnf); first
  | refine Ya ?_ | refine Yb ?_ | refine Yc ?_ | refine Yd ?_ | refine Ye ?_ | refine Yf ?_ | refine Yg ?_ | refine Yh ?_ | refine Yi rfl ?_ | refine Yj rfl ?_ | refine Yk rfl ?_ | refine Yl rfl ?_
   | (refine Ret.mk ?_))
  rw [if_pos ⟨rfl, rfl⟩]
  show V.d (.list l.length _) = V.d (.list s.length _)
  rw [hsl]
end
end Go.Proofs.YtcephlgejkngiaaGreatDoor.Co
/-
 Priority: keys checked; equal lists; lists of integers as parameters.
-/
namespace Go.Proofs.YtcephlgejkngiaaGreatDoor.Co
open Go Go.Evl
set_option maxRecDepth 100000
section
variable {E : Oracle} (g : Good E)
include g
theorem s_EqualI (a b : List Int) (ha : a.length ≤ 140737488355328) : Fc E n_slices_Equal_Lint_int [LI a, LI b] (B (decide (a = b))) := by
 refine g.fn code_slices_Equal_Lint_int rfl ?_
 by_cases hl : a.length = b.length
 ·generalize hR : decide (a = b) = R
  repeat' ((conv => whnf); first
  | refine Ya ?_ | refine Yb ?_ | refine Yc ?_ | refine Yd ?_ | refine Ye ?_ | refine Yf ?_ | refine Yg ?_ | refine Yh ?_ | refine Yi rfl ?_ | refine Yj rfl ?_ | refine Yk rfl ?_ | refine Yl rfl ?_)
  refine LoopW.to (LoopW.upP g (fun k => [(0, LI a), (1, LI b), (12, I a.length), (13, I k)]) (fun _ => []) (fun k => a.take k = b.take k) a.length (fun k hk hp ih => ?_) 0 (Nat.zero_le _) (by simp)) rfl rfl
  by_cases hlt : k < a.length
  ·have hlb : k < b.length := by omega
   have hs : a.take (k + 1) = b.take (k + 1) ↔ a[k] = b[k] := by
    have e1 : a.take (k + 1) = b.take k ++ [a[k]] := by rw [List.take_add_one, hp, List.getElem?_eq_getElem hlt]; rfl
    have e2 : b.take (k + 1) = b.take k ++ [b[k]] := by rw [List.take_add_one, List.getElem?_eq_getElem hlb]; rfl
    rw [e1, e2]
    exact ⟨fun h => List.singleton_inj.1 (List.append_cancel_left h), fun h => by rw [h]⟩
   by_cases he : a[k] = b[k]
   ·have ih := ih hlt (hs.2 he)
    repeat' ((conv => whnf); first
    | refine Ya ?_ | refine Yb ?_ | refine Yc ?_ | refine Yd ?_ | refine Ye ?_ | refine Yf ?_ | refine Yg ?_ | refine Yh ?_ | refine Yi rfl ?_ | refine Yj rfl ?_ | refine Yk rfl ?_ | refine Yl rfl ?_
     | (refine Pick.intI k rfl hlt ?_)
     | (refine Pick.intI k rfl hlb ?_)
     | (refine LoopW.to ih rfl rfl))
   ·rw [← hR, decide_eq_false (fun e => he (by subst e; rfl))]
    repeat' ((conv => whnf); first
    | refine Ya ?_ | refine Yb ?_ | refine Yc ?_ | refine Yd ?_ | refine Ye ?_ | refine Yf ?_ | refine Yg ?_ | refine Yh ?_ | refine Yi rfl ?_ | refine Yj rfl ?_ | refine Yk rfl ?_ | refine Yl rfl ?_
     | (refine Pick.intI k rfl hlt ?_)
     | (refine Pick.intI k rfl hlb ?_)
     | (refine Ret.mk rfl))
  ·have hk' : k = a.length := by omega
   subst hk'
   rw [List.take_of_length_le (Nat.le_refl _), List.take_of_length_le (by omega)] at hp
   rw [← hR, decide_eq_true hp]
   repeat' ((conv => whnf); first
   | refine Ya ?_ | refine Yb ?_ | refine Yc ?_ | refine Yd ?_ | refine Ye ?_ | refine Yf ?_ | refine Yg ?_ | refine Yh ?_ | refine Yi rfl ?_ | refine Yj rfl ?_ | refine Yk rfl ?_ | refine Yl rfl ?_
    | (refine Ret.mk rfl))
 ·rw [decide_eq_false (fun e => hl (by rw [e]))]
  repeat' ((conv => whnf); first
  | refine Ya ?_ | refine Yb ?_ | refine Yc ?_ | refine Yd ?_ | refine Ye ?_ | refine Yf ?_ | refine Yg ?_ | refine Yh ?_ | refine Yi rfl ?_ | refine Yj rfl ?_ | refine Yk rfl ?_ | refine Yl rfl ?_
   | (refine Ret.mk rfl))
theorem s_checkKey (n : Int) : Fc E n_priority_checkKey [I n] (I (rng n 1 2147483646)) := by
 refine g.fn code_priority_checkKey rfl ?_
 have h := s_pwithin g n 1 2147483646
 repeat' ((conv => whnf); first
 | refine Ya ?_ | refine Yb ?_ | refine Yc ?_ | refine Yd ?_ | refine Ye ?_ | refine Yf ?_ | refine Yg ?_ | refine Yh ?_ | refine Yi rfl ?_ | refine Yj rfl ?_ | refine Yk rfl ?_ | refine Yl rfl ?_
  | (apply CallI.of; assumption)
  | (refine Ret.mk rfl))
end
end Go.Proofs.YtcephlgejkngiaaGreatDoor.Co
/-
 Priority: Rank, Why, CheckRank and Better, by the program.
-/
namespace Go.Proofs.YtcephlgejkngiaaGreatDoor.Co
open Go Go.Evl
set_option maxRecDepth 100000
def chkRk (p : Prg) (key : Int) (l : List Clm) : Int := firstI [chkPg p, rng key 1 2147483646, chkCms l]
theorem chkRk_zero {p : Prg} {key : Int} {l : List Clm} (h : chkRk p key l = 0) : chkPg p = 0 ∧ (1 ≤ key ∧ key ≤ 2147483646) ∧ chkCms l = 0 := by
 unfold chkRk at h
 rw [firstI_zero] at h
 exact ⟨h _ (by simp), rng_zero.1 (h _ (by simp)), h _ (by simp)⟩
theorem rk_ok {p : Prg} {key : Int} {l : List Clm} (h : chkRk p key l = 0) (hl : l.length ≤ 12) : OkRk p l (lotL key l) := by
 obtain ⟨h1, h2, h3⟩ := chkRk_zero h
 have ok := chkPg_zero h1
 exact ⟨ok.small, ok.okWh, ok.okKy, (chkCms_zero h3).2.1, hl, lotL_length key l, ok.of'⟩
theorem rk_tot {p : Prg} {key : Int} {l : List Clm} (h : chkRk p key l = 0) : Tot l.length (ltB p l (lotL key l)) := ltB_tot (chkCms_zero (chkRk_zero h).2.2).2.2
abbrev LS (l : List (List UInt8)) : V := .d (.list l.length (l.map D.str))
section
variable {E : Oracle} (g : Good E)
include g
theorem s_checkRanking (p : Prg) (key : Int) (l : List Clm) (hs : SmallP p) (hl : l.length ≤ 1000000) : Fc E n_priority_checkRanking [Pgv p, I key, LM l] (I (chkRk p key l)) := by
 have h1 := s_CheckProgram g p hs
 have h2 := s_checkKey g key
 have h3 := s_checkClaims g l hl
 have h4 := s_pfirst3 g (chkPg p) (rng key 1 2147483646) (chkCms l)
 refine g.fn code_priority_checkRanking rfl ?_
 unfold chkRk
 repeat' ((conv => whnf); first
 | refine Ya ?_ | refine Yb ?_ | refine Yc ?_ | refine Yd ?_ | refine Ye ?_ | refine Yf ?_ | refine Yg ?_ | refine Yh ?_ | refine Yi rfl ?_ | refine Yj rfl ?_ | refine Yk rfl ?_ | refine Yl rfl ?_
  | (apply CallI.of; assumption)
  | (refine Ret.mk rfl))
theorem s_ranked {p : Prg} {key : Int} {l : List Clm} (h : chkRk p key l = 0) (hl : l.length ≤ 12) : Fc E n_priority_ranked [Pgv p, I key, LM l] (Rkv p l (lotL key l)) := by
 obtain ⟨h1, h2, h3⟩ := chkRk_zero h
 have hk := s_lots g key l h2 hl (chkCms_zero h3).2.2
 refine g.fn code_priority_ranked rfl ?_
 repeat' ((conv => whnf); first
 | refine Ya ?_ | refine Yb ?_ | refine Yc ?_ | refine Yd ?_ | refine Ye ?_ | refine Yf ?_ | refine Yg ?_ | refine Yh ?_ | refine Yi rfl ?_ | refine Yj rfl ?_ | refine Yk rfl ?_ | refine Yl rfl ?_
  | (apply CallI.of; assumption)
  | (refine Ret.mk rfl))
theorem s_Rank {p : Prg} {key : Int} {l : List Clm} {s : List Int} (h : chkRk p key l = 0) (hl : l.length ≤ 12) (hs : Srt l.length (ltB p l (lotL key l)) s) : Fc E n_priority_Rank [Pgv p, I key, LM l] (.tup [LI (rankL p l s), I 0]) := by
 have ok := rk_ok h hl
 have h1 := s_checkRanking g p key l ok.sm (by omega)
 have h2 := s_ranked g h hl
 have h3 := s_order g ok (rk_tot h) hs
 rw [h] at h1
 refine g.fn code_priority_Rank rfl ?_
 repeat' ((conv => whnf); first
 | refine Ya ?_ | refine Yb ?_ | refine Yc ?_ | refine Yd ?_ | refine Ye ?_ | refine Yf ?_ | refine Yg ?_ | refine Yh ?_ | refine Yi rfl ?_ | refine Yj rfl ?_ | refine Yk rfl ?_ | refine Yl rfl ?_
  | (apply CallI.of; assumption)
  | (refine Ret.mk rfl))
theorem s_Rank_bad (p : Prg) (key : Int) (l : List Clm) (hs : SmallP p) (hl : l.length ≤ 1000000) (h : chkRk p key l ≠ 0) : Fc E n_priority_Rank [Pgv p, I key, LM l] (.tup [.d (.list 0 []), I (chkRk p key l)]) := by
 have h1 := s_checkRanking g p key l hs hl
 refine g.fn code_priority_Rank rfl ?_
 generalize chkRk p key l = r at *
 repeat' ((conv => whnf); first
 | refine Ya ?_ | refine Yb ?_ | refine Yc ?_ | refine Yd ?_ | refine Ye ?_ | refine Yf ?_ | refine Yg ?_ | refine Yh ?_ | refine Yi rfl ?_ | refine Yj rfl ?_ | refine Yk rfl ?_ | refine Yl rfl ?_
  | (apply CallI.of; assumption)
  | (refine Cmp.tt h ?_)
  | (refine Ret.mk rfl))
theorem s_Why_bad (p : Prg) (key : Int) (l : List Clm) (hs : SmallP p) (hl : l.length ≤ 1000000) (h : chkRk p key l ≠ 0) : Fc E n_priority_Why [Pgv p, I key, LM l] (.tup [.d (.list 0 []), I (chkRk p key l)]) := by
 have h1 := s_checkRanking g p key l hs hl
 refine g.fn code_priority_Why rfl ?_
 generalize chkRk p key l = r at *
 repeat' ((conv => whnf); first
 | refine Ya ?_ | refine Yb ?_ | refine Yc ?_ | refine Yd ?_ | refine Ye ?_ | refine Yf ?_ | refine Yg ?_ | refine Yh ?_ | refine Yi rfl ?_ | refine Yj rfl ?_ | refine Yk rfl ?_ | refine Yl rfl ?_
  | (apply CallI.of; assumption)
  | (refine Cmp.tt h ?_)
  | (refine Ret.mk rfl))
set_option maxHeartbeats 8000000 in
theorem s_Why {p : Prg} {key : Int} {l : List Clm} {s : List Int} (h : chkRk p key l = 0) (hl : l.length ≤ 12) (hs : Srt l.length (ltB p l (lotL key l)) s) : Fc E n_priority_Why [Pgv p, I key, LM l] (.tup [LS (whyI p l (lotL key l) (rankL p l s) (l.length - 1)), I 0]) := by
 have ok := rk_ok h hl
 have h1 := s_checkRanking g p key l ok.sm (by omega)
 have h2 := s_ranked g h hl
 have h3 := s_order g ok (rk_tot h) hs
 have hcm := fun {a b : Int} ha hb => s_compare g ok (a := a) (b := b) ha hb
 have hwy := cmpL_why ok.ky l (lotL key l)
 have hRl : (rankL p l s).length = l.length := by rw [rankL_length, hs.len]
 have hRm : ∀ x ∈ rankL p l s, x ∈ idL l.length := fun x hx => hs.pm.mem_iff.1 (rankL_in hx)
 rw [h] at h1
 refine g.fn code_priority_Why rfl ?_
 generalize rankL p l s = R at *
 have hww := ok.w
 generalize lotL key l = w at *
 repeat' ((conv => whnf); first
 | refine Ya ?_ | refine Yb ?_ | refine Yc ?_ | refine Yd ?_ | refine Ye ?_ | refine Yf ?_ | refine Yg ?_ | refine Yh ?_ | refine Yi rfl ?_ | refine Yj rfl ?_ | refine Yk rfl ?_ | refine Yl rfl ?_
  | (apply CallI.of; assumption))
 refine LoopW.to (LoopW.up g (fun k => [(9, .ptr ⟨0, 9, 0⟩ 0 0), (10, LI R), (11, .ref ⟨0, 11, 0⟩ 0 k k), (12, I ((k : Int) + 1))])
  (fun k => [(⟨0, 3, 0⟩, .cells ty_priority_Program [LC p.cl, I p.po, I p.of, I p.fo]), (⟨0, 6, 0⟩, .row false ty_string 1 0 []), (⟨0, 9, 0⟩, .cells ty_priority_ranking [LC p.cl, I p.po, I p.of, I p.fo, LM l, LI w]), (⟨0, 11, 0⟩, .row false ty_string 1 k ((whyI p l w R k).map D.str))])
  (l.length - 1) (fun k hk ih => ?_) 0 (Nat.zero_le _)) rfl rfl
 have hwl := whyI_length p l w R k
 by_cases hlt : k < l.length - 1
 ·have ih := ih hlt
  have hk0 : k < R.length := by omega
  have hk1 : k + 1 < R.length := by omega
  have hc := hcm (hRm _ (List.getElem_mem hk0)) (hRm _ (List.getElem_mem hk1))
  have e0 : R.getD k 0 = R[k] := by simp [List.getD, hk0]
  have e1 : R.getD (k + 1) 0 = R[k + 1] := by simp [List.getD, hk1]
  rw [whyI_succ, e0, e1, hwy, List.map_append, List.map_cons, List.map_nil] at ih
  generalize cmpL p l w R[k] R[k + 1] = z at *
  generalize whyI p l w R k = W at *
  by_cases hz : 0 < z.1
  ·rw [if_pos hz] at ih
   repeat' ((conv => whnf); first
   | refine Ya ?_ | refine Yb ?_ | refine Yc ?_ | refine Yd ?_ | refine Ye ?_ | refine Yf ?_ | refine Yg ?_ | refine Yh ?_ | refine Yi rfl ?_ | refine Yj rfl ?_ | refine Yk rfl ?_ | refine Yl rfl ?_
    | (refine Pick.intI k (by omega) hk0 ?_)
    | (refine Pick.intI (k + 1) rfl hk1 ?_)
    | (apply CallI.of; assumption)
    | (refine Need.mk (by simp only [List.length_cons, List.length_nil, List.length_map]; omega) ?_)
    | (refine LoopW.to ih rfl rfl))
  ·rw [if_neg hz] at ih
   repeat' ((conv => whnf); first
   | refine Ya ?_ | refine Yb ?_ | refine Yc ?_ | refine Yd ?_ | refine Ye ?_ | refine Yf ?_ | refine Yg ?_ | refine Yh ?_ | refine Yi rfl ?_ | refine Yj rfl ?_ | refine Yk rfl ?_ | refine Yl rfl ?_
    | (refine Pick.intI k (by omega) hk0 ?_)
    | (refine Pick.intI (k + 1) rfl hk1 ?_)
    | (apply CallI.of; assumption)
    | (refine Need.mk (by simp only [List.length_cons, List.length_nil, List.length_map]; omega) ?_)
    | (refine LoopW.to ih rfl rfl))
 ·obtain rfl : k = l.length - 1 := by omega
  repeat' ((conv => whnf); first
  | refine Ya ?_ | refine Yb ?_ | refine Yc ?_ | refine Yd ?_ | refine Ye ?_ | refine Yf ?_ | refine Yg ?_ | refine Yh ?_ | refine Yi rfl ?_ | refine Yj rfl ?_ | refine Yk rfl ?_ | refine Yl rfl ?_
   | (refine Ret.mk ?_))
  rw [if_pos ⟨rfl, rfl⟩]
  show V.tup [V.d (.list (l.length - 1) _), I 0] = V.tup [V.d (.list (whyI p l w R (l.length - 1)).length _), I 0]
  rw [hwl]
def chkOd (R o : List Int) : Int := if o.length ≠ R.length then 2 else if o = R then 0 else 21
theorem s_CheckRank {p : Prg} {key : Int} {l : List Clm} {s : List Int} (o : List Int) (h : chkRk p key l = 0) (hl : l.length ≤ 12) (ho : o.length ≤ 100) (hs : Srt l.length (ltB p l (lotL key l)) s) : Fc E n_priority_CheckRank [Pgv p, I key, LM l, LI o] (I (chkOd (rankL p l s) o)) := by
 have ok := rk_ok h hl
 have h1 := s_checkRanking g p key l ok.sm (by omega)
 have h2 := s_ranked g h hl
 have h3 := s_order g ok (rk_tot h) hs
 have h5 := s_EqualI g o (rankL p l s) (by omega)
 have hRl : (rankL p l s).length = l.length := by rw [rankL_length, hs.len]
 rw [h] at h1
 refine g.fn code_priority_CheckRank rfl ?_
 unfold chkOd
 by_cases hz : o.length = l.length
 ·rw [if_neg (fun h => h (by omega))]
  by_cases he : o = rankL p l s
  ·rw [decide_eq_true he] at h5
   rw [if_pos he]
   repeat' ((conv => whnf); first
   | refine Ya ?_ | refine Yb ?_ | refine Yc ?_ | refine Yd ?_ | refine Ye ?_ | refine Yf ?_ | refine Yg ?_ | refine Yh ?_ | refine Yi rfl ?_ | refine Yj rfl ?_ | refine Yk rfl ?_ | refine Yl rfl ?_
    | (apply CallI.of; assumption)
    | (refine CallI.of (s_pwhen g _ _) ?_)
    | (refine CallI.of (s_pfirst2 g _ _) ?_)
    | (refine Ret.mk rfl))
  ·rw [decide_eq_false he] at h5
   rw [if_neg he]
   repeat' ((conv => whnf); first
   | refine Ya ?_ | refine Yb ?_ | refine Yc ?_ | refine Yd ?_ | refine Ye ?_ | refine Yf ?_ | refine Yg ?_ | refine Yh ?_ | refine Yi rfl ?_ | refine Yj rfl ?_ | refine Yk rfl ?_ | refine Yl rfl ?_
    | (apply CallI.of; assumption)
    | (refine CallI.of (s_pwhen g _ _) ?_)
    | (refine CallI.of (s_pfirst2 g _ _) ?_)
    | (refine Ret.mk rfl))
 ·rw [if_pos (by omega)]
  repeat' ((conv => whnf); first
  | refine Ya ?_ | refine Yb ?_ | refine Yc ?_ | refine Yd ?_ | refine Ye ?_ | refine Yf ?_ | refine Yg ?_ | refine Yh ?_ | refine Yi rfl ?_ | refine Yj rfl ?_ | refine Yk rfl ?_ | refine Yl rfl ?_
   | (apply CallI.of; assumption)
   | (refine CallI.of (s_pwhen g _ _) ?_)
   | (refine CallI.of (s_pfirst2 g _ _) ?_)
   | (refine Ret.mk rfl))
theorem s_CheckRank_bad (p : Prg) (key : Int) (l : List Clm) (o : List Int) (hs : SmallP p) (hl : l.length ≤ 1000000) (h : chkRk p key l ≠ 0) : Fc E n_priority_CheckRank [Pgv p, I key, LM l, LI o] (I (chkRk p key l)) := by
 have h1 := s_checkRanking g p key l hs hl
 have h3 : ∀ x, Fc E n_priority_first [.d (.list 2 [DI (chkRk p key l), DI x])] (I (chkRk p key l)) := fun x => by
  have e : firstI [chkRk p key l, x] = chkRk p key l := by simp [firstI, h]
  rw [← e]
  have := s_pfirst2 g (chkRk p key l) x
  rw [e] at this ⊢
  exact this
 refine g.fn code_priority_CheckRank rfl ?_
 generalize chkRk p key l = r at *
 by_cases hz : o.length = l.length
 all_goals repeat' ((conv => whnf); first
 | refine Ya ?_ | refine Yb ?_ | refine Yc ?_ | refine Yd ?_ | refine Ye ?_ | refine Yf ?_ | refine Yg ?_ | refine Yh ?_ | refine Yi rfl ?_ | refine Yj rfl ?_ | refine Yk rfl ?_ | refine Yl rfl ?_
  | (apply CallI.of; assumption)
  | (refine CallI.of (s_pwhen g _ _) ?_)
  | (refine CallI.of (h3 _) ?_)
  | (refine Cmp.tt h ?_)
  | (refine Ret.mk rfl))
theorem s_IndexI (R : List Int) (c : Int) (hl : R.length ≤ 1000000) (hc : c ∈ R) : Fc E n_slices_Index_Lint_int [LI R, I c] (I (R.findIdx fun x => decide (x = c))) := by
 refine g.fn code_slices_Index_Lint_int rfl ?_
 have hfl : (R.findIdx fun x => decide (x = c)) < R.length := List.findIdx_lt_length_of_exists ⟨c, hc, by simp⟩
 have hget := List.findIdx_getElem (xs := R) (p := fun x => decide (x = c)) (w := hfl)
 have hbef : ∀ k (h : k < R.length), k < (R.findIdx fun x => decide (x = c)) → R[k] ≠ c := fun k h hk => by
  have := List.not_of_lt_findIdx hk
  simpa using this
 generalize (R.findIdx fun x => decide (x = c)) = f at *
 repeat' ((conv => whnf); first
 | refine Ya ?_ | refine Yb ?_ | refine Yc ?_ | refine Yd ?_ | refine Ye ?_ | refine Yf ?_ | refine Yg ?_ | refine Yh ?_ | refine Yi rfl ?_ | refine Yj rfl ?_ | refine Yk rfl ?_ | refine Yl rfl ?_)
 refine LoopW.to (LoopW.upP g (fun k => [(0, LI R), (1, I c), (7, I R.length), (8, I k)]) (fun _ => []) (fun k => k ≤ f) R.length (fun k hk hp ih => ?_) 0 (Nat.zero_le _) (Nat.zero_le _)) rfl rfl
 by_cases hlt : k < R.length
 ·by_cases he : k = f
  ·subst he
   have hx : R[k] = c := of_decide_eq_true hget
   repeat' ((conv => whnf); first
   | refine Ya ?_ | refine Yb ?_ | refine Yc ?_ | refine Yd ?_ | refine Ye ?_ | refine Yf ?_ | refine Yg ?_ | refine Yh ?_ | refine Yi rfl ?_ | refine Yj rfl ?_ | refine Yk rfl ?_ | refine Yl rfl ?_
    | (refine Pick.intI k rfl hlt ?_; rw [hx])
    | (refine Cmp.tt rfl ?_)
    | (refine Ret.mk rfl))
  ·have hx : ¬ c = R[k] := fun e => hbef k hlt (by omega) e.symm
   have ih := ih hlt (by omega)
   repeat' ((conv => whnf); first
   | refine Ya ?_ | refine Yb ?_ | refine Yc ?_ | refine Yd ?_ | refine Ye ?_ | refine Yf ?_ | refine Yg ?_ | refine Yh ?_ | refine Yi rfl ?_ | refine Yj rfl ?_ | refine Yk rfl ?_ | refine Yl rfl ?_
    | (refine Pick.intI k rfl hlt ?_)
    | (refine Cmp.ff hx ?_)
    | (refine LoopW.to ih rfl rfl))
 ·exact absurd hp (by omega)
theorem s_Better {p : Prg} {key : Int} {l : List Clm} {s : List Int} (c : Int) (h : chkRk p key l = 0) (hl : l.length ≤ 12) (hs : Srt l.length (ltB p l (lotL key l)) s) (hc : 0 ≤ c ∧ c < l.length) : Fc E n_priority_Better [Pgv p, I key, LM l, I c] (.tup [LI (betL (rankL p l s) c), I 0]) := by
 have ok := rk_ok h hl
 have h1 := s_checkRanking g p key l ok.sm (by omega)
 have h2 := s_ranked g h hl
 have h3 := s_order g ok (rk_tot h) hs
 have hRl : (rankL p l s).length = l.length := by rw [rankL_length, hs.len]
 have hcR : c ∈ rankL p l s := rankL_has (hs.pm.mem_iff.2 (idL_mem.2 hc))
 have h4 := s_IndexI g (rankL p l s) c (by omega) hcR
 rw [h] at h1
 refine g.fn code_priority_Better rfl ?_
 unfold betL
 have hfl : ((rankL p l s).findIdx fun x => decide (x = c)) ≤ (rankL p l s).length := List.findIdx_le_length
 generalize rankL p l s = R at *
 generalize (R.findIdx fun x => decide (x = c)) = f at *
 repeat' ((conv => whnf); first
 | refine Ya ?_ | refine Yb ?_ | refine Yc ?_ | refine Yd ?_ | refine Ye ?_ | refine Yf ?_ | refine Yg ?_ | refine Yh ?_ | refine Yi rfl ?_ | refine Yj rfl ?_ | refine Yk rfl ?_ | refine Yl rfl ?_
  | (apply CallI.of; assumption)
  | (refine CallI.of (s_pwhen g _ _) ?_)
  | (refine CallI.of (s_pfirst2 g _ _) ?_)
  | (refine Bounds.at 0 f rfl rfl ⟨by omega, hfl⟩ ?_)
  | (refine Ret.mk ?_))
 have hw : win (R.map DI) (0 * 1) ((f - 0) * 1) = (R.take f).map DI := by
  unfold win
  simp
 rw [hw]
 show V.tup [V.d (.list (f - 0) _), I 0] = V.tup [V.d (.list (R.take f).length _), I 0]
 rw [List.length_take, Nat.min_eq_left hfl, Nat.sub_zero]
theorem s_Better_no {p : Prg} {key : Int} {l : List Clm} (c : Int) (h : chkRk p key l = 0) (hl : l.length ≤ 12) (hc : ¬ (0 ≤ c ∧ c < l.length)) : Fc E n_priority_Better [Pgv p, I key, LM l, I c] (.tup [.d (.list 0 []), I 10]) := by
 have ok := rk_ok h hl
 have h1 := s_checkRanking g p key l ok.sm (by omega)
 rw [h] at h1
 refine g.fn code_priority_Better rfl ?_
 by_cases hn : c < 0
 all_goals repeat' ((conv => whnf); first
 | refine Ya ?_ | refine Yb ?_ | refine Yc ?_ | refine Yd ?_ | refine Ye ?_ | refine Yf ?_ | refine Yg ?_ | refine Yh ?_ | refine Yi rfl ?_ | refine Yj rfl ?_ | refine Yk rfl ?_ | refine Yl rfl ?_
  | (apply CallI.of; assumption)
  | (refine CallI.of (s_pwhen g _ _) ?_)
  | (refine CallI.of (s_pfirst2 g _ _) ?_)
  | (refine Ret.mk rfl))
theorem s_Better_bad (p : Prg) (key : Int) (l : List Clm) (c : Int) (hs : SmallP p) (hl : l.length ≤ 1000000) (h : chkRk p key l ≠ 0) : Fc E n_priority_Better [Pgv p, I key, LM l, I c] (.tup [.d (.list 0 []), I (chkRk p key l)]) := by
 have h1 := s_checkRanking g p key l hs hl
 have h3 : ∀ x, Fc E n_priority_first [.d (.list 2 [DI (chkRk p key l), DI x])] (I (chkRk p key l)) := fun x => by
  have e : firstI [chkRk p key l, x] = chkRk p key l := by simp [firstI, h]
  have := s_pfirst2 g (chkRk p key l) x
  rw [e] at this
  exact this
 refine g.fn code_priority_Better rfl ?_
 generalize chkRk p key l = r at *
 by_cases hn : c < 0
 all_goals by_cases hm : (l.length : Int) ≤ c
 all_goals first | (exfalso; omega) | skip
 all_goals repeat' ((conv => whnf); first
 | refine Ya ?_ | refine Yb ?_ | refine Yc ?_ | refine Yd ?_ | refine Ye ?_ | refine Yf ?_ | refine Yg ?_ | refine Yh ?_ | refine Yi rfl ?_ | refine Yj rfl ?_ | refine Yk rfl ?_ | refine Yl rfl ?_
  | (apply CallI.of; assumption)
  | (refine CallI.of (s_pwhen g _ _) ?_)
  | (refine CallI.of (h3 _) ?_)
  | (refine Cmp.tt h ?_)
  | (refine Ret.mk rfl))
end
end Go.Proofs.YtcephlgejkngiaaGreatDoor.Co
/-
 Priority: Rank, Why and Better, by the reference.
-/
namespace Go.Proofs.YtcephlgejkngiaaGreatDoor.Co
open Go Go.Evl
set_option maxRecDepth 100000
structure Bas (n : Nat) (lt : Int → Int → Bool) (i : Nat) (T : List Int) : Prop where
 len : T.length = n
 got : ∀ j : Nat, j < i → T.getD (placeL n lt j) 0 = j
theorem Bas.step {n : Nat} {lt : Int → Int → Bool} {i : Nat} {T : List Int} (t : Tot n lt) (h : Bas n lt i T) (hi : i < n) : Bas n lt (i + 1) (T.set (placeL n lt i) i) := by
 have hm : (i : Int) ∈ idL n := idL_mem.2 (by omega)
 refine ⟨by rw [List.length_set]; exact h.len, fun j hj => ?_⟩
 rw [getD_set _ _ _ _ (by rw [h.len]; exact place_in t hm)]
 by_cases e : j = i
 ·subst e
  rw [if_pos rfl]
 ·rw [if_neg fun hc => e (by have := place_inj t (a := (i : Int)) (b := (j : Int)) hm (idL_mem.2 (by omega)) hc; omega)]
  exact h.got j (by omega)
theorem Bas.done {n : Nat} {lt : Int → Int → Bool} {T s : List Int} (t : Tot n lt) (hs : Srt n lt s) (h : Bas n lt n T) : T = s := by
 refine List.ext_getElem (by rw [h.len, hs.len]) fun k h1 h2 => ?_
 obtain ⟨j, hj, hjn⟩ := idx_nat (hs.mem h2)
 have hp := hs.place t h2
 have hg := h.got j hjn
 rw [← hj, hp, List.getD, List.getElem?_eq_getElem h1, hj] at hg
 rw [hj]
 exact hg
theorem Srt.upB {p : Prg} {l : List Clm} {w s : List Int} (hs : Srt l.length (ltB p l w) s) : s.Pairwise fun a b => ltB p l w a b = true := hs.up
section
variable {E : Oracle} (g : Good E)
include g
set_option maxHeartbeats 8000000 in
theorem r_ahead {p : Prg} {l : List Clm} {w : List Int} (ok : OkRk p l w) {a b : Int} (ha : a ∈ idL l.length) (hb : b ∈ idL l.length) : Fc E n_ref05_ahead [Pgv p, LM l, LI w, I a, I b] (B (ltB p l w a b)) := by
 have d := r_Decide g p (atC l a) (atC l b) ok.sm (ok.cl _ (atC_mem ha)) (ok.cl _ (atC_mem hb)) ok.wh ok.ky
 have hiff := @ltB_iff p l w a b
 obtain ⟨i, rfl, hi⟩ := idx_nat ha
 obtain ⟨k, rfl, hk⟩ := idx_nat hb
 have hw := ok.w
 have ea : atC l (i : Int) = l[i] := atC_get (i := (i : Int)) (by omega)
 have eb : atC l (k : Int) = l[k] := atC_get (i := (k : Int)) (by omega)
 have hiw : i < w.length := by omega
 have hkw : k < w.length := by omega
 have e1 : w.getD ((i : Int)).toNat 0 = w[i] := by simp [List.getD, hiw]
 have e2 : w.getD ((k : Int)).toNat 0 = w[k] := by simp [List.getD, hkw]
 rw [ea, eb, e1, e2] at hiff
 rw [ea, eb] at d
 refine g.fn code_ref05_ahead rfl ?_
 generalize ltB p l w i k = r at *
 generalize dcP p l[i] l[k] = z at *
 by_cases h1 : z.1 < 0
 ·have hr := hiff.2 (.inl h1)
  subst hr
  repeat' ((conv => whnf); first
  | refine Ya ?_ | refine Yb ?_ | refine Yc ?_ | refine Yd ?_ | refine Ye ?_ | refine Yf ?_ | refine Yg ?_ | refine Yh ?_ | refine Yi rfl ?_ | refine Yj rfl ?_ | refine Yk rfl ?_ | refine Yl rfl ?_
   | (refine PickW.rec Clm.cells_length i rfl hi ?_)
   | (refine PickW.rec Clm.cells_length k rfl hk ?_)
   | (apply CallI.of; assumption)
   | (refine Ret.mk rfl))
 ·by_cases h2 : z.1 = 0
  ·by_cases h3 : w[i] < w[k]
   ·have hr := hiff.2 (.inr ⟨h2, h3⟩)
    subst hr
    repeat' ((conv => whnf); first
    | refine Ya ?_ | refine Yb ?_ | refine Yc ?_ | refine Yd ?_ | refine Ye ?_ | refine Yf ?_ | refine Yg ?_ | refine Yh ?_ | refine Yi rfl ?_ | refine Yj rfl ?_ | refine Yk rfl ?_ | refine Yl rfl ?_
     | (refine PickW.rec Clm.cells_length i rfl hi ?_)
     | (refine PickW.rec Clm.cells_length k rfl hk ?_)
     | (refine Pick.intI i rfl hiw ?_)
     | (refine Pick.intI k rfl hkw ?_)
     | (apply CallI.of; assumption)
     | (refine Cmp.tt h3 ?_)
     | (refine Ret.mk rfl))
   ·have hr : r = false := by
     cases r
     ·rfl
     ·rcases hiff.1 rfl with h | h
      ·exact absurd h h1
      ·exact absurd h.2 h3
    subst hr
    repeat' ((conv => whnf); first
    | refine Ya ?_ | refine Yb ?_ | refine Yc ?_ | refine Yd ?_ | refine Ye ?_ | refine Yf ?_ | refine Yg ?_ | refine Yh ?_ | refine Yi rfl ?_ | refine Yj rfl ?_ | refine Yk rfl ?_ | refine Yl rfl ?_
     | (refine PickW.rec Clm.cells_length i rfl hi ?_)
     | (refine PickW.rec Clm.cells_length k rfl hk ?_)
     | (refine Pick.intI i rfl hiw ?_)
     | (refine Pick.intI k rfl hkw ?_)
     | (apply CallI.of; assumption)
     | (refine Cmp.ff h3 ?_)
     | (refine Ret.mk rfl))
  ·have hr : r = false := by
    cases r
    ·rfl
    ·rcases hiff.1 rfl with h | h
     ·exact absurd h h1
     ·exact absurd h.1 h2
   subst hr
   repeat' ((conv => whnf); first
   | refine Ya ?_ | refine Yb ?_ | refine Yc ?_ | refine Yd ?_ | refine Ye ?_ | refine Yf ?_ | refine Yg ?_ | refine Yh ?_ | refine Yi rfl ?_ | refine Yj rfl ?_ | refine Yk rfl ?_ | refine Yl rfl ?_
    | (refine PickW.rec Clm.cells_length i rfl hi ?_)
    | (refine PickW.rec Clm.cells_length k rfl hk ?_)
    | (apply CallI.of; assumption)
    | (refine Ret.mk rfl))
set_option maxHeartbeats 16000000 in
theorem r_Base {p : Prg} {key : Int} {l : List Clm} {s : List Int} (hk : 1 ≤ key ∧ key ≤ 2147483646) (ok : OkRk p l (lotL key l)) (t : Tot l.length (ltB p l (lotL key l))) (hs : Srt l.length (ltB p l (lotL key l)) s) : Fc E n_ref05_Base [Pgv p, I key, LM l] (LI s) := by
 have l1 := ok.n
 have hlo := r_Lots g key l hk (by omega)
 have hah := fun {a b : Int} ha hb => r_ahead g ok (a := a) (b := b) ha hb
 have hwl := ok.w
 refine g.fn code_ref05_Base rfl ?_
 generalize lotL key l = w at *
 have hirr := t.irr
 have hpin := fun {a : Int} ha => place_in t (a := a) ha
 have hdone := fun {T : List Int} => Bas.done (T := T) t hs
 have hstep := fun {i : Nat} {T : List Int} => Bas.step (i := i) (T := T) t
 repeat' ((conv => whnf); first
 | refine Ya ?_ | refine Yb ?_ | refine Yc ?_ | refine Yd ?_ | refine Ye ?_ | refine Yf ?_ | refine Yg ?_ | refine Yh ?_ | refine Yi rfl ?_ | refine Yj rfl ?_ | refine Yk rfl ?_ | refine Yl rfl ?_
  | (apply CallI.of; assumption)
  | (refine Need.mk ⟨by omega, rfl, by omega, by omega⟩ ?_))
 refine LoopW.to (LoopW.by g (fun u : Nat × List Int => u.1 ≤ l.length ∧ Bas l.length (ltB p l w) u.1 u.2)
  (fun u => [(2, LM l), (3, .ptr ⟨0, 3, 0⟩ 0 0), (7, LI w), (8, .ref ⟨0, 17, 0⟩ 0 l.length l.length), (9, I u.1)])
  (fun u => [(⟨0, 3, 0⟩, .cells ty_turnroundref05_Program [LC p.cl, I p.po, I p.of, I p.fo]), (⟨0, 6, 0⟩, .row true ty_int 1 0 []), (⟨0, 17, 0⟩, .row true ty_int 1 l.length (u.2.map DI))])
  (fun u => l.length - u.1) (fun u hu ih => ?_) (0, List.replicate l.length 0) ⟨Nat.zero_le _, by simp, fun j hj => absurd hj (Nat.not_lt_zero _)⟩) rfl ?_
 ·obtain ⟨i, T⟩ := u
  obtain ⟨hi1, hT⟩ := hu
  dsimp only at hi1 hT ih ⊢
  have hTl := hT.len
  by_cases hlt : i < l.length
  ·have him : (i : Int) ∈ idL l.length := idL_mem.2 (by omega)
   have ih := ih (i + 1, T.set (placeL l.length (ltB p l w) i) i) ⟨hlt, hstep hT hlt⟩ (by simp only; omega)
   dsimp only at ih
   have hpl := hpin him
   repeat' ((conv => whnf); first
   | refine Ya ?_ | refine Yb ?_ | refine Yc ?_ | refine Yd ?_ | refine Ye ?_ | refine Yf ?_ | refine Yg ?_ | refine Yh ?_ | refine Yi rfl ?_ | refine Yj rfl ?_ | refine Yk rfl ?_ | refine Yl rfl ?_)
   refine LoopW.to (LoopW.up g (fun k => [(2, LM l), (3, .ptr ⟨0, 3, 0⟩ 0 0), (7, LI w), (8, .ref ⟨0, 17, 0⟩ 0 l.length l.length), (9, I i), (10, I ((idL k).countP fun y => ltB p l w y i)), (11, I k)]) (fun _ => _) l.length (fun k hk kh => ?_) 0 (Nat.zero_le _)) rfl rfl
   have hcl : (idL k).countP (fun y => ltB p l w y i) ≤ k := by
    have := List.countP_le_length (l := idL k) (p := fun y => ltB p l w y i)
    rwa [idL_length] at this
   by_cases hkl : k < l.length
   ·replace kh := kh hkl
    have hkm : (k : Int) ∈ idL l.length := idL_mem.2 (by omega)
    rw [idL_succ, List.countP_append, List.countP_cons, List.countP_nil, Nat.zero_add] at kh
    generalize (idL k).countP (fun y => ltB p l w y i) = c at *
    by_cases hki : k = i
    ·subst hki
     rw [hirr, if_neg (by decide), Nat.add_zero] at kh
     repeat' ((conv => whnf); first
     | refine Ya ?_ | refine Yb ?_ | refine Yc ?_ | refine Yd ?_ | refine Ye ?_ | refine Yf ?_ | refine Yg ?_ | refine Yh ?_ | refine Yi rfl ?_ | refine Yj rfl ?_ | refine Yk rfl ?_ | refine Yl rfl ?_
      | (refine LoopW.to kh rfl rfl))
    ·have ha := hah hkm him
     generalize ltB p l w k i = r at *
     cases r
     ·rw [if_neg (by decide), Nat.add_zero] at kh
      repeat' ((conv => whnf); first
      | refine Ya ?_ | refine Yb ?_ | refine Yc ?_ | refine Yd ?_ | refine Ye ?_ | refine Yf ?_ | refine Yg ?_ | refine Yh ?_ | refine Yi rfl ?_ | refine Yj rfl ?_ | refine Yk rfl ?_ | refine Yl rfl ?_
       | (apply CallI.of; assumption)
       | (refine LoopW.to kh rfl rfl))
     ·rw [if_pos rfl] at kh
      repeat' ((conv => whnf); first
      | refine Ya ?_ | refine Yb ?_ | refine Yc ?_ | refine Yd ?_ | refine Ye ?_ | refine Yf ?_ | refine Yg ?_ | refine Yh ?_ | refine Yi rfl ?_ | refine Yj rfl ?_ | refine Yk rfl ?_ | refine Yl rfl ?_
       | (apply CallI.of; assumption)
       | (refine LoopW.to kh rfl rfl))
   ·obtain rfl : k = l.length := by omega
    have hpe : (idL l.length).countP (fun y => ltB p l w y i) = placeL l.length (ltB p l w) i := rfl
    rw [hpe]
    have hp := patch_set T (placeL l.length (ltB p l w) i) i (by omega)
    repeat' ((conv => whnf); first
    | refine Ya ?_ | refine Yb ?_ | refine Yc ?_ | refine Yd ?_ | refine Ye ?_ | refine Yf ?_ | refine Yg ?_ | refine Yh ?_ | refine Yi rfl ?_ | refine Yj rfl ?_ | refine Yk rfl ?_ | refine Yl rfl ?_
     | (refine LoopW.to ih rfl ?_))
    simp only [Nat.zero_add, Nat.mul_one, Int.toNat_natCast]
    rw [hp]
  ·obtain rfl : i = l.length := by omega
   have he := hdone hT
   subst he
   repeat' ((conv => whnf); first
   | refine Ya ?_ | refine Yb ?_ | refine Yc ?_ | refine Yd ?_ | refine Ye ?_ | refine Yf ?_ | refine Yg ?_ | refine Yh ?_ | refine Yi rfl ?_ | refine Yj rfl ?_ | refine Yk rfl ?_ | refine Yl rfl ?_
    | (refine Ret.mk ?_))
   rw [if_pos ⟨rfl, rfl⟩]
   show V.d (.list l.length _) = V.d (.list T.length _)
   rw [hTl]
 ·simp
set_option maxHeartbeats 16000000 in
theorem r_Rank {p : Prg} {key : Int} {l : List Clm} {s : List Int} (h : chkRk p key l = 0) (hl : l.length ≤ 12) (hs : Srt l.length (ltB p l (lotL key l)) s) : Fc E n_ref05_Rank [Pgv p, I key, LM l] (LI (rankL p l s)) := by
 have ok := rk_ok h hl
 have t := rk_tot h
 have hb := r_Base g (chkRk_zero h).2.1 ok t hs
 have hsl := hs.len
 have hsm : ∀ x ∈ s, x ∈ idL l.length := fun x hx => hs.pm.mem_iff.1 hx
 have hcl : ∀ (i : Nat) (hi : i < l.length), Fc E n_ref05_ClassOf [Pgv p, Clv l[i]] (I (clA p l (i : Int))) := fun i hi => by
  have ea : atC l (i : Int) = l[i] := atC_get (i := (i : Int)) (by omega)
  unfold clA
  rw [ea]
  exact r_ClassOf g p l[i] ok.sm (ok.cl _ (List.getElem_mem hi)) ok.wh
 have hpb : ∀ (i : Nat) (hi : i < s.length), i < poolA p l s → clA p l s[i] < p.po := fun i _ h => pool_before h
 have hpa : ∀ (i : Nat) (hi : i < s.length), poolA p l s ≤ i → p.po ≤ clA p l s[i] := fun i hi h => pool_behind hs.upB hi h
 have hale := poolA_le p l s
 have hrk : rankL p l s = s.take (poolA p l s) ++ (shrL p.of p.fo ((s.drop (poolA p l s)).map fun i => (atC l i).ne)).map fun j => (s.drop (poolA p l s)).getD j.toNat 0 := rfl
 have hof := ok.of'
 refine g.fn code_ref05_Rank rfl ?_
 generalize rankL p l s = R at *
 generalize poolA p l s = a at *
 have hPl : (s.drop a).length = l.length - a := by simp [hsl]
 have hPg : ∀ i (hi : i < s.length) (hai : a ≤ i), (s.drop a)[i - a]? = some s[i] := fun i hi hai => by
  rw [List.getElem?_drop, show a + (i - a) = i by omega, List.getElem?_eq_getElem hi]
 generalize hP : s.drop a = P at *
 repeat' ((conv => whnf); first
 | refine Ya ?_ | refine Yb ?_ | refine Yc ?_ | refine Yd ?_ | refine Ye ?_ | refine Yf ?_ | refine Yg ?_ | refine Yh ?_ | refine Yi rfl ?_ | refine Yj rfl ?_ | refine Yk rfl ?_ | refine Yl rfl ?_
  | (apply CallI.of; assumption))
 refine LoopW.to (LoopW.up g (fun i => [(2, LM l), (3, .ptr ⟨0, 3, 0⟩ 0 0), (7, LI s), (8, .ref ⟨0, 8, 0⟩ 0 (min i a) (min i a)), (9, .ref ⟨0, 9, 0⟩ 0 (i - a) (i - a)), (10, .ref ⟨0, 10, 0⟩ 0 (i - a) (i - a)), (11, I i)])
  (fun i => [(⟨0, 3, 0⟩, .cells ty_turnroundref05_Program [LC p.cl, I p.po, I p.of, I p.fo]), (⟨0, 6, 0⟩, .row false ty_int 1 0 []), (⟨0, 8, 0⟩, .row false ty_int 1 (min i a) ((s.take (min i a)).map DI)), (⟨0, 9, 0⟩, .row false ty_int 1 (i - a) ((P.take (i - a)).map DI)), (⟨0, 10, 0⟩, .row false ty_bool 1 (i - a) ((P.take (i - a)).map fun i => D.bool (atC l i).ne))])
  s.length (fun i hi ih => ?_) 0 (Nat.zero_le _)) ?_ ?_
 ·by_cases hlt : i < s.length
  ·have ih := ih hlt
   obtain ⟨q, hq, hql⟩ := idx_nat (hsm _ (List.getElem_mem hlt))
   have hc := hcl q hql
   by_cases hia : i < a
   ·have hp := hpb i hlt hia
    rw [hq] at hp
    rw [show min (i + 1) a = i + 1 by omega, show i + 1 - a = 0 by omega, List.take_add_one, List.getElem?_eq_getElem hlt, hq] at ih
    rw [show min i a = i by omega, show i - a = 0 by omega]
    simp only [Option.toList_some, List.map_append, List.map_cons, List.map_nil] at ih
    have hlen : ((s.take i).map DI).length = i := by simp; omega
    generalize clA p l (q : Int) = z at *
    repeat' ((conv => whnf); first
    | refine Ya ?_ | refine Yb ?_ | refine Yc ?_ | refine Yd ?_ | refine Ye ?_ | refine Yf ?_ | refine Yg ?_ | refine Yh ?_ | refine Yi rfl ?_ | refine Yj rfl ?_ | refine Yk rfl ?_ | refine Yl rfl ?_
     | (refine Pick.intI i rfl hlt ?_; rw [hq])
     | (refine PickW.rec Clm.cells_length q rfl hql ?_)
     | (apply CallI.of; assumption)
     | (refine Need.mk (by simp only [List.length_cons, List.length_nil]; omega) ?_)
     | (refine LoopW.to ih rfl rfl))
   ·have hp := hpa i hlt (by omega)
    rw [hq] at hp
    have hg := hPg i hlt (by omega)
    rw [show min (i + 1) a = a by omega, show i + 1 - a = (i - a) + 1 by omega, List.take_add_one, hg, hq] at ih
    rw [show min i a = a by omega]
    have ea : atC l (q : Int) = l[q] := atC_get (i := (q : Int)) (by omega)
    simp only [Option.toList_some, List.map_append, List.map_cons, List.map_nil, ea] at ih
    have hlen : ((P.take (i - a)).map DI).length = i - a := by simp; omega
    have hlen2 : ((P.take (i - a)).map fun i => D.bool (atC l i).ne).length = i - a := by simp; omega
    generalize clA p l (q : Int) = z at *
    repeat' ((conv => whnf); first
    | refine Ya ?_ | refine Yb ?_ | refine Yc ?_ | refine Yd ?_ | refine Ye ?_ | refine Yf ?_ | refine Yg ?_ | refine Yh ?_ | refine Yi rfl ?_ | refine Yj rfl ?_ | refine Yk rfl ?_ | refine Yl rfl ?_
     | (refine Pick.intI i rfl hlt ?_; rw [hq])
     | (refine PickW.rec Clm.cells_length q rfl hql ?_)
     | (refine Pick.rec Clm.cells_length q rfl hql rfl ?_)
     | (apply CallI.of; assumption)
     | (refine Need.mk (by simp only [List.length_cons, List.length_nil]; omega) ?_)
     | (refine LoopW.to ih rfl rfl))
  ·obtain rfl : i = s.length := by omega
   rw [show min s.length a = a by omega, show s.length - a = P.length by omega, List.take_length]
   have hne : (P.map fun i => (atC l i).ne).length = P.length := List.length_map ..
   have hmap : (P.map fun i => D.bool (atC l i).ne) = (P.map fun i => (atC l i).ne).map D.bool := by rw [List.map_map]; rfl
   have hil : ∀ {n : Nat} {cs : List D}, n = P.length → cs = P.map (fun i => D.bool (atC l i).ne) → Fc E n_ref05_Interleave [I p.of, I p.fo, .d (.list n cs)] (LI (shrL p.of p.fo (P.map fun i => (atC l i).ne))) := fun h1 h2 => by
    subst h1 h2
    have : Fc E n_ref05_Interleave [I p.of, I p.fo, .d (.list (P.map fun i => (atC l i).ne).length ((P.map fun i => (atC l i).ne).map D.bool))] (LI (shrL p.of p.fo (P.map fun i => (atC l i).ne))) := r_Interleave g p.of p.fo (P.map fun i => (atC l i).ne) hof (by omega)
    rw [hne, ← hmap] at this
    exact this
   have hord := shrL_ord p.of p.fo (P.map fun i => (atC l i).ne)
   rw [hne] at hord
   have hrl := hord.len
   generalize shrL p.of p.fo (P.map fun i => (atC l i).ne) = r at *
   have htl : (s.take a).length = a := by simp; omega
   repeat' ((conv => whnf); first
   | refine Ya ?_ | refine Yb ?_ | refine Yc ?_ | refine Yd ?_ | refine Ye ?_ | refine Yf ?_ | refine Yg ?_ | refine Yh ?_ | refine Yi rfl ?_ | refine Yj rfl ?_ | refine Yk rfl ?_ | refine Yl rfl ?_
    | (refine CallI.of (hil rfl (if_pos ⟨rfl, rfl⟩)) ?_))
   refine LoopW.to (LoopW.up g (fun k => [(8, .ref ⟨0, 8, 0⟩ 0 (a + k) (a + k)), (9, .ref ⟨0, 9, 0⟩ 0 P.length P.length), (12, LI r), (13, I k)])
    (fun k => [(⟨0, 3, 0⟩, .cells ty_turnroundref05_Program [LC p.cl, I p.po, I p.of, I p.fo]), (⟨0, 6, 0⟩, .row false ty_int 1 0 []), (⟨0, 8, 0⟩, .row false ty_int 1 (a + k) ((s.take a ++ (r.take k).map fun j => P.getD j.toNat 0).map DI)), (⟨0, 9, 0⟩, .row false ty_int 1 P.length (P.map DI)), (⟨0, 10, 0⟩, .row false ty_bool 1 P.length (P.map fun i => D.bool (atC l i).ne))])
    r.length (fun k hk ih => ?_) 0 (Nat.zero_le _)) rfl ?_
   ·by_cases hlt : k < r.length
    ·have ih := ih hlt
     have hjr := hord.rng k (by omega)
     have hrk2 : r.getD k 0 = r[k] := by simp [List.getD, hlt]
     rw [hrk2] at hjr
     obtain ⟨j, hj, hjP⟩ : ∃ j : Nat, r[k] = j ∧ j < P.length := ⟨r[k].toNat, by omega, by omega⟩
     have hPj : P.getD ((j : Int)).toNat 0 = P[j] := by simp [List.getD, hjP]
     have hT : (r.take (k + 1)).map (fun j => P.getD j.toNat 0) = (r.take k).map (fun j => P.getD j.toNat 0) ++ [P[j]] := by
      rw [List.take_add_one, List.getElem?_eq_getElem hlt, Option.toList_some, List.map_append, List.map_cons, List.map_nil, hj, hPj]
     rw [hT, ← List.append_assoc, List.map_append] at ih
     have hlen : ((s.take a ++ (r.take k).map fun j => P.getD j.toNat 0).map DI).length = a + k := by simp; omega
     generalize s.take a ++ (r.take k).map (fun j => P.getD j.toNat 0) = T at *
     repeat' ((conv => whnf); first
     | refine Ya ?_ | refine Yb ?_ | refine Yc ?_ | refine Yd ?_ | refine Ye ?_ | refine Yf ?_ | refine Yg ?_ | refine Yh ?_ | refine Yi rfl ?_ | refine Yj rfl ?_ | refine Yk rfl ?_ | refine Yl rfl ?_
      | (refine Pick.intI k rfl hlt ?_; rw [hj])
      | (refine Pick.intI0 j rfl hjP ?_)
      | (refine Need.mk (by simp only [List.length_cons, List.length_nil]; omega) ?_)
      | (refine LoopW.to ih rfl rfl))
    ·obtain rfl : k = r.length := by omega
     rw [List.take_length, ← hrk]
     have hRl : R.length = a + r.length := by
      rw [hrk]
      simp
      omega
     repeat' ((conv => whnf); first
     | refine Ya ?_ | refine Yb ?_ | refine Yc ?_ | refine Yd ?_ | refine Ye ?_ | refine Yf ?_ | refine Yg ?_ | refine Yh ?_ | refine Yi rfl ?_ | refine Yj rfl ?_ | refine Yk rfl ?_ | refine Yl rfl ?_
      | (refine Ret.mk ?_))
     rw [if_pos ⟨rfl, rfl⟩]
     show V.d (.list (a + r.length) _) = V.d (.list R.length _)
     rw [hRl]
   ·simp
 ·rw [Nat.zero_min, Nat.zero_sub]
  rfl
 ·rw [Nat.zero_min, Nat.zero_sub]
  rfl
set_option maxHeartbeats 8000000 in
theorem r_Why {p : Prg} {key : Int} {l : List Clm} {s : List Int} (h : chkRk p key l = 0) (hl : l.length ≤ 12) (hs : Srt l.length (ltB p l (lotL key l)) s) : Fc E n_ref05_Why [Pgv p, I key, LM l] (LS (whyI p l (lotL key l) (rankL p l s) (l.length - 1))) := by
 have ok := rk_ok h hl
 have h1 := r_Rank g h hl hs
 have h2 := r_Lots g key l (chkRk_zero h).2.1 (by omega)
 have hah := fun {a b : Int} ha hb => r_ahead g ok (a := a) (b := b) ha hb
 have hRl : (rankL p l s).length = l.length := by rw [rankL_length, hs.len]
 have hRm : ∀ x ∈ rankL p l s, x ∈ idL l.length := fun x hx => hs.pm.mem_iff.1 (rankL_in hx)
 refine g.fn code_ref05_Why rfl ?_
 generalize rankL p l s = R at *
 have hww := ok.w
 generalize lotL key l = w at *
 repeat' ((conv => whnf); first
 | refine Ya ?_ | refine Yb ?_ | refine Yc ?_ | refine Yd ?_ | refine Ye ?_ | refine Yf ?_ | refine Yg ?_ | refine Yh ?_ | refine Yi rfl ?_ | refine Yj rfl ?_ | refine Yk rfl ?_ | refine Yl rfl ?_
  | (apply CallI.of; assumption))
 refine LoopW.to (LoopW.up g (fun k => [(2, LM l), (3, .ptr ⟨0, 3, 0⟩ 0 0), (7, LI R), (8, LI w), (9, .ref ⟨0, 9, 0⟩ 0 k k), (10, I ((k : Int) + 1))])
  (fun k => [(⟨0, 3, 0⟩, .cells ty_turnroundref05_Program [LC p.cl, I p.po, I p.of, I p.fo]), (⟨0, 6, 0⟩, .row false ty_string 1 0 []), (⟨0, 9, 0⟩, .row false ty_string 1 k ((whyI p l w R k).map D.str))])
  (l.length - 1) (fun k hk ih => ?_) 0 (Nat.zero_le _)) rfl rfl
 have hwl := whyI_length p l w R k
 by_cases hlt : k < l.length - 1
 ·have ih := ih hlt
  have hk0 : k < R.length := by omega
  have hk1 : k + 1 < R.length := by omega
  have m0 := hRm _ (List.getElem_mem hk0)
  have m1 := hRm _ (List.getElem_mem hk1)
  have hc := hah m1 m0
  have hd := r_Decide g p (atC l R[k]) (atC l R[k + 1]) ok.sm (ok.cl _ (atC_mem m0)) (ok.cl _ (atC_mem m1)) ok.wh ok.ky
  have e0 : R.getD k 0 = R[k] := by simp [List.getD, hk0]
  have e1 : R.getD (k + 1) 0 = R[k + 1] := by simp [List.getD, hk1]
  rw [whyI_succ, e0, e1, List.map_append, List.map_cons, List.map_nil] at ih
  unfold whyW at ih
  obtain ⟨i, hi, hil⟩ := idx_nat m0
  obtain ⟨j, hj, hjl⟩ := idx_nat m1
  rw [hi, hj] at hc hd ih
  have ea : atC l (i : Int) = l[i] := atC_get (i := (i : Int)) (by omega)
  have eb : atC l (j : Int) = l[j] := atC_get (i := (j : Int)) (by omega)
  rw [ea, eb] at hd ih
  generalize ltB p l w j i = b at *
  generalize dcP p l[i] l[j] = z at *
  generalize whyI p l w R k = W at *
  cases b
  ·rw [if_neg (by decide)] at ih
   by_cases hz : z.2 = []
   ·rw [if_pos hz] at ih
    repeat' ((conv => whnf); first
    | refine Ya ?_ | refine Yb ?_ | refine Yc ?_ | refine Yd ?_ | refine Ye ?_ | refine Yf ?_ | refine Yg ?_ | refine Yh ?_ | refine Yi rfl ?_ | refine Yj rfl ?_ | refine Yk rfl ?_ | refine Yl rfl ?_
     | (refine Pick.intI k (by omega) hk0 ?_; rw [hi])
     | (refine Pick.intI (k + 1) rfl hk1 ?_; rw [hj])
     | (refine PickW.rec Clm.cells_length i rfl hil ?_)
     | (refine PickW.rec Clm.cells_length j rfl hjl ?_)
     | (apply CallI.of; assumption)
     | (refine Cmp.tt hz ?_)
     | (refine Need.mk (by simp only [List.length_cons, List.length_nil, List.length_map]; omega) ?_)
     | (refine LoopW.to ih rfl rfl))
   ·rw [if_neg hz] at ih
    repeat' ((conv => whnf); first
    | refine Ya ?_ | refine Yb ?_ | refine Yc ?_ | refine Yd ?_ | refine Ye ?_ | refine Yf ?_ | refine Yg ?_ | refine Yh ?_ | refine Yi rfl ?_ | refine Yj rfl ?_ | refine Yk rfl ?_ | refine Yl rfl ?_
     | (refine Pick.intI k (by omega) hk0 ?_; rw [hi])
     | (refine Pick.intI (k + 1) rfl hk1 ?_; rw [hj])
     | (refine PickW.rec Clm.cells_length i rfl hil ?_)
     | (refine PickW.rec Clm.cells_length j rfl hjl ?_)
     | (apply CallI.of; assumption)
     | (refine Cmp.ff hz ?_)
     | (refine Need.mk (by simp only [List.length_cons, List.length_nil, List.length_map]; omega) ?_)
     | (refine LoopW.to ih rfl rfl))
  ·rw [if_pos rfl] at ih
   repeat' ((conv => whnf); first
   | refine Ya ?_ | refine Yb ?_ | refine Yc ?_ | refine Yd ?_ | refine Ye ?_ | refine Yf ?_ | refine Yg ?_ | refine Yh ?_ | refine Yi rfl ?_ | refine Yj rfl ?_ | refine Yk rfl ?_ | refine Yl rfl ?_
    | (refine Pick.intI k (by omega) hk0 ?_; rw [hi])
    | (refine Pick.intI (k + 1) rfl hk1 ?_; rw [hj])
    | (refine PickW.rec Clm.cells_length i rfl hil ?_)
    | (refine PickW.rec Clm.cells_length j rfl hjl ?_)
    | (apply CallI.of; assumption)
    | (refine Need.mk (by simp only [List.length_cons, List.length_nil, List.length_map]; omega) ?_)
    | (refine LoopW.to ih rfl rfl))
 ·obtain rfl : k = l.length - 1 := by omega
  repeat' ((conv => whnf); first
  | refine Ya ?_ | refine Yb ?_ | refine Yc ?_ | refine Yd ?_ | refine Ye ?_ | refine Yf ?_ | refine Yg ?_ | refine Yh ?_ | refine Yi rfl ?_ | refine Yj rfl ?_ | refine Yk rfl ?_ | refine Yl rfl ?_
   | (refine Ret.mk ?_))
  rw [if_pos ⟨rfl, rfl⟩]
  show V.d (.list (l.length - 1) _) = V.d (.list (whyI p l w R (l.length - 1)).length _)
  rw [hwl]
theorem r_Better {p : Prg} {key : Int} {l : List Clm} {s : List Int} (c : Int) (h : chkRk p key l = 0) (hl : l.length ≤ 12) (hs : Srt l.length (ltB p l (lotL key l)) s) : Fc E n_ref05_Better [Pgv p, I key, LM l, I c] (LI (betL (rankL p l s) c)) := by
 have h1 := r_Rank g h hl hs
 have hRl : (rankL p l s).length = l.length := by rw [rankL_length, hs.len]
 refine g.fn code_ref05_Better rfl ?_
 unfold betL
 generalize rankL p l s = R at *
 have hfl : (R.findIdx fun x => decide (x = c)) ≤ R.length := List.findIdx_le_length
 have hget : ∀ h : (R.findIdx fun x => decide (x = c)) < R.length, R[R.findIdx fun x => decide (x = c)] = c := fun h => of_decide_eq_true (List.findIdx_getElem (xs := R) (p := fun x => decide (x = c)) (w := h))
 have hbef : ∀ k (h : k < R.length), k < (R.findIdx fun x => decide (x = c)) → R[k] ≠ c := fun k h hk => by
  have := List.not_of_lt_findIdx hk
  simpa using this
 generalize (R.findIdx fun x => decide (x = c)) = f at *
 repeat' ((conv => whnf); first
 | refine Ya ?_ | refine Yb ?_ | refine Yc ?_ | refine Yd ?_ | refine Ye ?_ | refine Yf ?_ | refine Yg ?_ | refine Yh ?_ | refine Yi rfl ?_ | refine Yj rfl ?_ | refine Yk rfl ?_ | refine Yl rfl ?_
  | (apply CallI.of; assumption))
 refine LoopW.to (LoopW.up g (fun k => [(3, I c), (9, LI R), (10, .ref ⟨0, 10, 0⟩ 0 k k), (11, I k)])
  (fun k => [(⟨0, 4, 0⟩, .cells ty_turnroundref05_Program [LC p.cl, I p.po, I p.of, I p.fo]), (⟨0, 8, 0⟩, .row false ty_int 1 0 []), (⟨0, 10, 0⟩, .row false ty_int 1 k ((R.take k).map DI))]) f (fun k hk ih => ?_) 0 (Nat.zero_le _)) rfl rfl
 have hlen : ((R.take k).map DI).length = k := by simp; omega
 by_cases hlt : k < f
 ·have ih := ih hlt
  have hkR : k < R.length := by omega
  have hne := hbef k hkR hlt
  rw [List.take_add_one, List.getElem?_eq_getElem hkR, Option.toList_some, List.map_append, List.map_cons, List.map_nil] at ih
  repeat' ((conv => whnf); first
  | refine Ya ?_ | refine Yb ?_ | refine Yc ?_ | refine Yd ?_ | refine Ye ?_ | refine Yf ?_ | refine Yg ?_ | refine Yh ?_ | refine Yi rfl ?_ | refine Yj rfl ?_ | refine Yk rfl ?_ | refine Yl rfl ?_
   | (refine Pick.intI k rfl hkR ?_)
   | (refine Cmp.ff hne ?_)
   | (refine Need.mk (by simp only [List.length_cons, List.length_nil]; omega) ?_)
   | (refine LoopW.to ih rfl rfl))
 ·obtain rfl : k = f := by omega
  have hfin : V.d (.list k (if 0 = 0 ∧ k = k then (R.take k).map DI else win ((R.take k).map DI) (0 * 1) (k * 1))) = LI (R.take k) := by
   rw [if_pos ⟨rfl, rfl⟩]
   show V.d (.list k _) = V.d (.list (R.take k).length _)
   rw [List.length_take, Nat.min_eq_left hfl]
  by_cases hkR : k < R.length
  ·have hx := hget hkR
   repeat' ((conv => whnf); first
   | refine Ya ?_ | refine Yb ?_ | refine Yc ?_ | refine Yd ?_ | refine Ye ?_ | refine Yf ?_ | refine Yg ?_ | refine Yh ?_ | refine Yi rfl ?_ | refine Yj rfl ?_ | refine Yk rfl ?_ | refine Yl rfl ?_
    | (refine Pick.intI k rfl hkR ?_; rw [hx])
    | (refine Cmp.tt rfl ?_)
    | (refine Ret.mk hfin))
  ·repeat' ((conv => whnf); first
  | refine Ya ?_ | refine Yb ?_ | refine Yc ?_ | refine Yd ?_ | refine Ye ?_ | refine Yf ?_ | refine Yg ?_ | refine Yh ?_ | refine Yi rfl ?_ | refine Yj rfl ?_ | refine Yk rfl ?_ | refine Yl rfl ?_
    | (refine Ret.mk hfin))
end
end Go.Proofs.YtcephlgejkngiaaGreatDoor.Co
/-
 Priority: the laws' copies of a program.
-/
namespace Go.Proofs.YtcephlgejkngiaaGreatDoor.Co
open Go Go.Evl
set_option maxRecDepth 100000
theorem fl_succ {α : Type} (f : α → List D) {l : List α} {k : Nat} (h : k < l.length) : (l.take (k + 1)).flatMap f = (l.take k).flatMap f ++ f l[k] := by
 rw [List.take_add_one, List.getElem?_eq_getElem h, List.flatMap_append]
 simp
theorem fl_len {α : Type} (f : α → List D) (n : Nat) (hf : ∀ a, (f a).length = n) {l : List α} {k : Nat} (h : k ≤ l.length) : ((l.take k).flatMap f).length = k * n := by
 rw [flatR_length f n hf, List.length_take, Nat.min_eq_left h]
section
variable {E : Oracle} (g : Good E)
include g
set_option maxHeartbeats 8000000 in
theorem w_program (p : Prg) (hs : SmallP p) : Fc E n_law05_program [Pgv p] (Pgv p) := by
 refine g.fn code_law05_program rfl ?_
 obtain ⟨l1, l2⟩ := hs
 repeat' ((conv => whnf); first
 | refine Ya ?_ | refine Yb ?_ | refine Yc ?_ | refine Yd ?_ | refine Ye ?_ | refine Yf ?_ | refine Yg ?_ | refine Yh ?_ | refine Yi rfl ?_ | refine Yj rfl ?_ | refine Yk rfl ?_ | refine Yl rfl ?_)
 refine LoopW.to (LoopW.up g (fun k => [(2, .ptr ⟨0, 2, 1⟩ 0 0), (3, .ptr ⟨0, 3, 1⟩ 0 0), (19, LC p.cl), (20, I p.cl.length), (21, I k)])
  (fun k => [(⟨0, 1, 0⟩, .cells ty_turnroundref05_Program [.d (.list p.cl.length (p.cl.flatMap Cls.cells)), .d (DI p.po), .d (DI p.of), .d (DI p.fo)]), (⟨0, 2, 0⟩, .row false ty_priority_Class 3 0 []), (⟨0, 2, 1⟩, .cells ty_priority_Program [.ref ⟨0, 2, 0⟩ 0 0 0, .d (DI 0), .d (DI 0), .d (DI 0)]), (⟨0, 17, 0⟩, .row false ty_priority_Class 3 k ((p.cl.take k).flatMap Cls.cells)), (⟨0, 3, 0⟩, .row false ty_priority_Class 3 0 []), (⟨0, 3, 1⟩, .cells ty_priority_Program [.ref ⟨0, 17, 0⟩ 0 k k, .d (DI p.po), .d (DI p.of), .d (DI p.fo)])])
  p.cl.length (fun k hk ih => ?_) 0 (Nat.zero_le _)) rfl rfl
 have hfl := fl_len Cls.cells 3 Cls.cells_length hk
 by_cases hlt : k < p.cl.length
 ·have ih := ih hlt
  rw [fl_succ Cls.cells hlt] at ih
  have l3 := l2 _ (List.getElem_mem hlt)
  generalize hx : p.cl[k] = x at *
  obtain ⟨nm, wh, ky⟩ := x
  obtain ⟨l4, l5⟩ := l3
  dsimp only at l4 l5
  repeat' ((conv => whnf); first
  | refine Ya ?_ | refine Yb ?_ | refine Yc ?_ | refine Yd ?_ | refine Ye ?_ | refine Yf ?_ | refine Yg ?_ | refine Yh ?_ | refine Yi rfl ?_ | refine Yj rfl ?_ | refine Yk rfl ?_ | refine Yl rfl ?_
   | (refine PickW.rec Cls.cells_length k rfl hlt ?_; rw [hx]))
  refine LoopW.to (LoopW.up g (fun j => [(2, .ptr ⟨0, 2, 1⟩ 0 0), (3, .ptr ⟨0, 3, 1⟩ 0 0), (5, .ptr ⟨0, 5, 0⟩ 0 0), (6, .ptr ⟨0, 6, 2⟩ 0 0), (19, LC p.cl), (20, I p.cl.length), (21, I k), (29, LT wh), (30, I wh.length), (31, I j)])
   (fun j => [(⟨0, 1, 0⟩, .cells ty_turnroundref05_Program [.d (.list p.cl.length (p.cl.flatMap Cls.cells)), .d (DI p.po), .d (DI p.of), .d (DI p.fo)]), (⟨0, 2, 0⟩, .row false ty_priority_Class 3 0 []), (⟨0, 2, 1⟩, .cells ty_priority_Program [.ref ⟨0, 2, 0⟩ 0 0 0, .d (DI 0), .d (DI 0), .d (DI 0)]), (⟨0, 17, 0⟩, .row false ty_priority_Class 3 k ((p.cl.take k).flatMap Cls.cells)), (⟨0, 3, 0⟩, .row false ty_priority_Class 3 0 []), (⟨0, 3, 1⟩, .cells ty_priority_Program [.ref ⟨0, 17, 0⟩ 0 k k, .d (DI p.po), .d (DI p.of), .d (DI p.fo)]), (⟨0, 5, 0⟩, .cells ty_turnroundref05_Class [.d (.str nm), .d (.list wh.length (wh.flatMap Tst.cells)), .d (.list ky.length (ky.flatMap Kyt.cells))]), (⟨0, 27, 0⟩, .row false ty_priority_Test 3 j ((wh.take j).flatMap Tst.cells)), (⟨0, 27, 1⟩, .row false ty_priority_Key 2 0 ([])), (⟨0, 6, 0⟩, .row false ty_priority_Test 3 0 []), (⟨0, 6, 1⟩, .row false ty_priority_Key 2 0 []), (⟨0, 6, 2⟩, .cells ty_priority_Class [.d (.str nm), .ref ⟨0, 27, 0⟩ 0 j j, .ref ⟨0, 27, 1⟩ 0 0 0])])
   wh.length (fun j hj jh => ?_) 0 (Nat.zero_le _)) rfl rfl
  have hft := fl_len Tst.cells 3 Tst.cells_length hj
  by_cases hjl : j < wh.length
  ·have jh := jh hjl
   rw [fl_succ Tst.cells hjl] at jh
   repeat' ((conv => whnf); first
   | refine Ya ?_ | refine Yb ?_ | refine Yc ?_ | refine Yd ?_ | refine Ye ?_ | refine Yf ?_ | refine Yg ?_ | refine Yh ?_ | refine Yi rfl ?_ | refine Yj rfl ?_ | refine Yk rfl ?_ | refine Yl rfl ?_
    | (refine PickW.rec Tst.cells_length j rfl hjl ?_)
    | (refine Need.mk (by simp only [List.length_cons, List.length_nil]; omega) ?_)
    | (refine LoopW.to jh rfl rfl))
  ·have ej : wh.take j = wh := List.take_of_length_le (by omega)
   have hj' : j = wh.length := by omega
   subst hj'
   rw [ej]
   repeat' ((conv => whnf); first
   | refine Ya ?_ | refine Yb ?_ | refine Yc ?_ | refine Yd ?_ | refine Ye ?_ | refine Yf ?_ | refine Yg ?_ | refine Yh ?_ | refine Yi rfl ?_ | refine Yj rfl ?_ | refine Yk rfl ?_ | refine Yl rfl ?_)
   refine LoopW.to (LoopW.up g (fun i => [(2, .ptr ⟨0, 2, 1⟩ 0 0), (3, .ptr ⟨0, 3, 1⟩ 0 0), (6, .ptr ⟨0, 6, 2⟩ 0 0), (19, LC p.cl), (20, I p.cl.length), (21, I k), (43, LK ky), (44, I ky.length), (45, I i)])
    (fun i => [(⟨0, 1, 0⟩, .cells ty_turnroundref05_Program [.d (.list p.cl.length (p.cl.flatMap Cls.cells)), .d (DI p.po), .d (DI p.of), .d (DI p.fo)]), (⟨0, 2, 0⟩, .row false ty_priority_Class 3 0 []), (⟨0, 2, 1⟩, .cells ty_priority_Program [.ref ⟨0, 2, 0⟩ 0 0 0, .d (DI 0), .d (DI 0), .d (DI 0)]), (⟨0, 17, 0⟩, .row false ty_priority_Class 3 k ((p.cl.take k).flatMap Cls.cells)), (⟨0, 3, 0⟩, .row false ty_priority_Class 3 0 []), (⟨0, 3, 1⟩, .cells ty_priority_Program [.ref ⟨0, 17, 0⟩ 0 k k, .d (DI p.po), .d (DI p.of), .d (DI p.fo)]), (⟨0, 5, 0⟩, .cells ty_turnroundref05_Class [.d (.str nm), .d (.list wh.length (wh.flatMap Tst.cells)), .d (.list ky.length (ky.flatMap Kyt.cells))]), (⟨0, 27, 0⟩, .row false ty_priority_Test 3 wh.length (wh.flatMap Tst.cells)), (⟨0, 27, 1⟩, .row false ty_priority_Key 2 i ((ky.take i).flatMap Kyt.cells)), (⟨0, 6, 0⟩, .row false ty_priority_Test 3 0 []), (⟨0, 6, 1⟩, .row false ty_priority_Key 2 0 []), (⟨0, 6, 2⟩, .cells ty_priority_Class [.d (.str nm), .ref ⟨0, 27, 0⟩ 0 wh.length wh.length, .ref ⟨0, 27, 1⟩ 0 i i])])
    ky.length (fun i hi ik => ?_) 0 (Nat.zero_le _)) rfl rfl
   have hfk := fl_len Kyt.cells 2 Kyt.cells_length hi
   by_cases hil : i < ky.length
   ·have ik := ik hil
    rw [fl_succ Kyt.cells hil] at ik
    repeat' ((conv => whnf); first
    | refine Ya ?_ | refine Yb ?_ | refine Yc ?_ | refine Yd ?_ | refine Ye ?_ | refine Yf ?_ | refine Yg ?_ | refine Yh ?_ | refine Yi rfl ?_ | refine Yj rfl ?_ | refine Yk rfl ?_ | refine Yl rfl ?_
     | (refine PickW.rec Kyt.cells_length i rfl hil ?_)
     | (refine Need.mk (by simp only [List.length_cons, List.length_nil]; omega) ?_)
     | (refine LoopW.to ik rfl rfl))
   ·have ei : ky.take i = ky := List.take_of_length_le (by omega)
    have hi' : i = ky.length := by omega
    subst hi'
    rw [ei]
    repeat' ((conv => whnf); first
    | refine Ya ?_ | refine Yb ?_ | refine Yc ?_ | refine Yd ?_ | refine Ye ?_ | refine Yf ?_ | refine Yg ?_ | refine Yh ?_ | refine Yi rfl ?_ | refine Yj rfl ?_ | refine Yk rfl ?_ | refine Yl rfl ?_
     | (refine Need.mk (by simp only [List.length_cons, List.length_nil]; omega) ?_)
     | (refine LoopW.to ih rfl ?_))
    rw [if_pos ⟨rfl, rfl⟩, if_pos ⟨rfl, rfl⟩]
    rfl
 ·have ek : p.cl.take k = p.cl := List.take_of_length_le (by omega)
  have hk' : k = p.cl.length := by omega
  subst hk'
  rw [ek]
  repeat' ((conv => whnf); first
  | refine Ya ?_ | refine Yb ?_ | refine Yc ?_ | refine Yd ?_ | refine Ye ?_ | refine Yf ?_ | refine Yg ?_ | refine Yh ?_ | refine Yi rfl ?_ | refine Yj rfl ?_ | refine Yk rfl ?_ | refine Yl rfl ?_
   | (refine Need.mk ⟨rfl, by simp⟩ ?_)
   | (refine Ret.mk ?_))
  refine congrArg (fun x => V.d (.agg [.list p.cl.length x, DI p.po, DI p.of, DI p.fo])) (?_ : _ = p.cl.flatMap Cls.cells)
  exact if_pos ⟨rfl, rfl⟩
end
end Go.Proofs.YtcephlgejkngiaaGreatDoor.Co
/-
 Priority: short programs.
-/
namespace Go.Proofs.YtcephlgejkngiaaGreatDoor.Co
open Go Go.Evl
set_option maxRecDepth 100000
def shortT (t : Tst) : Bool := decide (t.fa.length ≤ 40 ∧ t.op.length ≤ 40)
def shortK (k : Kyt) : Bool := decide (k.fa.length ≤ 40)
def headC (c : Cls) : Bool := decide (c.nm.length ≤ 40 ∧ (c.wh.length ≤ 4 ∨ c.wh.length = 9) ∧ (c.ky.length ≤ 4 ∨ c.ky.length = 9))
def shortC (c : Cls) : Bool := headC c && (c.wh.all shortT && c.ky.all shortK)
def shortP (p : Prg) : Bool := decide (p.cl.length ≤ 5 ∨ p.cl.length = 17) && p.cl.all shortC
def BigP (p : Prg) : Prop := p.cl.length ≤ 9223372036854775807 ∧ ∀ c ∈ p.cl, c.wh.length ≤ 9223372036854775807 ∧ c.ky.length ≤ 9223372036854775807
theorem shortP_small {p : Prg} (h : shortP p = true) : SmallP p := by
 simp only [shortP, shortC, headC, Bool.and_eq_true, decide_eq_true_eq, List.all_eq_true] at h
 refine ⟨by omega, fun c hc => ?_⟩
 have := (h.2 c hc).1
 exact ⟨by omega, by omega⟩
section
variable {E : Oracle} (g : Good E)
include g
set_option maxHeartbeats 8000000 in
theorem r_ShortP (p : Prg) (hs : BigP p) : Fc E n_ref05_Short [Pgv p] (B (shortP p)) := by
 refine g.fn code_ref05_Short rfl ?_
 obtain ⟨l1, l2⟩ := hs
 unfold shortP
 by_cases hl : p.cl.length ≤ 5 ∨ p.cl.length = 17
 ·rw [decide_eq_true hl, Bool.true_and]
  generalize hR : p.cl.all shortC = R
  repeat' ((conv => whnf); first
  | refine Ya ?_ | refine Yb ?_ | refine Yc ?_ | refine Yd ?_ | refine Ye ?_ | refine Yf ?_ | refine Yg ?_ | refine Yh ?_ | refine Yi rfl ?_ | refine Yj rfl ?_ | refine Yk rfl ?_ | refine Yl rfl ?_
   | (refine Cmp.mk (fun h => ?_) (fun h => ?_)) | (refine Rem.any (by omega) (fun r hr he => ?_)) | (refine Br.mk (fun h => ?_) (fun h => ?_))
   | (exfalso; omega))
  all_goals
   refine LoopW.to (LoopW.upP g (fun k => [(1, .ptr ⟨0, 1, 0⟩ 0 0), (3, I k)]) (fun _ => _) (fun k => (p.cl.drop k).all shortC = R) p.cl.length (fun k hk h0 ih => ?_) 0 (Nat.zero_le _) hR) rfl rfl
   by_cases hlt : k < p.cl.length
   ·rw [List.drop_eq_getElem_cons hlt, List.all_cons] at h0
    have ih := ih hlt
    have l3 := l2 _ (List.getElem_mem hlt)
    generalize hx : p.cl[k] = x at *
    obtain ⟨l4, l5⟩ := l3
    unfold shortC at h0
    by_cases hh : x.nm.length ≤ 40 ∧ (x.wh.length ≤ 4 ∨ x.wh.length = 9) ∧ (x.ky.length ≤ 4 ∨ x.ky.length = 9)
    ·have hd : headC x = true := decide_eq_true hh
     rw [hd, Bool.true_and] at h0
     generalize hA : x.wh.all shortT = A at h0
     generalize hB : x.ky.all shortK = B' at h0
     repeat' ((conv => whnf); first
     | refine Ya ?_ | refine Yb ?_ | refine Yc ?_ | refine Yd ?_ | refine Ye ?_ | refine Yf ?_ | refine Yg ?_ | refine Yh ?_ | refine Yi rfl ?_ | refine Yj rfl ?_ | refine Yk rfl ?_ | refine Yl rfl ?_
      | (refine PickW.rec Cls.cells_length k rfl hlt ?_; rw [hx])
      | (refine Cmp.mk (fun h => ?_) (fun h => ?_)) | (refine Rem.any (by omega) (fun r hr he => ?_)) | (refine Br.mk (fun h => ?_) (fun h => ?_))
      | (exfalso; omega))
     all_goals
      refine LoopW.to (LoopW.upP g (fun j => [(1, .ptr ⟨0, 1, 0⟩ 0 0), (3, I k), (4, .ptr ⟨0, 4, 0⟩ 0 0), (5, I j)]) (fun _ => _) (fun j => (x.wh.drop j).all shortT = A) x.wh.length (fun j hj h1 jh => ?_) 0 (Nat.zero_le _) hA) rfl rfl
      by_cases hjl : j < x.wh.length
      ·rw [List.drop_eq_getElem_cons hjl, List.all_cons] at h1
       have jh := jh hjl
       by_cases ht : x.wh[j].fa.length ≤ 40 ∧ x.wh[j].op.length ≤ 40
       ·have hd : shortT x.wh[j] = true := decide_eq_true ht
        rw [hd, Bool.true_and] at h1
        have jh := jh h1
        repeat' ((conv => whnf); first
        | refine Ya ?_ | refine Yb ?_ | refine Yc ?_ | refine Yd ?_ | refine Ye ?_ | refine Yf ?_ | refine Yg ?_ | refine Yh ?_ | refine Yi rfl ?_ | refine Yj rfl ?_ | refine Yk rfl ?_ | refine Yl rfl ?_
         | (refine Pick.rec Tst.cells_length j rfl hjl rfl ?_)
         | (refine LoopW.to jh rfl rfl))
       ·have hd : shortT x.wh[j] = false := decide_eq_false ht
        rw [hd, Bool.false_and] at h1
        rw [← h1, Bool.false_and, Bool.false_and] at h0
        rw [← h0]
        repeat' ((conv => whnf); first
        | refine Ya ?_ | refine Yb ?_ | refine Yc ?_ | refine Yd ?_ | refine Ye ?_ | refine Yf ?_ | refine Yg ?_ | refine Yh ?_ | refine Yi rfl ?_ | refine Yj rfl ?_ | refine Yk rfl ?_ | refine Yl rfl ?_
         | (refine Pick.rec Tst.cells_length j rfl hjl rfl ?_)
         | (refine Cmp.mk (fun h => ?_) (fun h => ?_)) | (refine Rem.any (by omega) (fun r hr he => ?_)) | (refine Br.mk (fun h => ?_) (fun h => ?_))
         | (refine Ret.mk rfl)
         | (exfalso; omega))
      ·rw [List.drop_eq_nil_of_le (by omega), List.all_nil] at h1
       rw [← h1, Bool.true_and] at h0
       repeat' ((conv => whnf); first
       | refine Ya ?_ | refine Yb ?_ | refine Yc ?_ | refine Yd ?_ | refine Ye ?_ | refine Yf ?_ | refine Yg ?_ | refine Yh ?_ | refine Yi rfl ?_ | refine Yj rfl ?_ | refine Yk rfl ?_ | refine Yl rfl ?_)
       refine LoopW.to (LoopW.upP g (fun i => [(1, .ptr ⟨0, 1, 0⟩ 0 0), (3, I k), (4, .ptr ⟨0, 4, 0⟩ 0 0), (6, I i)]) (fun _ => _) (fun i => (x.ky.drop i).all shortK = B') x.ky.length (fun i hi h2 ik => ?_) 0 (Nat.zero_le _) hB) rfl rfl
       by_cases hil : i < x.ky.length
       ·rw [List.drop_eq_getElem_cons hil, List.all_cons] at h2
        have ik := ik hil
        by_cases ht : x.ky[i].fa.length ≤ 40
        ·have hd : shortK x.ky[i] = true := decide_eq_true ht
         rw [hd, Bool.true_and] at h2
         have ik := ik h2
         repeat' ((conv => whnf); first
         | refine Ya ?_ | refine Yb ?_ | refine Yc ?_ | refine Yd ?_ | refine Ye ?_ | refine Yf ?_ | refine Yg ?_ | refine Yh ?_ | refine Yi rfl ?_ | refine Yj rfl ?_ | refine Yk rfl ?_ | refine Yl rfl ?_
          | (refine Pick.rec Kyt.cells_length i rfl hil rfl ?_)
          | (refine LoopW.to ik rfl rfl))
        ·have hd : shortK x.ky[i] = false := decide_eq_false ht
         rw [hd, Bool.false_and] at h2
         rw [← h2, Bool.false_and] at h0
         rw [← h0]
         repeat' ((conv => whnf); first
         | refine Ya ?_ | refine Yb ?_ | refine Yc ?_ | refine Yd ?_ | refine Ye ?_ | refine Yf ?_ | refine Yg ?_ | refine Yh ?_ | refine Yi rfl ?_ | refine Yj rfl ?_ | refine Yk rfl ?_ | refine Yl rfl ?_
          | (refine Pick.rec Kyt.cells_length i rfl hil rfl ?_)
          | (refine Ret.mk rfl))
       ·rw [List.drop_eq_nil_of_le (by omega), List.all_nil] at h2
        rw [← h2, Bool.true_and] at h0
        have ih := ih h0
        repeat' ((conv => whnf); first
        | refine Ya ?_ | refine Yb ?_ | refine Yc ?_ | refine Yd ?_ | refine Ye ?_ | refine Yf ?_ | refine Yg ?_ | refine Yh ?_ | refine Yi rfl ?_ | refine Yj rfl ?_ | refine Yk rfl ?_ | refine Yl rfl ?_
         | (refine LoopW.to ih rfl rfl))
    ·have hd : headC x = false := decide_eq_false hh
     rw [hd, Bool.false_and, Bool.false_and] at h0
     rw [← h0]
     repeat' ((conv => whnf); first
     | refine Ya ?_ | refine Yb ?_ | refine Yc ?_ | refine Yd ?_ | refine Ye ?_ | refine Yf ?_ | refine Yg ?_ | refine Yh ?_ | refine Yi rfl ?_ | refine Yj rfl ?_ | refine Yk rfl ?_ | refine Yl rfl ?_
      | (refine PickW.rec Cls.cells_length k rfl hlt ?_; rw [hx])
      | (refine Cmp.mk (fun h => ?_) (fun h => ?_)) | (refine Rem.any (by omega) (fun r hr he => ?_)) | (refine Br.mk (fun h => ?_) (fun h => ?_))
      | (refine Ret.mk rfl)
      | (exfalso; omega))
   ·rw [List.drop_eq_nil_of_le (by omega), List.all_nil] at h0
    rw [← h0]
    repeat' ((conv => whnf); first
    | refine Ya ?_ | refine Yb ?_ | refine Yc ?_ | refine Yd ?_ | refine Ye ?_ | refine Yf ?_ | refine Yg ?_ | refine Yh ?_ | refine Yi rfl ?_ | refine Yj rfl ?_ | refine Yk rfl ?_ | refine Yl rfl ?_
     | (refine Ret.mk rfl))
 ·rw [decide_eq_false hl, Bool.false_and]
  repeat' ((conv => whnf); first
  | refine Ya ?_ | refine Yb ?_ | refine Yc ?_ | refine Yd ?_ | refine Ye ?_ | refine Yf ?_ | refine Yg ?_ | refine Yh ?_ | refine Yi rfl ?_ | refine Yj rfl ?_ | refine Yk rfl ?_ | refine Yl rfl ?_
   | (refine Cmp.mk (fun h => ?_) (fun h => ?_)) | (refine Rem.any (by omega) (fun r hr he => ?_)) | (refine Br.mk (fun h => ?_) (fun h => ?_))
   | (refine Ret.mk rfl)
   | (exfalso; omega))
end
end Go.Proofs.YtcephlgejkngiaaGreatDoor.Co
/-
 Priority: programs as a law's parameters.
-/
namespace Go.Proofs.YtcephlgejkngiaaGreatDoor.Co
open Go Go.Evl
set_option maxRecDepth 100000
theorem fit_Tests {k : Nat} : ∀ (m : Nat) {ds : List D}, fitAll (fit Tryz.prog (k + 2)) (List.replicate m 109) ds → ∃ l : List Tst, ds = l.flatMap Tst.cells ∧ l.length = m
 | 0, ds, h => ⟨[], h, rfl⟩
 | m + 1, ds, h => by
  obtain ⟨a, b, rfl, h1, h2⟩ := h
  obtain ⟨x, rfl⟩ := fit_Test h1
  obtain ⟨l, rfl, h3⟩ := fit_Tests m h2
  exact ⟨x :: l, rfl, by simp [h3]⟩
theorem fit_Key {k : Nat} {ds : List D} (h : fit Tryz.prog (k + 2) 111 ds) : ∃ t : Kyt, ds = t.cells := by
 obtain ⟨_, _, rfl, h1, _, _, rfl, h2, rfl⟩ := fit_st Tryz.underlying111 h
 obtain ⟨s1, rfl⟩ := fit_str h1
 obtain ⟨b, rfl⟩ := fit_bo h2
 exact ⟨⟨s1, b⟩, rfl⟩
theorem fit_Keys {k : Nat} : ∀ (m : Nat) {ds : List D}, fitAll (fit Tryz.prog (k + 2)) (List.replicate m 111) ds → ∃ l : List Kyt, ds = l.flatMap Kyt.cells ∧ l.length = m
 | 0, ds, h => ⟨[], h, rfl⟩
 | m + 1, ds, h => by
  obtain ⟨a, b, rfl, h1, h2⟩ := h
  obtain ⟨x, rfl⟩ := fit_Key h1
  obtain ⟨l, rfl, h3⟩ := fit_Keys m h2
  exact ⟨x :: l, rfl, by simp [h3]⟩
theorem fit_Class {k : Nat} {ds : List D} (h : fit Tryz.prog (k + 4) 107 ds) : ∃ c : Cls, ds = c.cells ∧ c.wh.length ≤ 9223372036854775807 ∧ c.ky.length ≤ 9223372036854775807 := by
 obtain ⟨_, _, rfl, h1, _, _, rfl, h2, _, _, rfl, h3, rfl⟩ := fit_st Tryz.underlying107 h
 obtain ⟨s1, rfl⟩ := fit_str h1
 obtain ⟨m, cs, rfl, a1, h4⟩ := fit_l Tryz.underlying104 h2
 obtain ⟨n, es, rfl, a2, h5⟩ := fit_l Tryz.underlying105 h3
 obtain ⟨l, rfl, rfl⟩ := fit_Tests m h4
 obtain ⟨q, rfl, rfl⟩ := fit_Keys n h5
 exact ⟨⟨s1, l, q⟩, rfl, Nat.le_trans a1 (by decide), Nat.le_trans a2 (by decide)⟩
theorem fit_Classes {k : Nat} : ∀ (m : Nat) {ds : List D}, fitAll (fit Tryz.prog (k + 4)) (List.replicate m 107) ds → ∃ l : List Cls, ds = l.flatMap Cls.cells ∧ l.length = m ∧ ∀ c ∈ l, c.wh.length ≤ 9223372036854775807 ∧ c.ky.length ≤ 9223372036854775807
 | 0, ds, h => ⟨[], h, rfl, fun _ h => by cases h⟩
 | m + 1, ds, h => by
  obtain ⟨a, b, rfl, h1, h2⟩ := h
  obtain ⟨x, rfl, b1⟩ := fit_Class h1
  obtain ⟨l, rfl, h3, b2⟩ := fit_Classes m h2
  refine ⟨x :: l, rfl, by simp [h3], fun c hc => ?_⟩
  rcases List.mem_cons.1 hc with rfl | hc
  ·exact b1
  ·exact b2 c hc
theorem arg_Program {x : D} (h : fitArg Tryz.prog 24 x) : ∃ p : Prg, x = .agg p.cells ∧ BigP p := by
 obtain ⟨ds, rfl, _, _, rfl, h1, _, _, rfl, h2, _, _, rfl, h3, _, _, rfl, h4, rfl⟩ := arg_st Tryz.underlying24 h
 obtain ⟨m, cs, rfl, a1, h5⟩ := fit_l Tryz.underlying22 h1
 obtain ⟨l, rfl, rfl, b1⟩ := fit_Classes m h5
 obtain ⟨n1, rfl, _⟩ := fit_int h2
 obtain ⟨n2, rfl, _⟩ := fit_int h3
 obtain ⟨n3, rfl, _⟩ := fit_int h4
 exact ⟨⟨l, n1, n2, n3⟩, rfl, Nat.le_trans a1 (by decide), b1⟩
end Go.Proofs.YtcephlgejkngiaaGreatDoor.Co
/-
 The fixed example of chapter 5's laws comes out: each call computed by the kernel, then the walk through them.
-/
namespace Go.Proofs.YtcephlgejkngiaaGreatDoor.Co
open Go Go.Evl
section
variable {E : Oracle} (g : Good E)
include g
set_option maxRecDepth 100000
theorem ap1 : Fc E n_priority_Default [] (.d (.agg [.list 4 [.str [104, 105, 115, 116, 111, 114, 105, 99], .list 2 [.str [104, 105, 115, 116, 111, 114, 105, 99], .str [61], DI 1, .str [114, 101, 116, 105, 109, 101, 100], .str [61], DI 0], .list 2 [.str [100, 97, 121, 115], .bool true, .str [115, 101, 97, 116, 115], .bool true], .str [114, 101, 116, 105, 109, 101, 100], .list 1 [.str [104, 105, 115, 116, 111, 114, 105, 99], .str [61], DI 1], .list 2 [.str [100, 97, 121, 115], .bool true, .str [115, 101, 97, 116, 115], .bool true], .str [121, 101, 97, 114, 114, 111, 117, 110, 100], .list 1 [.str [121, 101, 97, 114, 114, 111, 117, 110, 100], .str [61], DI 1], .list 3 [.str [100, 97, 121, 115], .bool true, .str [115, 101, 97, 116, 115], .bool true, .str [100, 105, 115, 116, 97, 110, 99, 101], .bool true], .str [111, 116, 104, 101, 114, 115], .list 0 [], .list 3 [.str [100, 97, 121, 115], .bool true, .str [115, 101, 97, 116, 115], .bool true, .str [100, 105, 115, 116, 97, 110, 99, 101], .bool true]], DI 2, DI 2, DI 1])) := g.compR 1000 (by decide +kernel)
theorem ap2 : Fc E n_priority_Print [.d (.agg [.list 4 [.str [104, 105, 115, 116, 111, 114, 105, 99], .list 2 [.str [104, 105, 115, 116, 111, 114, 105, 99], .str [61], DI 1, .str [114, 101, 116, 105, 109, 101, 100], .str [61], DI 0], .list 2 [.str [100, 97, 121, 115], .bool true, .str [115, 101, 97, 116, 115], .bool true], .str [114, 101, 116, 105, 109, 101, 100], .list 1 [.str [104, 105, 115, 116, 111, 114, 105, 99], .str [61], DI 1], .list 2 [.str [100, 97, 121, 115], .bool true, .str [115, 101, 97, 116, 115], .bool true], .str [121, 101, 97, 114, 114, 111, 117, 110, 100], .list 1 [.str [121, 101, 97, 114, 114, 111, 117, 110, 100], .str [61], DI 1], .list 3 [.str [100, 97, 121, 115], .bool true, .str [115, 101, 97, 116, 115], .bool true, .str [100, 105, 115, 116, 97, 110, 99, 101], .bool true], .str [111, 116, 104, 101, 114, 115], .list 0 [], .list 3 [.str [100, 97, 121, 115], .bool true, .str [115, 101, 97, 116, 115], .bool true, .str [100, 105, 115, 116, 97, 110, 99, 101], .bool true]], DI 2, DI 2, DI 1])] (.tup [.d (.str [99, 108, 97, 115, 115, 32, 104, 105, 115, 116, 111, 114, 105, 99, 32, 119, 104, 101, 110, 32, 104, 105, 115, 116, 111, 114, 105, 99, 61, 49, 32, 114, 101, 116, 105, 109, 101, 100, 61, 48, 32, 98, 121, 32, 100, 97, 121, 115, 45, 32, 115, 101, 97, 116, 115, 45, 10, 99, 108, 97, 115, 115, 32, 114, 101, 116, 105, 109, 101, 100, 32, 119, 104, 101, 110, 32, 104, 105, 115, 116, 111, 114, 105, 99, 61, 49, 32, 98, 121, 32, 100, 97, 121, 115, 45, 32, 115, 101, 97, 116, 115, 45, 10, 99, 108, 97, 115, 115, 32, 121, 101, 97, 114, 114, 111, 117, 110, 100, 32, 119, 104, 101, 110, 32, 121, 101, 97, 114, 114, 111, 117, 110, 100, 61, 49, 32, 98, 121, 32, 100, 97, 121, 115, 45, 32, 115, 101, 97, 116, 115, 45, 32, 100, 105, 115, 116, 97, 110, 99, 101, 45, 10, 99, 108, 97, 115, 115, 32, 111, 116, 104, 101, 114, 115, 32, 98, 121, 32, 100, 97, 121, 115, 45, 32, 115, 101, 97, 116, 115, 45, 32, 100, 105, 115, 116, 97, 110, 99, 101, 45, 10, 112, 111, 111, 108, 32, 50, 32, 115, 104, 97, 114, 101, 32, 49, 32, 111, 102, 32, 50, 10]), .d (DI 0)]) := g.compR 1000 (by decide +kernel)
theorem ap3 : Fc E n_priority_Parse [S [99, 108, 97, 115, 115, 32, 104, 105, 115, 116, 111, 114, 105, 99, 32, 119, 104, 101, 110, 32, 104, 105, 115, 116, 111, 114, 105, 99, 61, 49, 32, 114, 101, 116, 105, 109, 101, 100, 61, 48, 32, 98, 121, 32, 100, 97, 121, 115, 45, 32, 115, 101, 97, 116, 115, 45, 10, 99, 108, 97, 115, 115, 32, 114, 101, 116, 105, 109, 101, 100, 32, 119, 104, 101, 110, 32, 104, 105, 115, 116, 111, 114, 105, 99, 61, 49, 32, 98, 121, 32, 100, 97, 121, 115, 45, 32, 115, 101, 97, 116, 115, 45, 10, 99, 108, 97, 115, 115, 32, 121, 101, 97, 114, 114, 111, 117, 110, 100, 32, 119, 104, 101, 110, 32, 121, 101, 97, 114, 114, 111, 117, 110, 100, 61, 49, 32, 98, 121, 32, 100, 97, 121, 115, 45, 32, 115, 101, 97, 116, 115, 45, 32, 100, 105, 115, 116, 97, 110, 99, 101, 45, 10, 99, 108, 97, 115, 115, 32, 111, 116, 104, 101, 114, 115, 32, 98, 121, 32, 100, 97, 121, 115, 45, 32, 115, 101, 97, 116, 115, 45, 32, 100, 105, 115, 116, 97, 110, 99, 101, 45, 10, 112, 111, 111, 108, 32, 50, 32, 115, 104, 97, 114, 101, 32, 49, 32, 111, 102, 32, 50, 10]] (.tup [.d (.agg [.list 4 [.str [104, 105, 115, 116, 111, 114, 105, 99], .list 2 [.str [104, 105, 115, 116, 111, 114, 105, 99], .str [61], DI 1, .str [114, 101, 116, 105, 109, 101, 100], .str [61], DI 0], .list 2 [.str [100, 97, 121, 115], .bool true, .str [115, 101, 97, 116, 115], .bool true], .str [114, 101, 116, 105, 109, 101, 100], .list 1 [.str [104, 105, 115, 116, 111, 114, 105, 99], .str [61], DI 1], .list 2 [.str [100, 97, 121, 115], .bool true, .str [115, 101, 97, 116, 115], .bool true], .str [121, 101, 97, 114, 114, 111, 117, 110, 100], .list 1 [.str [121, 101, 97, 114, 114, 111, 117, 110, 100], .str [61], DI 1], .list 3 [.str [100, 97, 121, 115], .bool true, .str [115, 101, 97, 116, 115], .bool true, .str [100, 105, 115, 116, 97, 110, 99, 101], .bool true], .str [111, 116, 104, 101, 114, 115], .list 0 [], .list 3 [.str [100, 97, 121, 115], .bool true, .str [115, 101, 97, 116, 115], .bool true, .str [100, 105, 115, 116, 97, 110, 99, 101], .bool true]], DI 2, DI 2, DI 1]), .d (DI 0), .d (DI 0)]) := g.compR 1000 (by decide +kernel)
theorem ap4 : Fc E n_law05_sample [S [104], I 90] (.d (.agg [.str [104], .str [97, 98], .str [65], .str [], .str [102, 97, 114], .str [], DI 8900, DI 8920, DI 5, DI 600, DI 90, DI 4, DI 0, .bool false, .bool false, .bool false, .bool false, DI 0])) := g.compR 1000 (by decide +kernel)
theorem ap5 : Fc E n_law05_sample [S [99], I 180] (.d (.agg [.str [99], .str [97, 98], .str [65], .str [], .str [102, 97, 114], .str [], DI 8900, DI 8920, DI 5, DI 600, DI 180, DI 4, DI 0, .bool false, .bool false, .bool false, .bool false, DI 0])) := g.compR 1000 (by decide +kernel)
theorem ap6 : Fc E n_law05_sample [S [100], I 150] (.d (.agg [.str [100], .str [97, 98], .str [65], .str [], .str [102, 97, 114], .str [], DI 8900, DI 8920, DI 5, DI 600, DI 150, DI 4, DI 0, .bool false, .bool false, .bool false, .bool false, DI 0])) := g.compR 1000 (by decide +kernel)
theorem ap7 : Fc E n_law05_sample [S [98], I 100] (.d (.agg [.str [98], .str [97, 98], .str [65], .str [], .str [102, 97, 114], .str [], DI 8900, DI 8920, DI 5, DI 600, DI 100, DI 4, DI 0, .bool false, .bool false, .bool false, .bool false, DI 0])) := g.compR 1000 (by decide +kernel)
theorem ap8 : Fc E n_law05_sample [S [101], I 90] (.d (.agg [.str [101], .str [97, 98], .str [65], .str [], .str [102, 97, 114], .str [], DI 8900, DI 8920, DI 5, DI 600, DI 90, DI 4, DI 0, .bool false, .bool false, .bool false, .bool false, DI 0])) := g.compR 1000 (by decide +kernel)
theorem ap9 : Fc E n_priority_ClassOf [.d (.agg [.list 4 [.str [104, 105, 115, 116, 111, 114, 105, 99], .list 2 [.str [104, 105, 115, 116, 111, 114, 105, 99], .str [61], DI 1, .str [114, 101, 116, 105, 109, 101, 100], .str [61], DI 0], .list 2 [.str [100, 97, 121, 115], .bool true, .str [115, 101, 97, 116, 115], .bool true], .str [114, 101, 116, 105, 109, 101, 100], .list 1 [.str [104, 105, 115, 116, 111, 114, 105, 99], .str [61], DI 1], .list 2 [.str [100, 97, 121, 115], .bool true, .str [115, 101, 97, 116, 115], .bool true], .str [121, 101, 97, 114, 114, 111, 117, 110, 100], .list 1 [.str [121, 101, 97, 114, 114, 111, 117, 110, 100], .str [61], DI 1], .list 3 [.str [100, 97, 121, 115], .bool true, .str [115, 101, 97, 116, 115], .bool true, .str [100, 105, 115, 116, 97, 110, 99, 101], .bool true], .str [111, 116, 104, 101, 114, 115], .list 0 [], .list 3 [.str [100, 97, 121, 115], .bool true, .str [115, 101, 97, 116, 115], .bool true, .str [100, 105, 115, 116, 97, 110, 99, 101], .bool true]], DI 2, DI 2, DI 1]), .d (.agg [.str [104], .str [97, 98], .str [65], .str [], .str [102, 97, 114], .str [], DI 8900, DI 8920, DI 5, DI 600, DI 90, DI 4, DI 0, .bool true, .bool true, .bool false, .bool false, DI 0])] (.tup [.d (DI 1), .d (DI 0)]) := g.compR 1000 (by decide +kernel)
theorem ap10 : Fc E n_priority_ClassOf [.d (.agg [.list 4 [.str [104, 105, 115, 116, 111, 114, 105, 99], .list 2 [.str [104, 105, 115, 116, 111, 114, 105, 99], .str [61], DI 1, .str [114, 101, 116, 105, 109, 101, 100], .str [61], DI 0], .list 2 [.str [100, 97, 121, 115], .bool true, .str [115, 101, 97, 116, 115], .bool true], .str [114, 101, 116, 105, 109, 101, 100], .list 1 [.str [104, 105, 115, 116, 111, 114, 105, 99], .str [61], DI 1], .list 2 [.str [100, 97, 121, 115], .bool true, .str [115, 101, 97, 116, 115], .bool true], .str [121, 101, 97, 114, 114, 111, 117, 110, 100], .list 1 [.str [121, 101, 97, 114, 114, 111, 117, 110, 100], .str [61], DI 1], .list 3 [.str [100, 97, 121, 115], .bool true, .str [115, 101, 97, 116, 115], .bool true, .str [100, 105, 115, 116, 97, 110, 99, 101], .bool true], .str [111, 116, 104, 101, 114, 115], .list 0 [], .list 3 [.str [100, 97, 121, 115], .bool true, .str [115, 101, 97, 116, 115], .bool true, .str [100, 105, 115, 116, 97, 110, 99, 101], .bool true]], DI 2, DI 2, DI 1]), .d (.agg [.str [99], .str [97, 98], .str [65], .str [], .str [102, 97, 114], .str [], DI 8900, DI 8920, DI 5, DI 600, DI 180, DI 4, DI 0, .bool false, .bool false, .bool false, .bool false, DI 0])] (.tup [.d (DI 3), .d (DI 0)]) := g.compR 1000 (by decide +kernel)
theorem ap11 : Fc E n_priority_Rank [.d (.agg [.list 4 [.str [104, 105, 115, 116, 111, 114, 105, 99], .list 2 [.str [104, 105, 115, 116, 111, 114, 105, 99], .str [61], DI 1, .str [114, 101, 116, 105, 109, 101, 100], .str [61], DI 0], .list 2 [.str [100, 97, 121, 115], .bool true, .str [115, 101, 97, 116, 115], .bool true], .str [114, 101, 116, 105, 109, 101, 100], .list 1 [.str [104, 105, 115, 116, 111, 114, 105, 99], .str [61], DI 1], .list 2 [.str [100, 97, 121, 115], .bool true, .str [115, 101, 97, 116, 115], .bool true], .str [121, 101, 97, 114, 114, 111, 117, 110, 100], .list 1 [.str [121, 101, 97, 114, 114, 111, 117, 110, 100], .str [61], DI 1], .list 3 [.str [100, 97, 121, 115], .bool true, .str [115, 101, 97, 116, 115], .bool true, .str [100, 105, 115, 116, 97, 110, 99, 101], .bool true], .str [111, 116, 104, 101, 114, 115], .list 0 [], .list 3 [.str [100, 97, 121, 115], .bool true, .str [115, 101, 97, 116, 115], .bool true, .str [100, 105, 115, 116, 97, 110, 99, 101], .bool true]], DI 2, DI 2, DI 1]), I 5, .d (.list 5 [.str [104], .str [97, 98], .str [65], .str [], .str [102, 97, 114], .str [], DI 8900, DI 8920, DI 5, DI 600, DI 90, DI 4, DI 0, .bool true, .bool false, .bool false, .bool false, DI 0, .str [99], .str [97, 98], .str [65], .str [], .str [102, 97, 114], .str [], DI 8900, DI 8920, DI 5, DI 600, DI 180, DI 4, DI 0, .bool false, .bool false, .bool false, .bool false, DI 0, .str [100], .str [97, 98], .str [65], .str [], .str [102, 97, 114], .str [], DI 8900, DI 8920, DI 5, DI 600, DI 150, DI 4, DI 0, .bool false, .bool false, .bool true, .bool false, DI 0, .str [98], .str [97, 98], .str [65], .str [], .str [102, 97, 114], .str [], DI 8900, DI 8920, DI 5, DI 600, DI 100, DI 4, DI 0, .bool false, .bool false, .bool true, .bool false, DI 0, .str [101], .str [97, 98], .str [65], .str [], .str [102, 97, 114], .str [], DI 8900, DI 8920, DI 5, DI 600, DI 90, DI 4, DI 0, .bool false, .bool false, .bool false, .bool false, DI 0])] (.tup [.d (.list 5 [DI 0, DI 2, DI 1, DI 3, DI 4]), .d (DI 0)]) := g.compR 1000 (by decide +kernel)
theorem ap12 : Fc E n_priority_Why [.d (.agg [.list 4 [.str [104, 105, 115, 116, 111, 114, 105, 99], .list 2 [.str [104, 105, 115, 116, 111, 114, 105, 99], .str [61], DI 1, .str [114, 101, 116, 105, 109, 101, 100], .str [61], DI 0], .list 2 [.str [100, 97, 121, 115], .bool true, .str [115, 101, 97, 116, 115], .bool true], .str [114, 101, 116, 105, 109, 101, 100], .list 1 [.str [104, 105, 115, 116, 111, 114, 105, 99], .str [61], DI 1], .list 2 [.str [100, 97, 121, 115], .bool true, .str [115, 101, 97, 116, 115], .bool true], .str [121, 101, 97, 114, 114, 111, 117, 110, 100], .list 1 [.str [121, 101, 97, 114, 114, 111, 117, 110, 100], .str [61], DI 1], .list 3 [.str [100, 97, 121, 115], .bool true, .str [115, 101, 97, 116, 115], .bool true, .str [100, 105, 115, 116, 97, 110, 99, 101], .bool true], .str [111, 116, 104, 101, 114, 115], .list 0 [], .list 3 [.str [100, 97, 121, 115], .bool true, .str [115, 101, 97, 116, 115], .bool true, .str [100, 105, 115, 116, 97, 110, 99, 101], .bool true]], DI 2, DI 2, DI 1]), I 5, .d (.list 5 [.str [104], .str [97, 98], .str [65], .str [], .str [102, 97, 114], .str [], DI 8900, DI 8920, DI 5, DI 600, DI 90, DI 4, DI 0, .bool true, .bool false, .bool false, .bool false, DI 0, .str [99], .str [97, 98], .str [65], .str [], .str [102, 97, 114], .str [], DI 8900, DI 8920, DI 5, DI 600, DI 180, DI 4, DI 0, .bool false, .bool false, .bool false, .bool false, DI 0, .str [100], .str [97, 98], .str [65], .str [], .str [102, 97, 114], .str [], DI 8900, DI 8920, DI 5, DI 600, DI 150, DI 4, DI 0, .bool false, .bool false, .bool true, .bool false, DI 0, .str [98], .str [97, 98], .str [65], .str [], .str [102, 97, 114], .str [], DI 8900, DI 8920, DI 5, DI 600, DI 100, DI 4, DI 0, .bool false, .bool false, .bool true, .bool false, DI 0, .str [101], .str [97, 98], .str [65], .str [], .str [102, 97, 114], .str [], DI 8900, DI 8920, DI 5, DI 600, DI 90, DI 4, DI 0, .bool false, .bool false, .bool false, .bool false, DI 0])] (.tup [.d (.list 4 [.str [99, 108, 97, 115, 115], .str [115, 104, 97, 114, 101], .str [115, 101, 97, 116, 115], .str [115, 101, 97, 116, 115]]), .d (DI 0)]) := g.compR 1000 (by decide +kernel)
theorem ap13 : Fc E n_law05_own [.d (.agg [.list 4 [.str [104, 105, 115, 116, 111, 114, 105, 99], .list 2 [.str [104, 105, 115, 116, 111, 114, 105, 99], .str [61], DI 1, .str [114, 101, 116, 105, 109, 101, 100], .str [61], DI 0], .list 2 [.str [100, 97, 121, 115], .bool true, .str [115, 101, 97, 116, 115], .bool true], .str [114, 101, 116, 105, 109, 101, 100], .list 1 [.str [104, 105, 115, 116, 111, 114, 105, 99], .str [61], DI 1], .list 2 [.str [100, 97, 121, 115], .bool true, .str [115, 101, 97, 116, 115], .bool true], .str [121, 101, 97, 114, 114, 111, 117, 110, 100], .list 1 [.str [121, 101, 97, 114, 114, 111, 117, 110, 100], .str [61], DI 1], .list 3 [.str [100, 97, 121, 115], .bool true, .str [115, 101, 97, 116, 115], .bool true, .str [100, 105, 115, 116, 97, 110, 99, 101], .bool true], .str [111, 116, 104, 101, 114, 115], .list 0 [], .list 3 [.str [100, 97, 121, 115], .bool true, .str [115, 101, 97, 116, 115], .bool true, .str [100, 105, 115, 116, 97, 110, 99, 101], .bool true]], DI 2, DI 2, DI 1])] (.d (.agg [.list 4 [.str [104, 105, 115, 116, 111, 114, 105, 99], .list 2 [.str [104, 105, 115, 116, 111, 114, 105, 99], .str [61], DI 1, .str [114, 101, 116, 105, 109, 101, 100], .str [61], DI 0], .list 2 [.str [100, 97, 121, 115], .bool true, .str [115, 101, 97, 116, 115], .bool true], .str [114, 101, 116, 105, 109, 101, 100], .list 1 [.str [104, 105, 115, 116, 111, 114, 105, 99], .str [61], DI 1], .list 2 [.str [100, 97, 121, 115], .bool true, .str [115, 101, 97, 116, 115], .bool true], .str [121, 101, 97, 114, 114, 111, 117, 110, 100], .list 1 [.str [121, 101, 97, 114, 114, 111, 117, 110, 100], .str [61], DI 1], .list 3 [.str [100, 97, 121, 115], .bool true, .str [115, 101, 97, 116, 115], .bool true, .str [100, 105, 115, 116, 97, 110, 99, 101], .bool true], .str [111, 116, 104, 101, 114, 115], .list 0 [], .list 3 [.str [100, 97, 121, 115], .bool true, .str [115, 101, 97, 116, 115], .bool true, .str [100, 105, 115, 116, 97, 110, 99, 101], .bool true]], DI 2, DI 2, DI 1])) := g.compR 1000 (by decide +kernel)
theorem ap14 : Fc E n_ref05_Same [.d (.agg [.list 4 [.str [104, 105, 115, 116, 111, 114, 105, 99], .list 2 [.str [104, 105, 115, 116, 111, 114, 105, 99], .str [61], DI 1, .str [114, 101, 116, 105, 109, 101, 100], .str [61], DI 0], .list 2 [.str [100, 97, 121, 115], .bool true, .str [115, 101, 97, 116, 115], .bool true], .str [114, 101, 116, 105, 109, 101, 100], .list 1 [.str [104, 105, 115, 116, 111, 114, 105, 99], .str [61], DI 1], .list 2 [.str [100, 97, 121, 115], .bool true, .str [115, 101, 97, 116, 115], .bool true], .str [121, 101, 97, 114, 114, 111, 117, 110, 100], .list 1 [.str [121, 101, 97, 114, 114, 111, 117, 110, 100], .str [61], DI 1], .list 3 [.str [100, 97, 121, 115], .bool true, .str [115, 101, 97, 116, 115], .bool true, .str [100, 105, 115, 116, 97, 110, 99, 101], .bool true], .str [111, 116, 104, 101, 114, 115], .list 0 [], .list 3 [.str [100, 97, 121, 115], .bool true, .str [115, 101, 97, 116, 115], .bool true, .str [100, 105, 115, 116, 97, 110, 99, 101], .bool true]], DI 2, DI 2, DI 1]), .d (.agg [.list 4 [.str [104, 105, 115, 116, 111, 114, 105, 99], .list 2 [.str [104, 105, 115, 116, 111, 114, 105, 99], .str [61], DI 1, .str [114, 101, 116, 105, 109, 101, 100], .str [61], DI 0], .list 2 [.str [100, 97, 121, 115], .bool true, .str [115, 101, 97, 116, 115], .bool true], .str [114, 101, 116, 105, 109, 101, 100], .list 1 [.str [104, 105, 115, 116, 111, 114, 105, 99], .str [61], DI 1], .list 2 [.str [100, 97, 121, 115], .bool true, .str [115, 101, 97, 116, 115], .bool true], .str [121, 101, 97, 114, 114, 111, 117, 110, 100], .list 1 [.str [121, 101, 97, 114, 114, 111, 117, 110, 100], .str [61], DI 1], .list 3 [.str [100, 97, 121, 115], .bool true, .str [115, 101, 97, 116, 115], .bool true, .str [100, 105, 115, 116, 97, 110, 99, 101], .bool true], .str [111, 116, 104, 101, 114, 115], .list 0 [], .list 3 [.str [100, 97, 121, 115], .bool true, .str [115, 101, 97, 116, 115], .bool true, .str [100, 105, 115, 116, 97, 110, 99, 101], .bool true]], DI 2, DI 2, DI 1])] (B true) := g.compR 1000 (by decide +kernel)
theorem ap15 : Fc E n_ref01_SameInts [.d (.list 5 [DI 0, DI 2, DI 1, DI 3, DI 4]), .d (.list 5 [DI 0, DI 2, DI 1, DI 3, DI 4])] (B true) := g.compR 1000 (by decide +kernel)
theorem ap16 : Fc E n_ref01_SameWords [.d (.list 4 [.str [99, 108, 97, 115, 115], .str [115, 104, 97, 114, 101], .str [115, 101, 97, 116, 115], .str [115, 101, 97, 116, 115]]), .d (.list 4 [.str [99, 108, 97, 115, 115], .str [115, 104, 97, 114, 101], .str [115, 101, 97, 116, 115], .str [115, 101, 97, 116, 115]])] (B true) := g.compR 1000 (by decide +kernel)
theorem ap17 : Fc E n_priority_Interleave [I 3, I 2, .d (.list 5 [.bool false, .bool true, .bool false, .bool true, .bool true])] (.tup [.d (.list 5 [DI 1, DI 3, DI 0, DI 4, DI 2]), .d (DI 0)]) := g.compR 1000 (by decide +kernel)
theorem ap18 : Fc E n_law05_sample [S [120], I 1] (.d (.agg [.str [120], .str [97, 98], .str [65], .str [], .str [102, 97, 114], .str [], DI 8900, DI 8920, DI 5, DI 600, DI 1, DI 4, DI 0, .bool false, .bool false, .bool false, .bool false, DI 0])) := g.compR 1000 (by decide +kernel)
theorem ap19 : Fc E n_law05_sample [S [121], I 1] (.d (.agg [.str [121], .str [97, 98], .str [65], .str [], .str [102, 97, 114], .str [], DI 8900, DI 8920, DI 5, DI 600, DI 1, DI 4, DI 0, .bool false, .bool false, .bool false, .bool false, DI 0])) := g.compR 1000 (by decide +kernel)
theorem ap20 : Fc E n_priority_Lots [I 2, .d (.list 2 [.str [120], .str [97, 98], .str [65], .str [], .str [102, 97, 114], .str [], DI 8900, DI 8920, DI 5, DI 600, DI 1, DI 4, DI 0, .bool false, .bool false, .bool false, .bool false, DI 0, .str [121], .str [97, 98], .str [65], .str [], .str [102, 97, 114], .str [], DI 8900, DI 8920, DI 5, DI 600, DI 1, DI 4, DI 0, .bool false, .bool false, .bool false, .bool false, DI 0])] (.tup [.d (.list 2 [DI 1, DI 0]), .d (DI 0)]) := g.compR 1000 (by decide +kernel)
theorem ap21 : Fc E n_priority_Parse [S [99, 108, 97, 115, 115, 32, 97, 32, 98, 121, 32, 115, 101, 97, 116, 115, 10]] (.tup [.d (.agg [.list 0 [], DI 0, DI 0, DI 0]), .d (DI 0), .d (DI 25)]) := g.compR 1000 (by decide +kernel)
theorem ap22 : Fc E n_priority_Parse [S [99, 108, 97, 115, 115, 32, 97, 32, 98, 121, 32, 115, 101, 97, 116, 115, 45, 10]] (.tup [.d (.agg [.list 0 [], DI 0, DI 0, DI 0]), .d (DI 1), .d (DI 28)]) := g.compR 1000 (by decide +kernel)
theorem ap23 : Fc E n_priority_Fact [.d (.agg [.str [99], .str [97, 98], .str [65], .str [], .str [102, 97, 114], .str [], DI 8900, DI 8920, DI 5, DI 600, DI 180, DI 4, DI 0, .bool false, .bool false, .bool false, .bool false, DI 0]), S [100, 97, 121, 115]] (.tup [.d (DI 6), .d (DI 0)]) := g.compR 1000 (by decide +kernel)
theorem ap24 : Fc E n_priority_Newcomer [S [97, 98], I 8900, .d (.list 0 [])] (.tup [.d (.bool true), .d (DI 0)]) := g.compR 1000 (by decide +kernel)
theorem ap25 : Fc E n_ref01_SameInts [.d (.list 5 [DI 1, DI 3, DI 0, DI 4, DI 2]), .d (.list 5 [DI 1, DI 3, DI 0, DI 4, DI 2])] (B true) := g.compR 1000 (by decide +kernel)
theorem ap26 : Fc E n_ref01_SameInts [.d (.list 2 [DI 1, DI 0]), .d (.list 2 [DI 1, DI 0])] (B true) := g.compR 1000 (by decide +kernel)
theorem ap27 : Fc E n_ref01_DaysOf [.d (.agg [DI 8900, DI 8920, DI 5])] (.d (.list 6 [DI 8901, DI 8906, DI 8908, DI 8913, DI 8915, DI 8920])) := g.compR 1000 (by decide +kernel)
set_option maxHeartbeats 4000000 in
theorem s_awake : Fc E n_law05_awake [] (B true) := by
 refine g.fn code_law05_awake rfl ?_
 repeat' ((conv => whnf); first
 | refine Ya ?_ | refine Yb ?_ | refine Yc ?_ | refine Yd ?_ | refine Ye ?_ | refine Yf ?_ | refine Yg ?_ | refine Yh ?_ | refine Yi rfl ?_ | refine Yj rfl ?_ | refine Yk rfl ?_ | refine Yl rfl ?_
  | (apply CallI.of; first | exact ap1 g | exact ap2 g | exact ap3 g | exact ap4 g | exact ap5 g | exact ap6 g | exact ap7 g | exact ap8 g | exact ap9 g | exact ap10 g | exact ap11 g | exact ap12 g | exact ap13 g | exact ap14 g | exact ap15 g | exact ap16 g | exact ap17 g | exact ap18 g | exact ap19 g | exact ap20 g | exact ap21 g | exact ap22 g | exact ap23 g | exact ap24 g | exact ap25 g | exact ap26 g | exact ap27 g)
  | (refine Need.mk (by simp only [maxStr, List.length_cons, List.length_nil, List.length_append]; omega) ?_)
  | (exact Ret.mk rfl))
end
end Go.Proofs.YtcephlgejkngiaaGreatDoor.Co
/-
 PriorityRanks returns true, for every program, list of claims, key, order and index.
-/
namespace Go.Proofs.YtcephlgejkngiaaGreatDoor.Co
open Go Go.Evl
set_option maxRecDepth 100000
abbrev Drv (key : Int) (o : List Int) (c : Int) : V := .d (.agg [DI key, .list o.length (o.map DI), DI c])
theorem arg_Draw {x : D} (h : fitArg Tryz.prog 91 x) : ∃ (key : Int) (o : List Int) (c : Int), x = .agg [DI key, .list o.length (o.map DI), DI c] ∧ o.length ≤ 9223372036854775807 := by
 obtain ⟨ds, rfl, _, _, rfl, h1, _, _, rfl, h2, _, _, rfl, h3, rfl⟩ := arg_st Tryz.underlying91 h
 obtain ⟨k, rfl, _⟩ := fit_int h1
 obtain ⟨m, cs, rfl, a1, h5⟩ := fit_l Tryz.underlying48 h2
 obtain ⟨l, rfl, rfl, _⟩ := fit_ints m h5
 obtain ⟨c, rfl, _⟩ := fit_int h3
 exact ⟨k, l, c, rfl, Nat.le_trans a1 (by decide)⟩
section
variable {E : Oracle} (g : Good E)
include g
theorem r_First3 (a b c : Int) : Fc E n_ref01_First [.d (.list 3 [DI a, DI b, DI c])] (I (firstI [a, b, c])) := r_First g [a, b, c] (by simp)
theorem r_SameW (a : List (List UInt8)) (ha : a.length ≤ 1000000) : Fc E n_ref01_SameWords [LS a, LS a] (B true) := by
 refine g.fn code_ref01_SameWords rfl ?_
 repeat' ((conv => whnf); first
 | refine Ya ?_ | refine Yb ?_ | refine Yc ?_ | refine Yd ?_ | refine Ye ?_ | refine Yf ?_ | refine Yg ?_ | refine Yh ?_ | refine Yi rfl ?_ | refine Yj rfl ?_ | refine Yk rfl ?_ | refine Yl rfl ?_)
 refine LoopW.to (LoopW.up g (fun k => [(0, LS a), (1, LS a), (5, I k)]) (fun _ => []) a.length (fun k hk ih => ?_) 0 (Nat.zero_le _)) rfl rfl
 by_cases hlt : k < a.length
 ·have ih := ih hlt
  have hg : (a.map D.str)[((k : Int)).toNat * 1]? = some (.str a[k]) := by simp [hlt]
  repeat' ((conv => whnf); first
  | refine Ya ?_ | refine Yb ?_ | refine Yc ?_ | refine Yd ?_ | refine Ye ?_ | refine Yf ?_ | refine Yg ?_ | refine Yh ?_ | refine Yi rfl ?_ | refine Yj rfl ?_ | refine Yk rfl ?_ | refine Yl rfl ?_
   | (refine Pick.now hg ?_)
   | (refine Cmp.tt rfl ?_)
   | (refine LoopW.to ih rfl rfl))
 ·repeat' ((conv => whnf); first
 | refine Ya ?_ | refine Yb ?_ | refine Yc ?_ | refine Yd ?_ | refine Ye ?_ | refine Yf ?_ | refine Yg ?_ | refine Yh ?_ | refine Yi rfl ?_ | refine Yj rfl ?_ | refine Yk rfl ?_ | refine Yl rfl ?_
   | (refine Ret.mk rfl))
set_option maxHeartbeats 32000000 in
theorem w_PriorityRanks (p : Prg) (l : List Clm) (key : Int) (o : List Int) (c : Int) (hp : BigP p) (hL : l.length ≤ 9223372036854775807) (hO : o.length ≤ 9223372036854775807) : Fc E n_law05_PriorityRanks [Pgv p, LM l, Drv key o c] (B true) := by
 have aw := s_awake g
 have h0 := r_ShortP g p hp
 have h1 := r_ShortClaims g l 7 hL
 refine g.fn code_law05_PriorityRanks rfl ?_
 cases hs : shortP p
 ·rw [hs] at h0
  repeat' ((conv => whnf); first
  | refine Ya ?_ | refine Yb ?_ | refine Yc ?_ | refine Yd ?_ | refine Ye ?_ | refine Yf ?_ | refine Yg ?_ | refine Yh ?_ | refine Yi rfl ?_ | refine Yj rfl ?_ | refine Yk rfl ?_ | refine Yl rfl ?_
   | (apply CallI.of; assumption)
   | (refine Ret.mk rfl))
 ·have sm := shortP_small hs
  rw [hs] at h0
  by_cases hsc : ((l.length : Int) ≤ 7 ∨ l.length = 65) ∧ ∀ c ∈ l, briefB c.rq = true
  ·rw [decide_eq_true hsc] at h1
   have hl := hsc.1
   have hl2 : l.length ≤ 65 := by omega
   by_cases ho : o.length ≤ 9
   ·have c0 := w_claims g l (by omega)
    have c1 := w_program g p sm
    have c2 := r_CheckProgram g p sm
    have c3 := r_CheckRange g key 1 2147483646
    have c4 := r_CheckClaims g l (by omega)
    have c5 : Fc E n_ref01_First [.d (.list 3 [DI (chkPg p), DI (rng key 1 2147483646), DI (chkCms l)])] (I (chkRk p key l)) := r_First3 g _ _ _
    by_cases hz : chkRk p key l = 0
    ·have hcm := chkCms_zero (chkRk_zero hz).2.2
     have hl3 : l.length ≤ 7 := by have := hcm.1; omega
     obtain ⟨s, hsr⟩ := srt_ex (rk_tot hz)
     have hRl : (rankL p l s).length = l.length := by rw [rankL_length, hsr.len]
     have p1 := s_Rank g hz (by omega) hsr
     have p2 := s_Why g hz (by omega) hsr
     have p3 : ∀ {n : Nat} {cs : List D}, n = o.length → cs = o.map DI → Fc E n_priority_CheckRank [Pgv p, I key, LM l, .d (.list n cs)] (I (chkOd (rankL p l s) o)) := fun h1 h2 => by subst h1 h2; exact s_CheckRank g o hz (by omega) (by omega) hsr
     have q1 := r_Rank g hz (by omega) hsr
     have q2 := r_Why g hz (by omega) hsr
     have e1 := r_SameInts g (rankL p l s) (rankL p l s) (by omega)
     have e2 := r_SameInts g o (rankL p l s) (by omega)
     have e3 := r_SameW g (whyI p l (lotL key l) (rankL p l s) (l.length - 1)) (by rw [whyI_length]; omega)
     have e0 := r_SameInts g [] [] (by decide)
     rw [decide_eq_true rfl] at e1 e0
     rw [hz] at c5
     have b1 := fun h => s_Better g c hz (by omega) hsr h
     have b2 := fun h => s_Better_no g c hz (by omega) h
     have b3 := r_Better g c hz (by omega) hsr
     have e4 := r_SameInts g (betL (rankL p l s) c) (betL (rankL p l s) c) (by unfold betL; rw [List.length_take]; omega)
     rw [decide_eq_true rfl] at e4
     unfold chkOd at p3
     rw [hRl] at p3
     generalize betL (rankL p l s) c = bt at *
     generalize whyI p l (lotL key l) (rankL p l s) (l.length - 1) = wy at *
     have fin : ∀ (v : Int) (b : Bool), (o.length ≠ l.length → v = 2) → (o.length = l.length → v = if b then 0 else 21) → Fc E n_ref01_SameInts [LI o, LI (rankL p l s)] (B b) → (∀ {n : Nat} {cs : List D}, n = o.length → cs = o.map DI → Fc E n_priority_CheckRank [Pgv p, I key, LM l, .d (.list n cs)] (I v)) → bodyW E 0 c_law05_PriorityRanks [Pgv p, LM l, Drv key o c] [] fun v m' => thawW m' v fun d => Ret d (B true) := fun v b v1 v2 e2 p3 => by
      clear hsc hsr
      generalize rankL p l s = R at *
      by_cases hc : 0 ≤ c ∧ c < l.length
      ·have b1 := b1 hc
       by_cases hol : o.length = l.length
       ·have v2 := v2 hol
        cases b
        all_goals
         subst v2
         repeat' ((conv => whnf); first
         | refine Ya ?_ | refine Yb ?_ | refine Yc ?_ | refine Yd ?_ | refine Ye ?_ | refine Yf ?_ | refine Yg ?_ | refine Yh ?_ | refine Yi rfl ?_ | refine Yj rfl ?_ | refine Yk rfl ?_ | refine Yl rfl ?_
          | (apply CallI.of; assumption)
          | (refine Need.mk ⟨rfl, rfl, rfl, rfl, rfl, by simp, by show (0 + o.length) * 8 ≤ _; omega, by omega⟩ ?_)
          | (refine CallI.of (p3 (Nat.zero_add _) (if_pos ⟨rfl, rfl⟩)) ?_)
          | (refine Ret.mk rfl))
       ·have v1 := v1 hol
        subst v1
        repeat' ((conv => whnf); first
        | refine Ya ?_ | refine Yb ?_ | refine Yc ?_ | refine Yd ?_ | refine Ye ?_ | refine Yf ?_ | refine Yg ?_ | refine Yh ?_ | refine Yi rfl ?_ | refine Yj rfl ?_ | refine Yk rfl ?_ | refine Yl rfl ?_
         | (apply CallI.of; assumption)
         | (refine Need.mk ⟨rfl, rfl, rfl, rfl, rfl, by simp, by show (0 + o.length) * 8 ≤ _; omega, by omega⟩ ?_)
         | (refine CallI.of (p3 (Nat.zero_add _) (if_pos ⟨rfl, rfl⟩)) ?_)
         | (refine Ret.mk rfl))
      ·have b2 := b2 hc
       by_cases hol : o.length = l.length
       ·have v2 := v2 hol
        cases b
        all_goals
         subst v2
         by_cases hc0 : c < 0
         all_goals repeat' ((conv => whnf); first
         | refine Ya ?_ | refine Yb ?_ | refine Yc ?_ | refine Yd ?_ | refine Ye ?_ | refine Yf ?_ | refine Yg ?_ | refine Yh ?_ | refine Yi rfl ?_ | refine Yj rfl ?_ | refine Yk rfl ?_ | refine Yl rfl ?_
          | (apply CallI.of; assumption)
          | (refine Need.mk ⟨rfl, rfl, rfl, rfl, rfl, by simp, by show (0 + o.length) * 8 ≤ _; omega, by omega⟩ ?_)
          | (refine CallI.of (p3 (Nat.zero_add _) (if_pos ⟨rfl, rfl⟩)) ?_)
          | (refine Ret.mk rfl))
       ·have v1 := v1 hol
        subst v1
        by_cases hc0 : c < 0
        all_goals repeat' ((conv => whnf); first
        | refine Ya ?_ | refine Yb ?_ | refine Yc ?_ | refine Yd ?_ | refine Ye ?_ | refine Yf ?_ | refine Yg ?_ | refine Yh ?_ | refine Yi rfl ?_ | refine Yj rfl ?_ | refine Yk rfl ?_ | refine Yl rfl ?_
         | (apply CallI.of; assumption)
         | (refine Need.mk ⟨rfl, rfl, rfl, rfl, rfl, by simp, by show (0 + o.length) * 8 ≤ _; omega, by omega⟩ ?_)
         | (refine CallI.of (p3 (Nat.zero_add _) (if_pos ⟨rfl, rfl⟩)) ?_)
         | (refine Ret.mk rfl))
     refine fin _ _ (fun h => if_pos h) (fun h => ?_) e2 p3
     rw [if_neg (fun hn => hn h)]
     by_cases he : o = rankL p l s
     ·rw [if_pos he, decide_eq_true he]
      rfl
     ·rw [if_neg he, decide_eq_false he]
      rfl
    ·have p1 := s_Rank_bad g p key l sm (by omega) hz
     have p2 := s_Why_bad g p key l sm (by omega) hz
     have p3 : ∀ {n : Nat} {cs : List D}, n = o.length → cs = o.map DI → Fc E n_priority_CheckRank [Pgv p, I key, LM l, .d (.list n cs)] (I (chkRk p key l)) := fun h1 h2 => by subst h1 h2; exact s_CheckRank_bad g p key l o sm (by omega) hz
     have p4 := s_Better_bad g p key l c sm (by omega) hz
     have e0 := r_SameInts g [] [] (by decide)
     rw [decide_eq_true rfl] at e0
     have e3 := r_SameW g [] (by decide)
     generalize chkRk p key l = r at *
     repeat' ((conv => whnf); first
     | refine Ya ?_ | refine Yb ?_ | refine Yc ?_ | refine Yd ?_ | refine Ye ?_ | refine Yf ?_ | refine Yg ?_ | refine Yh ?_ | refine Yi rfl ?_ | refine Yj rfl ?_ | refine Yk rfl ?_ | refine Yl rfl ?_
      | (apply CallI.of; assumption)
      | (refine Need.mk ⟨rfl, rfl, rfl, rfl, rfl, by simp, by show (0 + o.length) * 8 ≤ _; omega, by omega⟩ ?_)
      | (refine CallI.of (p3 (Nat.zero_add _) (if_pos ⟨rfl, rfl⟩)) ?_)
      | (refine Cmp.tt rfl ?_)
      | (refine Cmp.ff hz ?_)
      | (refine Ret.mk rfl))
   ·repeat' ((conv => whnf); first
   | refine Ya ?_ | refine Yb ?_ | refine Yc ?_ | refine Yd ?_ | refine Ye ?_ | refine Yf ?_ | refine Yg ?_ | refine Yh ?_ | refine Yi rfl ?_ | refine Yj rfl ?_ | refine Yk rfl ?_ | refine Yl rfl ?_
     | (apply CallI.of; assumption)
     | (refine Ret.mk rfl))
  ·rw [decide_eq_false hsc] at h1
   repeat' ((conv => whnf); first
   | refine Ya ?_ | refine Yb ?_ | refine Yc ?_ | refine Yd ?_ | refine Ye ?_ | refine Yf ?_ | refine Yg ?_ | refine Yh ?_ | refine Yi rfl ?_ | refine Yj rfl ?_ | refine Yk rfl ?_ | refine Yl rfl ?_
    | (apply CallI.of; assumption)
    | (refine Ret.mk rfl))
end
theorem s_PriorityRanks {E : Oracle} (g : Good E) {xs : List D} (h : fitArgs Tryz.prog [24, 81, 91] xs) : Fc E n_law05_PriorityRanks (asV xs) (B true) := by
 obtain ⟨x, y, z, rfl, h1, h2, h3⟩ := args3 h
 obtain ⟨p, rfl, hp⟩ := arg_Program h1
 obtain ⟨l, rfl, hl⟩ := arg_Claims h2
 obtain ⟨k, o, c, rfl, ho⟩ := arg_Draw h3
 exact w_PriorityRanks g p l k o c hp hl ho
end Go.Proofs.YtcephlgejkngiaaGreatDoor.Co
