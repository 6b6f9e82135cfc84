
/-
  PriorityNewcomers returns true, for every carrier, day and list of requests.
-/
import Derived.Test.YtknmjcikgegghaaGreatDoorPcNew
import Derived.Test.YtknmjcikgegghaaGreatDoorPcFit
import Derived.Test.YtknmjcikgegghaaGreatDoorMsFix
import Derived.Test.YtknmjcikgegghaaGreatDoorAwP
namespace Go.Proofs.YtknmjcikgegghaaGreatDoor.Co
open Go Go.Evl
set_option maxRecDepth 100000
theorem PickW.sub {α : Type} {cell : α → List D} {w : Nat} (hw : ∀ a, (cell a).length = w) {l : List α} {i : Int} {j n : Nat} {ds : List D} {K : List D → Prop} (k : Nat) (hi : i = k) (h : k < l.length) (hj : j + n ≤ w) (hd : win (cell l[k]) j n = ds) (hk : K ds) : PickW (l.flatMap cell) (i.toNat * w + j) n K := by
  subst hi
  rw [Int.toNat_natCast]
  have h1 := flatR_length cell w hw l
  have h2 : (k + 1) * w ≤ l.length * w := Nat.mul_le_mul_right _ h
  rw [Nat.succ_mul] at h2
  refine ⟨by omega, ?_⟩
  have e : win (l.flatMap cell) (k * w + j) n = ds := by
    rw [← hd]
    unfold win
    rw [← List.drop_drop, flatR_drop cell w hw, List.drop_eq_getElem_cons h, List.flatMap_cons, List.drop_append_of_le_length (by rw [hw]; omega), List.take_append_of_le_length (by rw [List.length_drop, hw]; omega)]
  rw [e]; exact hk
section
variable {E : Oracle} (g : Good E)
include g
theorem r_Newcomer (ca : List UInt8) (day : Int) (l : List Rqt) (h : chkHeld ca day l = 0) : Fc E n_ref05_Newcomer [S ca, I day, LQ l] (B (decide (onN ca day l < 5))) := by
  refine g.fn code_ref05_Newcomer rfl ?_
  unfold chkHeld at h
  split at h
  · rw [firstI_zero] at h
    have hd : rng day 0 99999 = 0 := h _ (by simp)
    have hq : chkRqs l = 0 := h _ (by simp)
    have hl := (chkRqs_zero hq).1
    have ho := (chkRqs_zero hq).2.2
    have hd' := rng_zero.1 hd
    repeat' ((conv => whnf); first
    | refine Br.tt ?_
    | refine Br.ff ?_
    | refine Need.w ?_
    | refine Wr.w ?_
    | refine Cmp.t ?_
    | refine Cmp.f ?_
    | refine Rem.w ?_
    | refine Quo.w ?_
    | refine PickV.now rfl ?_
    | refine Pick.now rfl ?_
    | refine Chk.mk rfl ?_
    | refine PickW.w rfl ?_)
    refine LoopW.to (LoopW.up g (fun k => [(0, S ca), (1, I day), (2, LQ l), (7, I (onN ca day (l.take k))), (8, I k)]) (fun _ => []) l.length (fun k hk ih => ?_) 0 (Nat.zero_le _)) rfl rfl
    by_cases hlt : k < l.length
    · have ih := ih hlt
      have hc := ho l[k] (List.getElem_mem hlt)
      have hp : chkPer l[k].fr l[k].to l[k].da = 0 := by
        unfold chkRq at hc
        rw [firstI_zero] at hc
        exact hc _ (by simp)
      have hp' := chkPer_zero.1 hp
      have hh := r_Has g l[k].fr l[k].to l[k].da day (by omega) (by omega)
      have hs := onN_succ (ca := ca) (day := day) hlt
      have hx := onN_le ca day (l.take k)
      have hy : (l.take k).length ≤ 64 := by simp; omega
      rw [hs] at ih
      unfold onB at ih
      generalize hasB l[k].fr l[k].to l[k].da day = b at *
      by_cases hca : l[k].ca = ca
      · rw [decide_eq_true hca, Bool.true_and] at ih
        cases b
        · rw [if_neg (by decide), Int.add_zero] at ih
          repeat' ((conv => whnf); first
          | refine Br.tt ?_
          | refine Br.ff ?_
          | refine Need.w ?_
          | refine Wr.w ?_
          | refine Cmp.t ?_
          | refine Cmp.f ?_
          | refine Rem.w ?_
          | refine Quo.w ?_
          | refine PickV.now rfl ?_
          | refine Pick.now rfl ?_
          | refine Chk.mk rfl ?_
          | refine PickW.w rfl ?_
            | (refine Pick.rec Rqt.cells_length k rfl hlt rfl ?_)
            | (refine PickW.sub Rqt.cells_length k rfl hlt (by decide) rfl ?_)
            | (apply CallI.of; assumption)
            | (refine Cmp.tt hca ?_)
            | (refine LoopW.to ih rfl rfl))
        · rw [if_pos rfl] at ih
          repeat' ((conv => whnf); first
          | refine Br.tt ?_
          | refine Br.ff ?_
          | refine Need.w ?_
          | refine Wr.w ?_
          | refine Cmp.t ?_
          | refine Cmp.f ?_
          | refine Rem.w ?_
          | refine Quo.w ?_
          | refine PickV.now rfl ?_
          | refine Pick.now rfl ?_
          | refine Chk.mk rfl ?_
          | refine PickW.w rfl ?_
            | (refine Pick.rec Rqt.cells_length k rfl hlt rfl ?_)
            | (refine PickW.sub Rqt.cells_length k rfl hlt (by decide) rfl ?_)
            | (apply CallI.of; assumption)
            | (refine Cmp.tt hca ?_)
            | (refine LoopW.to ih rfl rfl))
      · rw [decide_eq_false hca, Bool.false_and, if_neg (by decide), Int.add_zero] at ih
        repeat' ((conv => whnf); first
        | refine Br.tt ?_
        | refine Br.ff ?_
        | refine Need.w ?_
        | refine Wr.w ?_
        | refine Cmp.t ?_
        | refine Cmp.f ?_
        | refine Rem.w ?_
        | refine Quo.w ?_
        | refine PickV.now rfl ?_
        | refine Pick.now rfl ?_
        | refine Chk.mk rfl ?_
        | refine PickW.w rfl ?_
          | (refine Pick.rec Rqt.cells_length k rfl hlt rfl ?_)
          | (refine Cmp.ff hca ?_)
          | (refine LoopW.to ih rfl rfl))
    · have e : l.take k = l := List.take_of_length_le (by omega)
      rw [e]
      by_cases h5 : onN ca day l < 5
      · rw [decide_eq_true h5]
        repeat' ((conv => whnf); first
        | refine Br.tt ?_
        | refine Br.ff ?_
        | refine Need.w ?_
        | refine Wr.w ?_
        | refine Cmp.t ?_
        | refine Cmp.f ?_
        | refine Rem.w ?_
        | refine Quo.w ?_
        | refine PickV.now rfl ?_
        | refine Pick.now rfl ?_
        | refine Chk.mk rfl ?_
        | refine PickW.w rfl ?_
          | (refine Ret.mk rfl))
      · rw [decide_eq_false h5]
        repeat' ((conv => whnf); first
        | refine Br.tt ?_
        | refine Br.ff ?_
        | refine Need.w ?_
        | refine Wr.w ?_
        | refine Cmp.t ?_
        | refine Cmp.f ?_
        | refine Rem.w ?_
        | refine Quo.w ?_
        | refine PickV.now rfl ?_
        | refine Pick.now rfl ?_
        | refine Chk.mk rfl ?_
        | refine PickW.w rfl ?_
          | (refine Ret.mk rfl))
  · cases h
set_option maxHeartbeats 8000000 in
theorem w_PriorityNewcomers (ca : List UInt8) (day : Int) (l : List Rqt) : Fc E n_law05_PriorityNewcomers [S ca, I day, LQ l] (B true) := by
  have aw := s_awake g
  have hb := r_Short g l 8 (by decide)
  refine g.fn code_law05_PriorityNewcomers rfl ?_
  by_cases hk : ca.length ≤ 40
  · cases hs : (decide (l.length ≤ 8 ∨ l.length = 65) && l.all briefB)
    · rw [hs] at hb
      repeat' ((conv => whnf); first
      | refine Br.tt ?_
      | refine Br.ff ?_
      | refine Need.w ?_
      | refine Wr.w ?_
      | refine Cmp.t ?_
      | refine Cmp.f ?_
      | refine Rem.w ?_
      | refine Quo.w ?_
      | refine PickV.now rfl ?_
      | refine Pick.now rfl ?_
      | refine Chk.mk rfl ?_
      | refine PickW.w rfl ?_
        | (apply CallI.of; assumption)
        | (refine Ret.mk rfl))
    · rw [hs] at hb
      simp only [Bool.and_eq_true, decide_eq_true_eq] at hs
      have hl : l.length ≤ 65 := by omega
      clear hs
      have h1 := r_CheckHeld g ca day l (by omega)
      by_cases hz : chkHeld ca day l = 0
      · have p1 : ∀ {n : Nat} {cs : List D}, n = l.length → cs = l.flatMap Rqt.cells → Fc E n_priority_Newcomer [S ca, I day, .d (.list n cs)] (.tup [B (decide (onN ca day l < 5)), I 0]) := fun hn hc => by subst hn hc; exact s_Newcomer_ok g ca day l hz
        have p2 := r_Newcomer g ca day l hz
        rw [hz] at h1
        generalize decide (onN ca day l < 5) = r at *
        cases r
        all_goals repeat' ((conv => whnf); first
        | refine Br.tt ?_
        | refine Br.ff ?_
        | refine Need.w ?_
        | refine Wr.w ?_
        | refine Cmp.t ?_
        | refine Cmp.f ?_
        | refine Rem.w ?_
        | refine Quo.w ?_
        | refine PickV.now rfl ?_
        | refine Pick.now rfl ?_
        | refine Chk.mk rfl ?_
        | refine PickW.w rfl ?_
          | (refine Need.mk ⟨rfl, rfl, rfl, rfl, rfl, flatR_length Rqt.cells 13 Rqt.cells_length l, by show (0 + l.length) * 152 ≤ _; omega, by omega⟩ ?_)
          | (refine CallI.of (p1 (Nat.zero_add _) (if_pos ⟨rfl, rfl⟩)) ?_)
          | (apply CallI.of; assumption)
          | (refine Cmp.tt rfl ?_)
          | (refine Ret.mk rfl))
      · have p1 : ∀ {n : Nat} {cs : List D}, n = l.length → cs = l.flatMap Rqt.cells → Fc E n_priority_Newcomer [S ca, I day, .d (.list n cs)] (.tup [B false, I (chkHeld ca day l)]) := fun hn hc => by subst hn hc; exact s_Newcomer_bad g ca day l (by omega) hz
        generalize chkHeld ca day l = r at *
        repeat' ((conv => whnf); first
        | refine Br.tt ?_
        | refine Br.ff ?_
        | refine Need.w ?_
        | refine Wr.w ?_
        | refine Cmp.t ?_
        | refine Cmp.f ?_
        | refine Rem.w ?_
        | refine Quo.w ?_
        | refine PickV.now rfl ?_
        | refine Pick.now rfl ?_
        | refine Chk.mk rfl ?_
        | refine PickW.w rfl ?_
          | (refine Need.mk ⟨rfl, rfl, rfl, rfl, rfl, flatR_length Rqt.cells 13 Rqt.cells_length l, by show (0 + l.length) * 152 ≤ _; omega, by omega⟩ ?_)
          | (refine CallI.of (p1 (Nat.zero_add _) (if_pos ⟨rfl, rfl⟩)) ?_)
          | (apply CallI.of; assumption)
          | (refine Cmp.tt rfl ?_)
          | (refine Cmp.ff hz ?_)
          | (refine Ret.mk rfl))
  · repeat' ((conv => whnf); first
  | refine Br.tt ?_
  | refine Br.ff ?_
  | refine Need.w ?_
  | refine Wr.w ?_
  | refine Cmp.t ?_
  | refine Cmp.f ?_
  | refine Rem.w ?_
  | refine Quo.w ?_
  | refine PickV.now rfl ?_
  | refine Pick.now rfl ?_
  | refine Chk.mk rfl ?_
  | refine PickW.w rfl ?_
      | (apply CallI.of; assumption)
      | (refine Ret.mk rfl))
end
theorem s_PriorityNewcomers {E : Oracle} (g : Good E) {xs : List D} (h : fitArgs Tryz.prog [9, 3, 42] xs) : Fc E n_law05_PriorityNewcomers (asV xs) (B true) := by
  obtain ⟨x, y, z, rfl, h1, h2, h3⟩ := args3 h
  obtain ⟨s, rfl, _⟩ := arg_s Tryz.underlying9 h1
  obtain ⟨n, rfl, _⟩ := arg_int h2
  obtain ⟨l, rfl⟩ := arg_Requests h3
  exact w_PriorityNewcomers g s n l
end Go.Proofs.YtknmjcikgegghaaGreatDoor.Co
