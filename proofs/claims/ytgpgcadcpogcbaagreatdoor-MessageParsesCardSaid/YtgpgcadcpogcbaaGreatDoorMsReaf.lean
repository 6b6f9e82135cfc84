
/-
  Messages: a line is read by the reference.
-/
import Derived.Test.YtgpgcadcpogcbaaGreatDoorMsRead
namespace Go.Proofs.YtgpgcadcpogcbaaGreatDoor.Co
open Go Go.Evl
section
variable {E : Oracle} (g : Good E)
include g
set_option maxRecDepth 100000
theorem r_undashed (s : List UInt8) : Fc E n_ref02_undashed [S s] (S (undash s)) := by
  refine g.fn code_ref02_undashed rfl ?_
  unfold undash
  by_cases h : s = [45]
  · rw [if_pos h]
    repeat' ((conv => whnf); first
    | refine Br.tt ?_
    | refine Br.ff ?_
    | refine Need.w ?_
    | refine Wr.w ?_
    | refine Cmp.t ?_
    | refine Cmp.f ?_
    | refine Rem.w ?_
    | refine Quo.w ?_
    | refine PickV.now rfl ?_
    | refine Pick.now rfl ?_
    | refine Chk.mk rfl ?_
    | refine PickW.w rfl ?_
      | (refine Cmp.tt h ?_)
      | (refine Ret.mk rfl))
  · rw [if_neg h]
    repeat' ((conv => whnf); first
    | refine Br.tt ?_
    | refine Br.ff ?_
    | refine Need.w ?_
    | refine Wr.w ?_
    | refine Cmp.t ?_
    | refine Cmp.f ?_
    | refine Rem.w ?_
    | refine Quo.w ?_
    | refine PickV.now rfl ?_
    | refine Pick.now rfl ?_
    | refine Chk.mk rfl ?_
    | refine PickW.w rfl ?_
      | (refine Cmp.ff h ?_)
      | (refine Ret.mk rfl))
theorem r_fits_act (w : List UInt8) : Fc E n_ref02_fits [I 0, S w] (B (actB w)) := by
  refine g.fn code_ref02_fits rfl ?_
  have h1 := r_Asks g w
  have h2 := r_Replies g w
  unfold actB
  generalize asksB w = a at *
  generalize repB w = b at *
  cases a <;> repeat' ((conv => whnf); first
  | refine Br.tt ?_
  | refine Br.ff ?_
  | refine Need.w ?_
  | refine Wr.w ?_
  | refine Cmp.t ?_
  | refine Cmp.f ?_
  | refine Rem.w ?_
  | refine Quo.w ?_
  | refine PickV.now rfl ?_
  | refine Pick.now rfl ?_
  | refine Chk.mk rfl ?_
  | refine PickW.w rfl ?_
    | (apply CallI.of; assumption)
    | (refine Ret.mk rfl))
theorem r_fits1 (w : List UInt8) : Fc E n_ref02_fits [I 1, S w] (B (isNameB w)) := by
  refine g.fn code_ref02_fits rfl ?_
  have h1 := r_IsName g w
  repeat' ((conv => whnf); first
  | refine Br.tt ?_
  | refine Br.ff ?_
  | refine Need.w ?_
  | refine Wr.w ?_
  | refine Cmp.t ?_
  | refine Cmp.f ?_
  | refine Rem.w ?_
  | refine Quo.w ?_
  | refine PickV.now rfl ?_
  | refine Pick.now rfl ?_
  | refine Chk.mk rfl ?_
  | refine PickW.w rfl ?_
    | (apply CallI.of; assumption)
    | (refine Ret.mk rfl))
theorem r_fits2 (w : List UInt8) : Fc E n_ref02_fits [I 2, S w] (B (isNameB w)) := by
  refine g.fn code_ref02_fits rfl ?_
  have h1 := r_IsName g w
  repeat' ((conv => whnf); first
  | refine Br.tt ?_
  | refine Br.ff ?_
  | refine Need.w ?_
  | refine Wr.w ?_
  | refine Cmp.t ?_
  | refine Cmp.f ?_
  | refine Rem.w ?_
  | refine Quo.w ?_
  | refine PickV.now rfl ?_
  | refine Pick.now rfl ?_
  | refine Chk.mk rfl ?_
  | refine PickW.w rfl ?_
    | (apply CallI.of; assumption)
    | (refine Ret.mk rfl))
theorem r_fits4 (w : List UInt8) : Fc E n_ref02_fits [I 4, S w] (B (isNameB w)) := by
  refine g.fn code_ref02_fits rfl ?_
  have h1 := r_IsName g w
  repeat' ((conv => whnf); first
  | refine Br.tt ?_
  | refine Br.ff ?_
  | refine Need.w ?_
  | refine Wr.w ?_
  | refine Cmp.t ?_
  | refine Cmp.f ?_
  | refine Rem.w ?_
  | refine Quo.w ?_
  | refine PickV.now rfl ?_
  | refine Pick.now rfl ?_
  | refine Chk.mk rfl ?_
  | refine PickW.w rfl ?_
    | (apply CallI.of; assumption)
    | (refine Ret.mk rfl))
theorem r_fits3 (w : List UInt8) : Fc E n_ref02_fits [I 3, S w] (B (kindB w)) := by
  refine g.fn code_ref02_fits rfl ?_
  unfold kindB
  by_cases he : w = [65]
  · subst he
    repeat' ((conv => whnf); first
    | refine Br.tt ?_
    | refine Br.ff ?_
    | refine Need.w ?_
    | refine Wr.w ?_
    | refine Cmp.t ?_
    | refine Cmp.f ?_
    | refine Rem.w ?_
    | refine Quo.w ?_
    | refine PickV.now rfl ?_
    | refine Pick.now rfl ?_
    | refine Chk.mk rfl ?_
    | refine PickW.w rfl ?_
      | (refine Ret.mk rfl))
  · rw [decide_eq_false he]
    by_cases hd : w = [68]
    · subst hd
      repeat' ((conv => whnf); first
      | refine Br.tt ?_
      | refine Br.ff ?_
      | refine Need.w ?_
      | refine Wr.w ?_
      | refine Cmp.t ?_
      | refine Cmp.f ?_
      | refine Rem.w ?_
      | refine Quo.w ?_
      | refine PickV.now rfl ?_
      | refine Pick.now rfl ?_
      | refine Chk.mk rfl ?_
      | refine PickW.w rfl ?_
        | (refine Ret.mk rfl))
    · rw [decide_eq_false hd]
      repeat' ((conv => whnf); first
      | refine Br.tt ?_
      | refine Br.ff ?_
      | refine Need.w ?_
      | refine Wr.w ?_
      | refine Cmp.t ?_
      | refine Cmp.f ?_
      | refine Rem.w ?_
      | refine Quo.w ?_
      | refine PickV.now rfl ?_
      | refine Pick.now rfl ?_
      | refine Chk.mk rfl ?_
      | refine PickW.w rfl ?_
        | (refine Cmp.ff he ?_)
        | (refine Cmp.ff hd ?_)
        | (refine Ret.mk rfl))
theorem r_fits5 (w : List UInt8) : Fc E n_ref02_fits [I 5, S w] (B (numB w 5)) := by
  refine g.fn code_ref02_fits rfl ?_
  have h1 := r_digits g w 5 (by omega)
  by_cases hb : numB w 5 = true
  · have hv := numB_val hb
    rw [if_pos hb] at h1
    rw [hb]
    repeat' ((conv => whnf); first
    | refine Br.tt ?_
    | refine Br.ff ?_
    | refine Need.w ?_
    | refine Wr.w ?_
    | refine Cmp.t ?_
    | refine Cmp.f ?_
    | refine Rem.w ?_
    | refine Quo.w ?_
    | refine PickV.now rfl ?_
    | refine Pick.now rfl ?_
    | refine Chk.mk rfl ?_
    | refine PickW.w rfl ?_
      | (apply CallI.of; assumption)
      | (refine Ret.mk rfl))
  · rw [if_neg hb] at h1
    rw [Bool.not_eq_true] at hb
    rw [hb]
    repeat' ((conv => whnf); first
    | refine Br.tt ?_
    | refine Br.ff ?_
    | refine Need.w ?_
    | refine Wr.w ?_
    | refine Cmp.t ?_
    | refine Cmp.f ?_
    | refine Rem.w ?_
    | refine Quo.w ?_
    | refine PickV.now rfl ?_
    | refine Pick.now rfl ?_
    | refine Chk.mk rfl ?_
    | refine PickW.w rfl ?_
      | (apply CallI.of; assumption)
      | (refine Ret.mk rfl))
theorem r_fits6 (w : List UInt8) : Fc E n_ref02_fits [I 6, S w] (B (numB w 5)) := by
  refine g.fn code_ref02_fits rfl ?_
  have h1 := r_digits g w 5 (by omega)
  by_cases hb : numB w 5 = true
  · have hv := numB_val hb
    rw [if_pos hb] at h1
    rw [hb]
    repeat' ((conv => whnf); first
    | refine Br.tt ?_
    | refine Br.ff ?_
    | refine Need.w ?_
    | refine Wr.w ?_
    | refine Cmp.t ?_
    | refine Cmp.f ?_
    | refine Rem.w ?_
    | refine Quo.w ?_
    | refine PickV.now rfl ?_
    | refine Pick.now rfl ?_
    | refine Chk.mk rfl ?_
    | refine PickW.w rfl ?_
      | (apply CallI.of; assumption)
      | (refine Ret.mk rfl))
  · rw [if_neg hb] at h1
    rw [Bool.not_eq_true] at hb
    rw [hb]
    repeat' ((conv => whnf); first
    | refine Br.tt ?_
    | refine Br.ff ?_
    | refine Need.w ?_
    | refine Wr.w ?_
    | refine Cmp.t ?_
    | refine Cmp.f ?_
    | refine Rem.w ?_
    | refine Quo.w ?_
    | refine PickV.now rfl ?_
    | refine Pick.now rfl ?_
    | refine Chk.mk rfl ?_
    | refine PickW.w rfl ?_
      | (apply CallI.of; assumption)
      | (refine Ret.mk rfl))
theorem r_fits9 (w : List UInt8) : Fc E n_ref02_fits [I 9, S w] (B (numB w 3)) := by
  refine g.fn code_ref02_fits rfl ?_
  have h1 := r_digits g w 3 (by omega)
  by_cases hb : numB w 3 = true
  · have hv := numB_val hb
    rw [if_pos hb] at h1
    rw [hb]
    repeat' ((conv => whnf); first
    | refine Br.tt ?_
    | refine Br.ff ?_
    | refine Need.w ?_
    | refine Wr.w ?_
    | refine Cmp.t ?_
    | refine Cmp.f ?_
    | refine Rem.w ?_
    | refine Quo.w ?_
    | refine PickV.now rfl ?_
    | refine Pick.now rfl ?_
    | refine Chk.mk rfl ?_
    | refine PickW.w rfl ?_
      | (apply CallI.of; assumption)
      | (refine Ret.mk rfl))
  · rw [if_neg hb] at h1
    rw [Bool.not_eq_true] at hb
    rw [hb]
    repeat' ((conv => whnf); first
    | refine Br.tt ?_
    | refine Br.ff ?_
    | refine Need.w ?_
    | refine Wr.w ?_
    | refine Cmp.t ?_
    | refine Cmp.f ?_
    | refine Rem.w ?_
    | refine Quo.w ?_
    | refine PickV.now rfl ?_
    | refine Pick.now rfl ?_
    | refine Chk.mk rfl ?_
    | refine PickW.w rfl ?_
      | (apply CallI.of; assumption)
      | (refine Ret.mk rfl))
theorem r_fits10 (w : List UInt8) : Fc E n_ref02_fits [I 10, S w] (B (numB w 1)) := by
  refine g.fn code_ref02_fits rfl ?_
  have h1 := r_digits g w 1 (by omega)
  by_cases hb : numB w 1 = true
  · have hv := numB_val hb
    rw [if_pos hb] at h1
    rw [hb]
    repeat' ((conv => whnf); first
    | refine Br.tt ?_
    | refine Br.ff ?_
    | refine Need.w ?_
    | refine Wr.w ?_
    | refine Cmp.t ?_
    | refine Cmp.f ?_
    | refine Rem.w ?_
    | refine Quo.w ?_
    | refine PickV.now rfl ?_
    | refine Pick.now rfl ?_
    | refine Chk.mk rfl ?_
    | refine PickW.w rfl ?_
      | (apply CallI.of; assumption)
      | (refine Ret.mk rfl))
  · rw [if_neg hb] at h1
    rw [Bool.not_eq_true] at hb
    rw [hb]
    repeat' ((conv => whnf); first
    | refine Br.tt ?_
    | refine Br.ff ?_
    | refine Need.w ?_
    | refine Wr.w ?_
    | refine Cmp.t ?_
    | refine Cmp.f ?_
    | refine Rem.w ?_
    | refine Quo.w ?_
    | refine PickV.now rfl ?_
    | refine Pick.now rfl ?_
    | refine Chk.mk rfl ?_
    | refine PickW.w rfl ?_
      | (apply CallI.of; assumption)
      | (refine Ret.mk rfl))
theorem r_fits11 (w : List UInt8) : Fc E n_ref02_fits [I 11, S w] (B (numB w 2)) := by
  refine g.fn code_ref02_fits rfl ?_
  have h1 := r_digits g w 2 (by omega)
  by_cases hb : numB w 2 = true
  · have hv := numB_val hb
    rw [if_pos hb] at h1
    rw [hb]
    repeat' ((conv => whnf); first
    | refine Br.tt ?_
    | refine Br.ff ?_
    | refine Need.w ?_
    | refine Wr.w ?_
    | refine Cmp.t ?_
    | refine Cmp.f ?_
    | refine Rem.w ?_
    | refine Quo.w ?_
    | refine PickV.now rfl ?_
    | refine Pick.now rfl ?_
    | refine Chk.mk rfl ?_
    | refine PickW.w rfl ?_
      | (apply CallI.of; assumption)
      | (refine Ret.mk rfl))
  · rw [if_neg hb] at h1
    rw [Bool.not_eq_true] at hb
    rw [hb]
    repeat' ((conv => whnf); first
    | refine Br.tt ?_
    | refine Br.ff ?_
    | refine Need.w ?_
    | refine Wr.w ?_
    | refine Cmp.t ?_
    | refine Cmp.f ?_
    | refine Rem.w ?_
    | refine Quo.w ?_
    | refine PickV.now rfl ?_
    | refine Pick.now rfl ?_
    | refine Chk.mk rfl ?_
    | refine PickW.w rfl ?_
      | (apply CallI.of; assumption)
      | (refine Ret.mk rfl))
theorem r_fits7 (w : List UInt8) : Fc E n_ref02_fits [I 7, S w] (B (decide (isMaskT w))) := by
  refine g.fn code_ref02_fits rfl ?_
  have h1 := r_ParseMask g w
  by_cases hb : isMaskT w
  · rw [if_pos hb] at h1
    rw [decide_eq_true hb]
    repeat' ((conv => whnf); first
    | refine Br.tt ?_
    | refine Br.ff ?_
    | refine Need.w ?_
    | refine Wr.w ?_
    | refine Cmp.t ?_
    | refine Cmp.f ?_
    | refine Rem.w ?_
    | refine Quo.w ?_
    | refine PickV.now rfl ?_
    | refine Pick.now rfl ?_
    | refine Chk.mk rfl ?_
    | refine PickW.w rfl ?_
      | (apply CallI.of; assumption)
      | (refine Ret.mk rfl))
  · rw [if_neg hb] at h1
    rw [decide_eq_false hb]
    repeat' ((conv => whnf); first
    | refine Br.tt ?_
    | refine Br.ff ?_
    | refine Need.w ?_
    | refine Wr.w ?_
    | refine Cmp.t ?_
    | refine Cmp.f ?_
    | refine Rem.w ?_
    | refine Quo.w ?_
    | refine PickV.now rfl ?_
    | refine Pick.now rfl ?_
    | refine Chk.mk rfl ?_
    | refine PickW.w rfl ?_
      | (apply CallI.of; assumption)
      | (refine Ret.mk rfl))
theorem r_fits8 (w : List UInt8) : Fc E n_ref02_fits [I 8, S w] (B (decide (minP w))) := by
  refine g.fn code_ref02_fits rfl ?_
  have h1 := r_ParseMinute g w
  by_cases hb : minP w
  · have hv := numB_val hb.1
    have hm : 0 ≤ minV w := by unfold minV; omega
    rw [if_pos hb] at h1
    rw [decide_eq_true hb]
    repeat' ((conv => whnf); first
    | refine Br.tt ?_
    | refine Br.ff ?_
    | refine Need.w ?_
    | refine Wr.w ?_
    | refine Cmp.t ?_
    | refine Cmp.f ?_
    | refine Rem.w ?_
    | refine Quo.w ?_
    | refine PickV.now rfl ?_
    | refine Pick.now rfl ?_
    | refine Chk.mk rfl ?_
    | refine PickW.w rfl ?_
      | (apply CallI.of; assumption)
      | (refine Ret.mk rfl))
  · rw [if_neg hb] at h1
    rw [decide_eq_false hb]
    repeat' ((conv => whnf); first
    | refine Br.tt ?_
    | refine Br.ff ?_
    | refine Need.w ?_
    | refine Wr.w ?_
    | refine Cmp.t ?_
    | refine Cmp.f ?_
    | refine Rem.w ?_
    | refine Quo.w ?_
    | refine PickV.now rfl ?_
    | refine Pick.now rfl ?_
    | refine Chk.mk rfl ?_
    | refine PickW.w rfl ?_
      | (apply CallI.of; assumption)
      | (refine Ret.mk rfl))
theorem r_fits12 (w : List UInt8) : Fc E n_ref02_fits [I 12, S w] (B (dfit w)) := by
  refine g.fn code_ref02_fits rfl ?_
  have h1 := r_IsName g w
  unfold dfit
  by_cases he : w = [45]
  · subst he
    repeat' ((conv => whnf); first
    | refine Br.tt ?_
    | refine Br.ff ?_
    | refine Need.w ?_
    | refine Wr.w ?_
    | refine Cmp.t ?_
    | refine Cmp.f ?_
    | refine Rem.w ?_
    | refine Quo.w ?_
    | refine PickV.now rfl ?_
    | refine Pick.now rfl ?_
    | refine Chk.mk rfl ?_
    | refine PickW.w rfl ?_
      | (refine Ret.mk rfl))
  · rw [decide_eq_false he]
    repeat' ((conv => whnf); first
    | refine Br.tt ?_
    | refine Br.ff ?_
    | refine Need.w ?_
    | refine Wr.w ?_
    | refine Cmp.t ?_
    | refine Cmp.f ?_
    | refine Rem.w ?_
    | refine Quo.w ?_
    | refine PickV.now rfl ?_
    | refine Pick.now rfl ?_
    | refine Chk.mk rfl ?_
    | refine PickW.w rfl ?_
      | (apply CallI.of; assumption)
      | (refine Cmp.ff he ?_)
      | (refine Ret.mk rfl))
theorem r_fits13 (w : List UInt8) : Fc E n_ref02_fits [I 13, S w] (B (dfit w)) := by
  refine g.fn code_ref02_fits rfl ?_
  have h1 := r_IsName g w
  unfold dfit
  by_cases he : w = [45]
  · subst he
    repeat' ((conv => whnf); first
    | refine Br.tt ?_
    | refine Br.ff ?_
    | refine Need.w ?_
    | refine Wr.w ?_
    | refine Cmp.t ?_
    | refine Cmp.f ?_
    | refine Rem.w ?_
    | refine Quo.w ?_
    | refine PickV.now rfl ?_
    | refine Pick.now rfl ?_
    | refine Chk.mk rfl ?_
    | refine PickW.w rfl ?_
      | (refine Ret.mk rfl))
  · rw [decide_eq_false he]
    repeat' ((conv => whnf); first
    | refine Br.tt ?_
    | refine Br.ff ?_
    | refine Need.w ?_
    | refine Wr.w ?_
    | refine Cmp.t ?_
    | refine Cmp.f ?_
    | refine Rem.w ?_
    | refine Quo.w ?_
    | refine PickV.now rfl ?_
    | refine Pick.now rfl ?_
    | refine Chk.mk rfl ?_
    | refine PickW.w rfl ?_
      | (apply CallI.of; assumption)
      | (refine Cmp.ff he ?_)
      | (refine Ret.mk rfl))
set_option maxHeartbeats 40000000 in
theorem core_refParseLine (s : List UInt8) (a0 a1 a2 a3 a4 a5 a6 a7 a8 a9 a10 a11 a12 a13 u12 u13 : List UInt8) (b0 b1 b2 b3 b4 b5 b6 b7 b8 b9 b10 b11 b12 b13 : Bool) (n5 n6 n7 n8 n9 n10 n11 y c : Int)
    (sp : Fc E n_ref02_split [S s] (.d (.list 14 [.str a0, .str a1, .str a2, .str a3, .str a4, .str a5, .str a6, .str a7, .str a8, .str a9, .str a10, .str a11, .str a12, .str a13])))
    (h0 : Fc E n_ref02_fits [I 0, S a0] (B b0)) (h1 : Fc E n_ref02_fits [I 1, S a1] (B b1)) (h2 : Fc E n_ref02_fits [I 2, S a2] (B b2)) (h3 : Fc E n_ref02_fits [I 3, S a3] (B b3)) (h4 : Fc E n_ref02_fits [I 4, S a4] (B b4)) (h5 : Fc E n_ref02_fits [I 5, S a5] (B b5)) (h6 : Fc E n_ref02_fits [I 6, S a6] (B b6)) (h7 : Fc E n_ref02_fits [I 7, S a7] (B b7)) (h8 : Fc E n_ref02_fits [I 8, S a8] (B b8)) (h9 : Fc E n_ref02_fits [I 9, S a9] (B b9)) (h10 : Fc E n_ref02_fits [I 10, S a10] (B b10)) (h11 : Fc E n_ref02_fits [I 11, S a11] (B b11)) (h12 : Fc E n_ref02_fits [I 12, S a12] (B b12)) (h13 : Fc E n_ref02_fits [I 13, S a13] (B b13))
    (q5 : b5 = true → Fc E n_ref02_digits [S a5, I 5] (I n5)) (q6 : b6 = true → Fc E n_ref02_digits [S a6, I 5] (I n6)) (q7 : b7 = true → Fc E n_ref01_ParseMask [S a7] (.tup [I n7, I y])) (q8 : b8 = true → Fc E n_ref02_ParseMinute [S a8] (I n8))
    (q9 : b9 = true → Fc E n_ref02_digits [S a9, I 3] (I n9)) (q10 : b10 = true → Fc E n_ref02_digits [S a10, I 1] (I n10)) (q11 : b11 = true → Fc E n_ref02_digits [S a11, I 2] (I n11))
    (q12 : Fc E n_ref02_undashed [S a12] (S u12)) (q13 : Fc E n_ref02_undashed [S a13] (S u13))
    (hc : Fc E n_ref02_CheckLine [.d (.agg [.str a0, .str a2, .str a1, .str a3, .str u12, .str a4, .str u13, DI n5, DI n6, DI n7, DI n8, DI n9, DI n10, DI n11])] (I c)) : Fc E n_ref02_ParseLine [S s] (resF [b0, b1, b2, b3, b4, b5, b6, b7, b8, b9, b10, b11, b12, b13] [.str a0, .str a2, .str a1, .str a3, .str u12, .str a4, .str u13, DI n5, DI n6, DI n7, DI n8, DI n9, DI n10, DI n11] c) := by
  refine g.fn code_ref02_ParseLine rfl ?_
  repeat' ((conv => whnf); first
  | refine Br.tt ?_
  | refine Br.ff ?_
  | refine Need.w ?_
  | refine Wr.w ?_
  | refine Cmp.t ?_
  | refine Cmp.f ?_
  | refine Rem.w ?_
  | refine Quo.w ?_
  | refine PickV.now rfl ?_
  | refine Pick.now rfl ?_
  | refine Chk.mk rfl ?_
  | refine PickW.w rfl ?_
    | (apply CallI.of; assumption)
    | (refine CallI.of h0 ?_)
    | (refine CallI.of h1 ?_)
    | (refine CallI.of h2 ?_)
    | (refine CallI.of h3 ?_)
    | (refine CallI.of h4 ?_)
    | (refine CallI.of h5 ?_)
    | (refine CallI.of h6 ?_)
    | (refine CallI.of h7 ?_)
    | (refine CallI.of h8 ?_)
    | (refine CallI.of h9 ?_)
    | (refine CallI.of h10 ?_)
    | (refine CallI.of h11 ?_)
    | (refine CallI.of h12 ?_)
    | (refine CallI.of h13 ?_)
    | (refine CallI.of (q5 rfl) ?_)
    | (refine CallI.of (q6 rfl) ?_)
    | (refine CallI.of (q7 rfl) ?_)
    | (refine CallI.of (q8 rfl) ?_)
    | (refine CallI.of (q9 rfl) ?_)
    | (refine CallI.of (q10 rfl) ?_)
    | (refine CallI.of (q11 rfl) ?_)
    | (refine Br.not (fun h => ?_) (fun h => ?_) <;> subst h)
    | (refine Br.mk (fun h => ?_) (fun h => ?_) <;> subst h)
    | (refine Cmp.mk (fun h => ?_) (fun h => ?_))
    | (refine Ret.mk (by first | rfl | (subst_vars; rfl) | (simp only [resF, firstF, if_true]; rw [if_neg (by assumption)])))
    | (refine LoopW.step g.lim ?_))
theorem r_ParseLine14 (s : List UInt8) (hs : s.length ≤ 1000000) (w : W14) (hp : parts 32 s = w.list) : Fc E n_ref02_ParseLine [S s] (resW w) := by
  have sp := r_split g s hs
  rw [hp] at sp
  have dg : ∀ (x : List UInt8) (k : Nat), k ≤ 5 → numB x k = true → Fc E n_ref02_digits [S x, I k] (I (numV x k)) := by
    intro x k hk hb
    have := r_digits g x k hk
    unfold numV
    rw [if_pos hb] at this ⊢
    exact this
  have m7 : decide (isMaskT w.a7) = true → Fc E n_ref01_ParseMask [S w.a7] (.tup [I (mskV w.a7), I 0]) := by
    intro h
    have h := of_decide_eq_true h
    have := r_ParseMask g w.a7
    unfold mskV
    rw [if_pos h] at this ⊢
    exact this
  have m8 : decide (minP w.a8) = true → Fc E n_ref02_ParseMinute [S w.a8] (I (minW w.a8)) := by
    intro h
    have h := of_decide_eq_true h
    have := r_ParseMinute g w.a8
    unfold minW
    rw [if_pos h] at this ⊢
    exact this
  exact core_refParseLine g s w.a0 w.a1 w.a2 w.a3 w.a4 w.a5 w.a6 w.a7 w.a8 w.a9 w.a10 w.a11 w.a12 w.a13 (undash w.a12) (undash w.a13) _ _ _ _ _ _ _ _ _ _ _ _ _ _ _ _ _ _ _ _ _ _ _
    sp (r_fits_act g w.a0) (r_fits1 g w.a1) (r_fits2 g w.a2) (r_fits3 g w.a3) (r_fits4 g w.a4) (r_fits5 g w.a5) (r_fits6 g w.a6) (r_fits7 g w.a7) (r_fits8 g w.a8) (r_fits9 g w.a9) (r_fits10 g w.a10) (r_fits11 g w.a11) (r_fits12 g w.a12) (r_fits13 g w.a13)
    (dg w.a5 5 (by omega)) (dg w.a6 5 (by omega)) m7 m8 (dg w.a9 3 (by omega)) (dg w.a10 1 (by omega)) (dg w.a11 2 (by omega)) (r_undashed g w.a12) (r_undashed g w.a13) (r_CheckLine g w.line)
theorem r_ParseLine_no (s : List UInt8) (hs : s.length ≤ 1000000) (hp : (parts 32 s).length ≠ 14) : Fc E n_ref02_ParseLine [S s] (.tup [.d (.agg zeroL), I (if 13 < ((parts 32 s).length : Int) then 13 else ((parts 32 s).length : Int)), I 25]) := by
  refine g.fn code_ref02_ParseLine rfl ?_
  have sp := r_split g s hs
  generalize parts 32 s = l at *
  by_cases h : 13 < (l.length : Int)
  · rw [if_pos h]
    repeat' ((conv => whnf); first
    | refine Br.tt ?_
    | refine Br.ff ?_
    | refine Need.w ?_
    | refine Wr.w ?_
    | refine Cmp.t ?_
    | refine Cmp.f ?_
    | refine Rem.w ?_
    | refine Quo.w ?_
    | refine PickV.now rfl ?_
    | refine Pick.now rfl ?_
    | refine Chk.mk rfl ?_
    | refine PickW.w rfl ?_
      | (apply CallI.of; assumption)
      | (refine Ret.mk ?_))
    rw [if_pos h]
  · rw [if_neg h]
    repeat' ((conv => whnf); first
    | refine Br.tt ?_
    | refine Br.ff ?_
    | refine Need.w ?_
    | refine Wr.w ?_
    | refine Cmp.t ?_
    | refine Cmp.f ?_
    | refine Rem.w ?_
    | refine Quo.w ?_
    | refine PickV.now rfl ?_
    | refine Pick.now rfl ?_
    | refine Chk.mk rfl ?_
    | refine PickW.w rfl ?_
      | (apply CallI.of; assumption)
      | (refine Ret.mk ?_))
    rw [if_neg h]
end
end Go.Proofs.YtgpgcadcpogcbaaGreatDoor.Co
