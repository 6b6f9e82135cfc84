
/-
  Priority: programs, checked by the program.
-/
import Derived.Test.YtcephlgejkngiaaGreatDoorPcTst
import Derived.Test.YtcephlgejkngiaaGreatDoorSpGen
namespace Go.Proofs.YtcephlgejkngiaaGreatDoor.Co
open Go Go.Evl
set_option maxRecDepth 100000
theorem Tst.cells_length (t : Tst) : t.cells.length = 3 := rfl
structure Kyt where
  fa : List UInt8
  dn : Bool
def Kyt.cells (k : Kyt) : List D := [.str k.fa, .bool k.dn]
theorem Kyt.cells_length (k : Kyt) : k.cells.length = 2 := rfl
abbrev Kyv (k : Kyt) : V := .d (.agg k.cells)
structure Cls where
  nm : List UInt8
  wh : List Tst
  ky : List Kyt
def Cls.cells (c : Cls) : List D := [.str c.nm, .list c.wh.length (c.wh.flatMap Tst.cells), .list c.ky.length (c.ky.flatMap Kyt.cells)]
theorem Cls.cells_length (c : Cls) : c.cells.length = 3 := rfl
abbrev Csv (c : Cls) : V := .d (.agg c.cells)
abbrev LT (l : List Tst) : V := .d (.list l.length (l.flatMap Tst.cells))
abbrev LK (l : List Kyt) : V := .d (.list l.length (l.flatMap Kyt.cells))
abbrev LC (l : List Cls) : V := .d (.list l.length (l.flatMap Cls.cells))
structure Prg where
  cl : List Cls
  (po «of» fo : Int)
def Prg.cells (p : Prg) : List D := [.list p.cl.length (p.cl.flatMap Cls.cells), DI p.po, DI p.of, DI p.fo]
abbrev Pgv (p : Prg) : V := .d (.agg p.cells)
def chkTsG : List Tst → Int
  | [] => 0
  | t :: r => if chkTs t = 0 then chkTsG r else chkTs t
def nmsK (l : List Kyt) : List (List UInt8) := l.map (·.fa)
def chkKy (seen : List (List UInt8)) (k : Kyt) : Int := firstI [if k.fa ∈ fcL then 0 else 10, if k.fa ∈ seen then 9 else 0]
def chkKyG (seen : List (List UInt8)) : List Kyt → Int
  | [] => 0
  | k :: r => if chkKy seen k = 0 then chkKyG (seen ++ [k.fa]) r else chkKy seen k
def chkCs (c : Cls) : Int := firstI [nmE c.nm, if 8 < c.wh.length then 5 else 0, chkTsG c.wh, if 8 < c.ky.length then 5 else 0, chkKyG [] c.ky]
def nmsC (l : List Cls) : List (List UInt8) := l.map (·.nm)
def chkCa (seen : List (List UInt8)) (c : Cls) : Int := firstI [chkCs c, if c.nm ∈ seen then 9 else 0]
def chkCsG (seen : List (List UInt8)) : List Cls → Int
  | [] => 0
  | c :: r => if chkCa seen c = 0 then chkCsG (seen ++ [c.nm]) r else chkCa seen c
def chkPool (p : Prg) : Int := firstI [rng p.po 0 p.cl.length, rng p.of 1 100, rng p.fo 0 p.of]
def chkPg (p : Prg) : Int := firstI [if p.cl.length = 0 then 12 else 0, if 16 < p.cl.length then 5 else 0, chkCsG [] p.cl, chkPool p]
theorem nms_succ {α : Type} (f : α → List UInt8) {l : List α} {k : Nat} (h : k < l.length) : (l.take (k + 1)).map f = (l.take k).map f ++ [f l[k]] := by
  rw [List.take_add_one, List.getElem?_eq_getElem h, List.map_append]
  rfl
theorem win_takeG {α : Type} (f : α → List D) (n : Nat) (hf : ∀ a, (f a).length = n) (l : List α) (k : Nat) (h : k ≤ l.length) : win (l.flatMap f) 0 (k * n) = (l.take k).flatMap f := by
  unfold win
  rw [List.drop_zero]
  have e : l.flatMap f = (l.take k).flatMap f ++ (l.drop k).flatMap f := by rw [← List.flatMap_append, List.take_append_drop]
  have hn := flatR_length f n hf (l.take k)
  rw [List.length_take, Nat.min_eq_left h] at hn
  rw [e, List.take_append_of_le_length (by omega), List.take_of_length_le (by omega)]
theorem sl_take {α : Type} (f : α → List D) (n : Nat) (hf : ∀ a, (f a).length = n) (l : List α) (k : Nat) (h : k ≤ l.length) : V.d (.list (k - 0) (win (l.flatMap f) (0 * n) ((k - 0) * n))) = .d (.list (l.take k).length ((l.take k).flatMap f)) := by
  rw [Nat.zero_mul, Nat.sub_zero, win_takeG f n hf l k h, List.length_take, Nat.min_eq_left h]
section
variable {E : Oracle} (g : Good E)
include g
theorem s_Cc1 (l : List Tst) (t : Tst) : Fc E n_priority_Class_check_1 [LT l, Tsv t] (I (chkTs t)) := by
  refine g.fn code_priority_Class_check_1 rfl ?_
  have h := s_TestCheck g t
  repeat' ((conv => whnf); first
  | refine Br.tt ?_ | refine Br.ff ?_ | refine Need.w ?_ | refine Wr.w ?_ | refine Cmp.t ?_ | refine Cmp.f ?_ | refine Rem.w ?_ | refine Quo.w ?_ | refine PickV.now rfl ?_ | refine Pick.now rfl ?_ | refine Chk.mk rfl ?_ | refine PickW.w rfl ?_
    | (apply CallI.of; assumption)
    | (refine Ret.mk rfl))
set_option maxHeartbeats 4000000 in
theorem s_eachT (l : List Tst) (hl : l.length ≤ 1000000) : Fc E n_priority_each_priority_Test [LT l, .d (.fn n_priority_Class_check_1)] (I (chkTsG l)) := by
  refine g.fn code_priority_each_priority_Test rfl ?_
  generalize hR : chkTsG l = R
  repeat' ((conv => whnf); first
  | refine Br.tt ?_ | refine Br.ff ?_ | refine Need.w ?_ | refine Wr.w ?_ | refine Cmp.t ?_ | refine Cmp.f ?_ | refine Rem.w ?_ | refine Quo.w ?_ | refine PickV.now rfl ?_ | refine Pick.now rfl ?_ | refine Chk.mk rfl ?_ | refine PickW.w rfl ?_)
  refine LoopW.to (LoopW.upP g (fun k => [(0, LT l), (1, .d (.fn n_priority_Class_check_1)), (8, LT l), (9, I l.length), (10, I k)]) (fun _ => []) (fun k => chkTsG (l.drop k) = R) l.length (fun k hk h0 ih => ?_) 0 (Nat.zero_le _) hR) rfl rfl
  by_cases hlt : k < l.length
  · rw [List.drop_eq_getElem_cons hlt, chkTsG] at h0
    have ih := ih hlt
    have hn := s_Cc1 g (l.take k) l[k]
    have ht := sl_take Tst.cells 3 Tst.cells_length l k (by omega)
    generalize chkTs l[k] = r at *
    by_cases hz : r = 0
    · rw [if_pos hz] at h0
      have ih := ih h0
      repeat' ((conv => whnf); first
      | refine Br.tt ?_ | refine Br.ff ?_ | refine Need.w ?_ | refine Wr.w ?_ | refine Cmp.t ?_ | refine Cmp.f ?_ | refine Rem.w ?_ | refine Quo.w ?_ | refine PickV.now rfl ?_ | refine Pick.now rfl ?_ | refine Chk.mk rfl ?_ | refine PickW.w rfl ?_
        | (refine PickW.rec Tst.cells_length k rfl hlt ?_)
        | (refine Bounds.at 0 k rfl rfl (by omega) ?_ <;> (try rw [ht]))
        | (refine CallI.of hn ?_)
        | (refine Cmp.ff (fun h => h hz) ?_)
        | (refine LoopW.to ih rfl rfl))
    · rw [if_neg hz] at h0
      rw [← h0]
      repeat' ((conv => whnf); first
      | refine Br.tt ?_ | refine Br.ff ?_ | refine Need.w ?_ | refine Wr.w ?_ | refine Cmp.t ?_ | refine Cmp.f ?_ | refine Rem.w ?_ | refine Quo.w ?_ | refine PickV.now rfl ?_ | refine Pick.now rfl ?_ | refine Chk.mk rfl ?_ | refine PickW.w rfl ?_
        | (refine PickW.rec Tst.cells_length k rfl hlt ?_)
        | (refine Bounds.at 0 k rfl rfl (by omega) ?_ <;> (try rw [ht]))
        | (refine CallI.of hn ?_)
        | (refine Cmp.tt hz ?_)
        | (refine Ret.mk rfl))
  · rw [List.drop_eq_nil_of_le (by omega), chkTsG] at h0
    rw [← h0]
    repeat' ((conv => whnf); first
    | refine Br.tt ?_ | refine Br.ff ?_ | refine Need.w ?_ | refine Wr.w ?_ | refine Cmp.t ?_ | refine Cmp.f ?_ | refine Rem.w ?_ | refine Quo.w ?_ | refine PickV.now rfl ?_ | refine Pick.now rfl ?_ | refine Chk.mk rfl ?_ | refine PickW.w rfl ?_
      | (refine Ret.mk rfl))
set_option maxHeartbeats 4000000 in
theorem in_key (l : List Kyt) (q : Kyt) (hl : l.length ≤ 1000000) {K : V → Mem → Prop}
    (hK : K (I (idxG (nmsK l) q.fa 0)) [(⟨0, 3, 0⟩, .cells ty_priority_Key (q.cells.map V.d))]) :
    In E 2 n_slices_IndexFunc_Lpriority_Key_priority_Key [LK l, .fn n_priority_Class_check_2_1 [] [.ptr ⟨0, 3, 0⟩ 0 0]] [(⟨0, 3, 0⟩, .cells ty_priority_Key (q.cells.map V.d))] K := by
  generalize hA : idxG (nmsK l) q.fa 0 = A at *
  refine In.enter g.lim rfl code_slices_IndexFunc_Lpriority_Key_priority_Key ?_
  repeat' ((conv => whnf); first
  | refine Br.tt ?_ | refine Br.ff ?_ | refine Need.w ?_ | refine Wr.w ?_ | refine Cmp.t ?_ | refine Cmp.f ?_ | refine Rem.w ?_ | refine Quo.w ?_ | refine PickV.now rfl ?_ | refine Pick.now rfl ?_ | refine Chk.mk rfl ?_ | refine PickW.w rfl ?_)
  refine LoopW.to (LoopW.upP g (fun k => [(0, LK l), (1, .fn n_priority_Class_check_2_1 [] [.ptr ⟨0, 3, 0⟩ 0 0]), (7, I l.length), (8, I k)]) (fun _ => _) (fun k => idxG (nmsK (l.drop k)) q.fa k = A) l.length (fun k hk h0 ih => ?_) 0 (Nat.zero_le _) hA) rfl rfl
  by_cases hlt : k < l.length
  · rw [List.drop_eq_getElem_cons hlt, nmsK, List.map_cons, idxG] at h0
    have ih := ih hlt
    by_cases hd : l[k].fa = q.fa
    · rw [if_pos hd.symm] at h0
      subst h0
      repeat' ((conv => whnf); first
      | refine Br.tt ?_ | refine Br.ff ?_ | refine Need.w ?_ | refine Wr.w ?_ | refine Cmp.t ?_ | refine Cmp.f ?_ | refine Rem.w ?_ | refine Quo.w ?_ | refine PickV.now rfl ?_ | refine Pick.now rfl ?_ | refine Chk.mk rfl ?_ | refine PickW.w rfl ?_
        | (refine PickW.rec Kyt.cells_length k rfl hlt ?_)
        | (refine In.enter g.lim rfl code_priority_Class_check_2_1 ?_)
        | (refine Cmp.tt hd ?_)
        | (exact hK))
    · rw [if_neg (Ne.symm hd)] at h0
      have ih := ih h0
      repeat' ((conv => whnf); first
      | refine Br.tt ?_ | refine Br.ff ?_ | refine Need.w ?_ | refine Wr.w ?_ | refine Cmp.t ?_ | refine Cmp.f ?_ | refine Rem.w ?_ | refine Quo.w ?_ | refine PickV.now rfl ?_ | refine Pick.now rfl ?_ | refine Chk.mk rfl ?_ | refine PickW.w rfl ?_
        | (refine PickW.rec Kyt.cells_length k rfl hlt ?_)
        | (refine In.enter g.lim rfl code_priority_Class_check_2_1 ?_)
        | (refine Cmp.ff hd ?_)
        | (refine LoopW.to ih rfl rfl))
  · rw [List.drop_eq_nil_of_le (by omega), nmsK, List.map_nil, idxG] at h0
    subst h0
    repeat' ((conv => whnf); first
    | refine Br.tt ?_ | refine Br.ff ?_ | refine Need.w ?_ | refine Wr.w ?_ | refine Cmp.t ?_ | refine Cmp.f ?_ | refine Rem.w ?_ | refine Quo.w ?_ | refine PickV.now rfl ?_ | refine Pick.now rfl ?_ | refine Chk.mk rfl ?_ | refine PickW.w rfl ?_
      | (exact hK))
set_option maxHeartbeats 4000000 in
theorem s_Cc2 (l : List Kyt) (q : Kyt) (hl : l.length ≤ 1000000) : Fc E n_priority_Class_check_2 [LK l, Kyv q] (I (chkKy (nmsK l) q)) := by
  refine g.fn code_priority_Class_check_2 rfl ?_
  have h1 := s_Facts g
  have h2 : Fc E n_slices_Contains_Lstring_string [.d (.list 10 (fcL.map D.str)), S q.fa] (B (decide (q.fa ∈ fcL))) := s_ContainsS g fcL q.fa (by decide)
  have h3 := s_pfirst2 g (if (!decide (q.fa ∈ fcL)) = true then 10 else 0) (if q.fa ∈ nmsK l then 9 else 0)
  have e : chkKy (nmsK l) q = firstI [if (!decide (q.fa ∈ fcL)) = true then 10 else 0, if q.fa ∈ nmsK l then 9 else 0] := by
    unfold chkKy
    by_cases hf : q.fa ∈ fcL <;> simp [hf]
  rw [e]
  have hm := idxG_mem q.fa (nmsK l) 0
  have hin := fun {K} => in_key g (K := K) l q hl
  generalize idxG (nmsK l) q.fa 0 = r at *
  generalize decide (q.fa ∈ fcL) = b at *
  by_cases hr : 0 ≤ r
  · rw [if_pos (hm.1 hr)] at h3 ⊢
    repeat' ((conv => whnf); first
    | refine Br.tt ?_ | refine Br.ff ?_ | refine Need.w ?_ | refine Wr.w ?_ | refine Cmp.t ?_ | refine Cmp.f ?_ | refine Rem.w ?_ | refine Quo.w ?_ | refine PickV.now rfl ?_ | refine Pick.now rfl ?_ | refine Chk.mk rfl ?_ | refine PickW.w rfl ?_
      | (refine In.enter g.lim rfl code_slices_ContainsFunc_Lpriority_Key_priority_Key ?_)
      | (refine hin ?_)
      | (apply CallI.of; assumption)
      | (refine CallI.of (s_pwhen g _ _) ?_)
      | (refine Ret.mk rfl))
  · rw [if_neg (fun h => hr (hm.2 h))] at h3 ⊢
    repeat' ((conv => whnf); first
    | refine Br.tt ?_ | refine Br.ff ?_ | refine Need.w ?_ | refine Wr.w ?_ | refine Cmp.t ?_ | refine Cmp.f ?_ | refine Rem.w ?_ | refine Quo.w ?_ | refine PickV.now rfl ?_ | refine Pick.now rfl ?_ | refine Chk.mk rfl ?_ | refine PickW.w rfl ?_
      | (refine In.enter g.lim rfl code_slices_ContainsFunc_Lpriority_Key_priority_Key ?_)
      | (refine hin ?_)
      | (apply CallI.of; assumption)
      | (refine CallI.of (s_pwhen g _ _) ?_)
      | (refine Ret.mk rfl))
set_option maxHeartbeats 4000000 in
theorem s_eachK (l : List Kyt) (hl : l.length ≤ 1000000) : Fc E n_priority_each_priority_Key [LK l, .d (.fn n_priority_Class_check_2)] (I (chkKyG [] l)) := by
  refine g.fn code_priority_each_priority_Key rfl ?_
  generalize hR : chkKyG [] l = R
  repeat' ((conv => whnf); first
  | refine Br.tt ?_ | refine Br.ff ?_ | refine Need.w ?_ | refine Wr.w ?_ | refine Cmp.t ?_ | refine Cmp.f ?_ | refine Rem.w ?_ | refine Quo.w ?_ | refine PickV.now rfl ?_ | refine Pick.now rfl ?_ | refine Chk.mk rfl ?_ | refine PickW.w rfl ?_)
  refine LoopW.to (LoopW.upP g (fun k => [(0, LK l), (1, .d (.fn n_priority_Class_check_2)), (8, LK l), (9, I l.length), (10, I k)]) (fun _ => []) (fun k => chkKyG (nmsK (l.take k)) (l.drop k) = R) l.length (fun k hk h0 ih => ?_) 0 (Nat.zero_le _) hR) rfl rfl
  by_cases hlt : k < l.length
  · have hs : nmsK (l.take (k + 1)) = nmsK (l.take k) ++ [l[k].fa] := nms_succ Kyt.fa hlt
    rw [List.drop_eq_getElem_cons hlt, chkKyG, ← hs] at h0
    have ih := ih hlt
    have hn := s_Cc2 g (l.take k) l[k] (by simp; omega)
    have ht := sl_take Kyt.cells 2 Kyt.cells_length l k (by omega)
    generalize chkKy (nmsK (l.take k)) l[k] = r at *
    by_cases hz : r = 0
    · rw [if_pos hz] at h0
      have ih := ih h0
      repeat' ((conv => whnf); first
      | refine Br.tt ?_ | refine Br.ff ?_ | refine Need.w ?_ | refine Wr.w ?_ | refine Cmp.t ?_ | refine Cmp.f ?_ | refine Rem.w ?_ | refine Quo.w ?_ | refine PickV.now rfl ?_ | refine Pick.now rfl ?_ | refine Chk.mk rfl ?_ | refine PickW.w rfl ?_
        | (refine PickW.rec Kyt.cells_length k rfl hlt ?_)
        | (refine Bounds.at 0 k rfl rfl (by omega) ?_ <;> (try rw [ht]))
        | (refine CallI.of hn ?_)
        | (refine Cmp.ff (fun h => h hz) ?_)
        | (refine LoopW.to ih rfl rfl))
    · rw [if_neg hz] at h0
      rw [← h0]
      repeat' ((conv => whnf); first
      | refine Br.tt ?_ | refine Br.ff ?_ | refine Need.w ?_ | refine Wr.w ?_ | refine Cmp.t ?_ | refine Cmp.f ?_ | refine Rem.w ?_ | refine Quo.w ?_ | refine PickV.now rfl ?_ | refine Pick.now rfl ?_ | refine Chk.mk rfl ?_ | refine PickW.w rfl ?_
        | (refine PickW.rec Kyt.cells_length k rfl hlt ?_)
        | (refine Bounds.at 0 k rfl rfl (by omega) ?_ <;> (try rw [ht]))
        | (refine CallI.of hn ?_)
        | (refine Cmp.tt hz ?_)
        | (refine Ret.mk rfl))
  · rw [List.drop_eq_nil_of_le (by omega), chkKyG] at h0
    rw [← h0]
    repeat' ((conv => whnf); first
    | refine Br.tt ?_ | refine Br.ff ?_ | refine Need.w ?_ | refine Wr.w ?_ | refine Cmp.t ?_ | refine Cmp.f ?_ | refine Rem.w ?_ | refine Quo.w ?_ | refine PickV.now rfl ?_ | refine Pick.now rfl ?_ | refine Chk.mk rfl ?_ | refine PickW.w rfl ?_
      | (refine Ret.mk rfl))
end
end Go.Proofs.YtcephlgejkngiaaGreatDoor.Co
