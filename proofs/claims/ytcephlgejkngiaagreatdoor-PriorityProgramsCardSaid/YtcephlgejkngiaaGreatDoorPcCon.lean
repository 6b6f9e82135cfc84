
/-
  Priority: the laws' copies of a program.
-/
import Derived.Test.YtcephlgejkngiaaGreatDoorPcCof
namespace Go.Proofs.YtcephlgejkngiaaGreatDoor.Co
open Go Go.Evl
set_option maxRecDepth 100000
theorem fl_succ {α : Type} (f : α → List D) {l : List α} {k : Nat} (h : k < l.length) : (l.take (k + 1)).flatMap f = (l.take k).flatMap f ++ f l[k] := by
  rw [List.take_add_one, List.getElem?_eq_getElem h, List.flatMap_append]
  simp
theorem fl_len {α : Type} (f : α → List D) (n : Nat) (hf : ∀ a, (f a).length = n) {l : List α} {k : Nat} (h : k ≤ l.length) : ((l.take k).flatMap f).length = k * n := by
  rw [flatR_length f n hf, List.length_take, Nat.min_eq_left h]
section
variable {E : Oracle} (g : Good E)
include g
set_option maxHeartbeats 8000000 in
theorem w_program (p : Prg) (hs : SmallP p) : Fc E n_law05_program [Pgv p] (Pgv p) := by
  refine g.fn code_law05_program rfl ?_
  obtain ⟨l1, l2⟩ := hs
  repeat' ((conv => whnf); first
  | refine Br.tt ?_ | refine Br.ff ?_ | refine Need.w ?_ | refine Wr.w ?_ | refine Cmp.t ?_ | refine Cmp.f ?_ | refine Rem.w ?_ | refine Quo.w ?_ | refine PickV.now rfl ?_ | refine Pick.now rfl ?_ | refine Chk.mk rfl ?_ | refine PickW.w rfl ?_)
  refine LoopW.to (LoopW.up g (fun k => [(2, .ptr ⟨0, 2, 1⟩ 0 0), (3, .ptr ⟨0, 3, 1⟩ 0 0), (19, LC p.cl), (20, I p.cl.length), (21, I k)])
    (fun k => [(⟨0, 1, 0⟩, .cells ty_turnroundref05_Program [.d (.list p.cl.length (p.cl.flatMap Cls.cells)), .d (DI p.po), .d (DI p.of), .d (DI p.fo)]), (⟨0, 2, 0⟩, .row false ty_priority_Class 3 0 []), (⟨0, 2, 1⟩, .cells ty_priority_Program [.ref ⟨0, 2, 0⟩ 0 0 0, .d (DI 0), .d (DI 0), .d (DI 0)]), (⟨0, 17, 0⟩, .row false ty_priority_Class 3 k ((p.cl.take k).flatMap Cls.cells)), (⟨0, 3, 0⟩, .row false ty_priority_Class 3 0 []), (⟨0, 3, 1⟩, .cells ty_priority_Program [.ref ⟨0, 17, 0⟩ 0 k k, .d (DI p.po), .d (DI p.of), .d (DI p.fo)])])
    p.cl.length (fun k hk ih => ?_) 0 (Nat.zero_le _)) rfl rfl
  have hfl := fl_len Cls.cells 3 Cls.cells_length hk
  by_cases hlt : k < p.cl.length
  · have ih := ih hlt
    rw [fl_succ Cls.cells hlt] at ih
    have l3 := l2 _ (List.getElem_mem hlt)
    generalize hx : p.cl[k] = x at *
    obtain ⟨nm, wh, ky⟩ := x
    obtain ⟨l4, l5⟩ := l3
    dsimp only at l4 l5
    repeat' ((conv => whnf); first
    | refine Br.tt ?_ | refine Br.ff ?_ | refine Need.w ?_ | refine Wr.w ?_ | refine Cmp.t ?_ | refine Cmp.f ?_ | refine Rem.w ?_ | refine Quo.w ?_ | refine PickV.now rfl ?_ | refine Pick.now rfl ?_ | refine Chk.mk rfl ?_ | refine PickW.w rfl ?_
      | (refine PickW.rec Cls.cells_length k rfl hlt ?_; rw [hx]))
    refine LoopW.to (LoopW.up g (fun j => [(2, .ptr ⟨0, 2, 1⟩ 0 0), (3, .ptr ⟨0, 3, 1⟩ 0 0), (5, .ptr ⟨0, 5, 0⟩ 0 0), (6, .ptr ⟨0, 6, 2⟩ 0 0), (19, LC p.cl), (20, I p.cl.length), (21, I k), (29, LT wh), (30, I wh.length), (31, I j)])
      (fun j => [(⟨0, 1, 0⟩, .cells ty_turnroundref05_Program [.d (.list p.cl.length (p.cl.flatMap Cls.cells)), .d (DI p.po), .d (DI p.of), .d (DI p.fo)]), (⟨0, 2, 0⟩, .row false ty_priority_Class 3 0 []), (⟨0, 2, 1⟩, .cells ty_priority_Program [.ref ⟨0, 2, 0⟩ 0 0 0, .d (DI 0), .d (DI 0), .d (DI 0)]), (⟨0, 17, 0⟩, .row false ty_priority_Class 3 k ((p.cl.take k).flatMap Cls.cells)), (⟨0, 3, 0⟩, .row false ty_priority_Class 3 0 []), (⟨0, 3, 1⟩, .cells ty_priority_Program [.ref ⟨0, 17, 0⟩ 0 k k, .d (DI p.po), .d (DI p.of), .d (DI p.fo)]), (⟨0, 5, 0⟩, .cells ty_turnroundref05_Class [.d (.str nm), .d (.list wh.length (wh.flatMap Tst.cells)), .d (.list ky.length (ky.flatMap Kyt.cells))]), (⟨0, 27, 0⟩, .row false ty_priority_Test 3 j ((wh.take j).flatMap Tst.cells)), (⟨0, 27, 1⟩, .row false ty_priority_Key 2 0 ([])), (⟨0, 6, 0⟩, .row false ty_priority_Test 3 0 []), (⟨0, 6, 1⟩, .row false ty_priority_Key 2 0 []), (⟨0, 6, 2⟩, .cells ty_priority_Class [.d (.str nm), .ref ⟨0, 27, 0⟩ 0 j j, .ref ⟨0, 27, 1⟩ 0 0 0])])
      wh.length (fun j hj jh => ?_) 0 (Nat.zero_le _)) rfl rfl
    have hft := fl_len Tst.cells 3 Tst.cells_length hj
    by_cases hjl : j < wh.length
    · have jh := jh hjl
      rw [fl_succ Tst.cells hjl] at jh
      repeat' ((conv => whnf); first
      | refine Br.tt ?_ | refine Br.ff ?_ | refine Need.w ?_ | refine Wr.w ?_ | refine Cmp.t ?_ | refine Cmp.f ?_ | refine Rem.w ?_ | refine Quo.w ?_ | refine PickV.now rfl ?_ | refine Pick.now rfl ?_ | refine Chk.mk rfl ?_ | refine PickW.w rfl ?_
        | (refine PickW.rec Tst.cells_length j rfl hjl ?_)
        | (refine Need.mk (by simp only [List.length_cons, List.length_nil]; omega) ?_)
        | (refine LoopW.to jh rfl rfl))
    · have ej : wh.take j = wh := List.take_of_length_le (by omega)
      have hj' : j = wh.length := by omega
      subst hj'
      rw [ej]
      repeat' ((conv => whnf); first
      | refine Br.tt ?_ | refine Br.ff ?_ | refine Need.w ?_ | refine Wr.w ?_ | refine Cmp.t ?_ | refine Cmp.f ?_ | refine Rem.w ?_ | refine Quo.w ?_ | refine PickV.now rfl ?_ | refine Pick.now rfl ?_ | refine Chk.mk rfl ?_ | refine PickW.w rfl ?_)
      refine LoopW.to (LoopW.up g (fun i => [(2, .ptr ⟨0, 2, 1⟩ 0 0), (3, .ptr ⟨0, 3, 1⟩ 0 0), (6, .ptr ⟨0, 6, 2⟩ 0 0), (19, LC p.cl), (20, I p.cl.length), (21, I k), (43, LK ky), (44, I ky.length), (45, I i)])
        (fun i => [(⟨0, 1, 0⟩, .cells ty_turnroundref05_Program [.d (.list p.cl.length (p.cl.flatMap Cls.cells)), .d (DI p.po), .d (DI p.of), .d (DI p.fo)]), (⟨0, 2, 0⟩, .row false ty_priority_Class 3 0 []), (⟨0, 2, 1⟩, .cells ty_priority_Program [.ref ⟨0, 2, 0⟩ 0 0 0, .d (DI 0), .d (DI 0), .d (DI 0)]), (⟨0, 17, 0⟩, .row false ty_priority_Class 3 k ((p.cl.take k).flatMap Cls.cells)), (⟨0, 3, 0⟩, .row false ty_priority_Class 3 0 []), (⟨0, 3, 1⟩, .cells ty_priority_Program [.ref ⟨0, 17, 0⟩ 0 k k, .d (DI p.po), .d (DI p.of), .d (DI p.fo)]), (⟨0, 5, 0⟩, .cells ty_turnroundref05_Class [.d (.str nm), .d (.list wh.length (wh.flatMap Tst.cells)), .d (.list ky.length (ky.flatMap Kyt.cells))]), (⟨0, 27, 0⟩, .row false ty_priority_Test 3 wh.length (wh.flatMap Tst.cells)), (⟨0, 27, 1⟩, .row false ty_priority_Key 2 i ((ky.take i).flatMap Kyt.cells)), (⟨0, 6, 0⟩, .row false ty_priority_Test 3 0 []), (⟨0, 6, 1⟩, .row false ty_priority_Key 2 0 []), (⟨0, 6, 2⟩, .cells ty_priority_Class [.d (.str nm), .ref ⟨0, 27, 0⟩ 0 wh.length wh.length, .ref ⟨0, 27, 1⟩ 0 i i])])
        ky.length (fun i hi ik => ?_) 0 (Nat.zero_le _)) rfl rfl
      have hfk := fl_len Kyt.cells 2 Kyt.cells_length hi
      by_cases hil : i < ky.length
      · have ik := ik hil
        rw [fl_succ Kyt.cells hil] at ik
        repeat' ((conv => whnf); first
        | refine Br.tt ?_ | refine Br.ff ?_ | refine Need.w ?_ | refine Wr.w ?_ | refine Cmp.t ?_ | refine Cmp.f ?_ | refine Rem.w ?_ | refine Quo.w ?_ | refine PickV.now rfl ?_ | refine Pick.now rfl ?_ | refine Chk.mk rfl ?_ | refine PickW.w rfl ?_
          | (refine PickW.rec Kyt.cells_length i rfl hil ?_)
          | (refine Need.mk (by simp only [List.length_cons, List.length_nil]; omega) ?_)
          | (refine LoopW.to ik rfl rfl))
      · have ei : ky.take i = ky := List.take_of_length_le (by omega)
        have hi' : i = ky.length := by omega
        subst hi'
        rw [ei]
        repeat' ((conv => whnf); first
        | refine Br.tt ?_ | refine Br.ff ?_ | refine Need.w ?_ | refine Wr.w ?_ | refine Cmp.t ?_ | refine Cmp.f ?_ | refine Rem.w ?_ | refine Quo.w ?_ | refine PickV.now rfl ?_ | refine Pick.now rfl ?_ | refine Chk.mk rfl ?_ | refine PickW.w rfl ?_
          | (refine Need.mk (by simp only [List.length_cons, List.length_nil]; omega) ?_)
          | (refine LoopW.to ih rfl ?_))
        rw [if_pos ⟨rfl, rfl⟩, if_pos ⟨rfl, rfl⟩]
        rfl
  · have ek : p.cl.take k = p.cl := List.take_of_length_le (by omega)
    have hk' : k = p.cl.length := by omega
    subst hk'
    rw [ek]
    repeat' ((conv => whnf); first
    | refine Br.tt ?_ | refine Br.ff ?_ | refine Need.w ?_ | refine Wr.w ?_ | refine Cmp.t ?_ | refine Cmp.f ?_ | refine Rem.w ?_ | refine Quo.w ?_ | refine PickV.now rfl ?_ | refine Pick.now rfl ?_ | refine Chk.mk rfl ?_ | refine PickW.w rfl ?_
      | (refine Need.mk ⟨rfl, by simp⟩ ?_)
      | (refine Ret.mk ?_))
    refine congrArg (fun x => V.d (.agg [.list p.cl.length x, DI p.po, DI p.of, DI p.fo])) (?_ : _ = p.cl.flatMap Cls.cells)
    exact if_pos ⟨rfl, rfl⟩
end
end Go.Proofs.YtcephlgejkngiaaGreatDoor.Co
