
/-
  Messages: PrintMessage, by the program and by the reference.
-/
import Derived.Test.YtmjifdpcoaeehaaGreatDoorMsChl
import Derived.Test.YtmjifdpcoaeehaaGreatDoorMsLine
namespace Go.Proofs.YtmjifdpcoaeehaaGreatDoor.Co
open Go Go.Evl
def txtK (m : Mst) (k : Nat) : List UInt8 := (headT m ++ [10]) ++ linesL (m.ls.take k)
theorem txtK_zero (m : Mst) : txtK m 0 = headT m ++ [10] := by simp [txtK, linesL]
theorem txtK_succ (m : Mst) {k : Nat} (h : k < m.ls.length) : txtK m (k + 1) = txtK m k ++ (lineL m.ls[k] ++ [10]) := by
  unfold txtK
  rw [List.take_add_one, List.getElem?_eq_getElem h, Option.toList_some, linesL_snoc]
  simp only [List.append_assoc]
theorem txtK_end (m : Mst) : msgL m = txtK m m.ls.length ++ (endT m.ls.length ++ [10]) := by
  unfold txtK msgL
  rw [List.take_length]
  simp
theorem txtK_len {m : Mst} (h : OkMs m) (k : Nat) : 1 ≤ (txtK m k).length ∧ (txtK m k).length ≤ 20000 := by
  have h1 := headT_len h
  have h2 := linesL_len (m.ls.take k) fun x hx => (chkLs_zero _ _ _ h.ok).2 x (List.mem_of_mem_take hx)
  have h3 : (m.ls.take k).length ≤ 64 := by rw [List.length_take]; have := h.ln; omega
  simp only [txtK, List.length_append, List.length_cons, List.length_nil]
  omega
theorem byD_app (a b : List UInt8) : byD (a ++ b) = byD a ++ byD b := by simp [byD]
theorem byD_len (a : List UInt8) : (byD a).length = a.length := by simp [byD]
theorem bytesD_eq (a : List UInt8) : Evl.bytesD a = byD a := rfl
theorem stringX_row {bt et t n : Nat} {m : Mem} {o r : Evl.Id} {p : V} {xs : List D} {b : List UInt8} (h1 : Evl.look m o = some (.cells bt [p, .ref r 0 n n])) (h2 : Evl.look m r = some (.row false et 1 n xs)) (hn : n ≠ 0) (hb : Evl.bytesOf xs = some b) : stringX bt et [.ptr o 0 t] m = some (.d (.str b), Evl.upd m r .gone) := by
  simp only [stringX, h1, h2, hb]
  simp [hn]
section
variable {E : Oracle} (g : Good E)
include g
set_option maxRecDepth 100000
set_option maxHeartbeats 8000000 in
theorem s_PrintMessage (m : Mst) (hl : m.ls.length ≤ 1000000) : Fc E n_message_PrintMessage [Msv m] (.tup [S (if chkMs m = 0 then msgL m else []), I (chkMs m)]) := by
  refine g.fn code_message_PrintMessage rfl ?_
  have h1 := s_CheckMessage g m hl
  by_cases hc : chkMs m = 0
  · rw [if_pos hc, hc]
    rw [hc] at h1
    have ok := chkMs_ok.1 hc
    obtain ⟨_, _, hai, _, hse, hd1, hd2⟩ := head_parts ok.hd
    have hki := (vis_msg ok.ki).2
    have hw5 := s_wide g m.da 5 (by omega) ⟨hd1, by omega⟩
    have hwl := wideL_length 5 m.da
    have hw2 := s_wide g (m.ls.length : Int) 2 (by omega) ⟨by omega, by have := ok.ln; omega⟩
    have hwm := wideL_length 2 (m.ls.length : Int)
    have hln := ok.ln
    have hok := (chkLs_zero _ _ _ ok.ok).2
    have e0 : txtK m 0 = [83, 76, 79, 84, 83, 32] ++ m.ki ++ [32] ++ m.ai ++ [32] ++ m.se ++ [32] ++ wideL 5 m.da ++ [10] := by
      rw [txtK_zero]
      simp [headT, joined]
    repeat' ((conv => whnf); first
    | refine Br.tt ?_
    | refine Br.ff ?_
    | refine Need.w ?_
    | refine Wr.w ?_
    | refine Cmp.t ?_
    | refine Cmp.f ?_
    | refine Rem.w ?_
    | refine Quo.w ?_
    | refine PickV.now rfl ?_
    | refine Pick.now rfl ?_
    | refine Chk.mk rfl ?_
    | refine PickW.w rfl ?_
      | (apply CallI.of; assumption)
      | (refine Need.mk (by simp only [maxStr, List.length_append, List.length_cons, List.length_nil]; omega) ?_)
      | (refine Need.mk (by simp [Evl.bytesD] <;> omega) ?_)
      | (refine In.enter g.lim rfl code_strings_Builder_WriteString ?_)
      | (refine In.extern g.lim (x := copyX ty_strings_Builder) rfl rfl ?_)
      | (refine Some'.mk ⟨_, rfl, ?_⟩))
    refine LoopW.to (LoopW.up g (fun k => [(1, .ptr ⟨0, 1, 0⟩ 0 0), (5, .ptr ⟨0, 5, 1⟩ 0 0), (6, .fn n_strings_Builder_WriteString [.ptr ⟨0, 5, 1⟩ 0 0] []), (35, LL m.ls), (36, I m.ls.length), (37, I k)]) (fun k => [(⟨0, 1, 0⟩, .cells ty_message_Message [S m.ki, S m.ai, S m.se, I m.da, LL m.ls]), (⟨0, 5, 0⟩, .row false ty_uint8 1 (txtK m k).length (byD (txtK m k))), (⟨0, 5, 1⟩, .cells ty_strings_Builder [.ptr ⟨0, 5, 1⟩ 0 0, .ref ⟨0, 5, 0⟩ 0 (txtK m k).length (txtK m k).length])]) m.ls.length (fun k hk ih => ?_) 0 (Nat.zero_le _)) rfl ?_
    · have hk1 := txtK_len ok k
      have hbl := byD_len (txtK m k)
      by_cases hlt : k < m.ls.length
      · have hp := s_printLine g m.ls[k] (hok _ (List.getElem_mem hlt))
        have hpl := line_len (hok _ (List.getElem_mem hlt))
        have hs := txtK_succ m hlt
        repeat' ((conv => whnf); first
        | refine Br.tt ?_
        | refine Br.ff ?_
        | refine Need.w ?_
        | refine Wr.w ?_
        | refine Cmp.t ?_
        | refine Cmp.f ?_
        | refine Rem.w ?_
        | refine Quo.w ?_
        | refine PickV.now rfl ?_
        | refine Pick.now rfl ?_
        | refine Chk.mk rfl ?_
        | refine PickW.w rfl ?_
          | (refine PickW.rec Lnt.cells_length k rfl hlt ?_)
          | (refine CallI.of hp ?_)
          | (refine Need.mk (by simp only [maxStr, List.length_append, List.length_cons, List.length_nil]; omega) ?_)
          | (refine Need.mk (by simp [Evl.bytesD] <;> omega) ?_)
          | (refine In.enter g.lim rfl code_strings_Builder_WriteString ?_)
          | (refine In.extern g.lim (x := copyX ty_strings_Builder) rfl rfl ?_)
          | (refine Some'.mk ⟨_, rfl, ?_⟩)
          | (refine LoopW.to (ih hlt) rfl ?_))
        rw [hs, byD_app, List.length_append]
        rfl
      · obtain rfl : k = m.ls.length := by omega
        have hb : Evl.bytesOf (byD (txtK m m.ls.length) ++ Evl.bytesD ([69, 78, 68, 32] ++ wideL 2 (m.ls.length : Int) ++ [10])) = some (msgL m) := by
          rw [bytesD_eq, ← byD_app, bytesOf_byD, txtK_end]
          simp [endT, joined]
        repeat' ((conv => whnf); first
        | refine Br.tt ?_
        | refine Br.ff ?_
        | refine Need.w ?_
        | refine Wr.w ?_
        | refine Cmp.t ?_
        | refine Cmp.f ?_
        | refine Rem.w ?_
        | refine Quo.w ?_
        | refine PickV.now rfl ?_
        | refine Pick.now rfl ?_
        | refine Chk.mk rfl ?_
        | refine PickW.w rfl ?_
          | (apply CallI.of; assumption)
          | (refine Need.mk (by simp only [maxStr, List.length_append, List.length_cons, List.length_nil]; omega) ?_)
          | (refine Need.mk (by simp [Evl.bytesD] <;> omega) ?_)
          | (refine In.enter g.lim rfl code_strings_Builder_WriteString ?_)
          | (refine In.extern g.lim (x := copyX ty_strings_Builder) rfl rfl ?_)
          | (refine In.extern g.lim (x := stringX ty_strings_Builder ty_uint8) rfl (stringX_row rfl rfl (by omega) hb) ?_)
          | (refine Some'.mk ⟨_, rfl, ?_⟩)
          | (refine Ret.mk rfl))
    · rw [e0]
      simp only [Nat.zero_add, List.nil_append]
      rfl
  · rw [if_neg hc]
    repeat' ((conv => whnf); first
    | refine Br.tt ?_
    | refine Br.ff ?_
    | refine Need.w ?_
    | refine Wr.w ?_
    | refine Cmp.t ?_
    | refine Cmp.f ?_
    | refine Rem.w ?_
    | refine Quo.w ?_
    | refine PickV.now rfl ?_
    | refine Pick.now rfl ?_
    | refine Chk.mk rfl ?_
    | refine PickW.w rfl ?_
      | (apply CallI.of; assumption)
      | (refine Cmp.ff hc ?_)
      | (refine Ret.mk rfl))
set_option maxHeartbeats 8000000 in
theorem r_PrintMessage (m : Mst) (hc : chkMs m = 0) : Fc E n_ref02_PrintMessage [Msv m] (S (msgL m)) := by
  refine g.fn code_ref02_PrintMessage rfl ?_
  have ok := chkMs_ok.1 hc
  obtain ⟨_, _, _, _, _, hd1, hd2⟩ := head_parts ok.hd
  have hw5 := r_wide02 g m.da 5 (by omega) ⟨hd1, by omega⟩
  have hw2 := r_wide02 g (m.ls.length : Int) 2 (by omega) ⟨by omega, by have := ok.ln; omega⟩
  have hwm := wideL_length 2 (m.ls.length : Int)
  have hhl := headT_len ok
  have hj := r_joined g [SLOTS, m.ki, m.ai, m.se, wideL 5 m.da] (by simp) (Nat.le_trans hhl.2 (by decide))
  have hok := (chkLs_zero _ _ _ ok.ok).2
  have hln := ok.ln
  have hhT : (joined 32 [SLOTS, m.ki, m.ai, m.se, wideL 5 m.da]).length ≤ 46 := hhl.2
  repeat' ((conv => whnf); first
  | refine Br.tt ?_
  | refine Br.ff ?_
  | refine Need.w ?_
  | refine Wr.w ?_
  | refine Cmp.t ?_
  | refine Cmp.f ?_
  | refine Rem.w ?_
  | refine Quo.w ?_
  | refine PickV.now rfl ?_
  | refine Pick.now rfl ?_
  | refine Chk.mk rfl ?_
  | refine PickW.w rfl ?_
    | (refine CallI.of hw5 ?_)
    | (refine CallI.of hj ?_)
    | (refine Need.mk (by simp only [maxStr, List.length_cons, List.length_nil]; omega) ?_))
  refine LoopW.to (LoopW.up g (fun k => [(1, .ptr ⟨0, 1, 0⟩ 0 0), (3, S (txtK m k)), (4, I k)]) (fun _ => [(⟨0, 1, 0⟩, .cells ty_turnroundref02_Message [S m.ki, S m.ai, S m.se, I m.da, LL m.ls])]) m.ls.length (fun k hk ih => ?_) 0 (Nat.zero_le _)) (by rw [txtK_zero]; rfl) rfl
  have hk1 := txtK_len ok k
  by_cases hlt : k < m.ls.length
  · have hp := r_PrintLine g m.ls[k] (hok _ (List.getElem_mem hlt))
    have hpl := line_len (hok _ (List.getElem_mem hlt))
    have hs := txtK_succ m hlt
    repeat' ((conv => whnf); first
    | refine Br.tt ?_
    | refine Br.ff ?_
    | refine Need.w ?_
    | refine Wr.w ?_
    | refine Cmp.t ?_
    | refine Cmp.f ?_
    | refine Rem.w ?_
    | refine Quo.w ?_
    | refine PickV.now rfl ?_
    | refine Pick.now rfl ?_
    | refine Chk.mk rfl ?_
    | refine PickW.w rfl ?_
      | (refine PickW.rec Lnt.cells_length k rfl hlt ?_)
      | (refine CallI.of hp ?_)
      | (refine Need.mk (by simp only [maxStr, List.length_append, List.length_cons, List.length_nil]; omega) ?_)
      | (refine LoopW.to (ih hlt) (by rw [hs, ← List.append_assoc]; rfl) rfl))
  · obtain rfl : k = m.ls.length := by omega
    have he : txtK m m.ls.length ++ [69, 78, 68, 32] ++ wideL 2 (m.ls.length : Int) ++ [10] = msgL m := by
      rw [txtK_end]
      simp [endT, joined]
    rw [← he]
    repeat' ((conv => whnf); first
    | refine Br.tt ?_
    | refine Br.ff ?_
    | refine Need.w ?_
    | refine Wr.w ?_
    | refine Cmp.t ?_
    | refine Cmp.f ?_
    | refine Rem.w ?_
    | refine Quo.w ?_
    | refine PickV.now rfl ?_
    | refine Pick.now rfl ?_
    | refine Chk.mk rfl ?_
    | refine PickW.w rfl ?_
      | (refine CallI.of hw2 ?_)
      | (refine Need.mk (by simp only [maxStr, List.length_append, List.length_cons, List.length_nil]; omega) ?_)
      | (refine Ret.mk rfl))
end
end Go.Proofs.YtmjifdpcoaeehaaGreatDoor.Co
