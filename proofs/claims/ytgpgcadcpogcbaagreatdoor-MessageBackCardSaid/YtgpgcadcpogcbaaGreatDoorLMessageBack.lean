
/-
  MessageBack returns true, for every message and every cut.
-/
import Derived.Test.YtgpgcadcpogcbaaGreatDoorMsOwn
import Derived.Test.YtgpgcadcpogcbaaGreatDoorMsPar
import Derived.Test.YtgpgcadcpogcbaaGreatDoorMsPrt
import Derived.Test.YtgpgcadcpogcbaaGreatDoorAwM
namespace Go.Proofs.YtgpgcadcpogcbaaGreatDoor.Co
open Go Go.Evl
set_option maxRecDepth 100000
section
variable {E : Oracle} (g : Good E)
include g
theorem s_ParseLine_back (l : Lnt) (h : chkLn l = 0) : Fc E n_message_ParseLine [S (lineL l)] (.tup [Lnv l, I 0, I 0]) := by
  have hl := line_len h
  have := s_ParseLine14 g (lineL l) (by omega) (wOf l) (by rw [line_parts h, wOf_list])
  obtain ⟨h1, h2⟩ := wOf_line h
  unfold resW resF at this
  rw [if_pos h1, h2, if_pos h] at this
  exact this
set_option maxHeartbeats 8000000 in
theorem w_MessageBack (m : Mst) (cut : Int) (hcut : 0 ≤ cut ∧ cut ≤ 65535) : Fc E n_law02_MessageBack [Msv m, .d (.int .u16 cut)] (B true) := by
  have aw := s_awake g
  have hs := r_ShortMessage g m 6 (by omega)
  cases hb : shortM m 6
  · rw [hb] at hs
    refine g.fn code_law02_MessageBack rfl ?_
    repeat' ((conv => whnf); first
    | refine Br.tt ?_
    | refine Br.ff ?_
    | refine Need.w ?_
    | refine Wr.w ?_
    | refine Cmp.t ?_
    | refine Cmp.f ?_
    | refine Rem.w ?_
    | refine Quo.w ?_
    | refine PickV.now rfl ?_
    | refine Pick.now rfl ?_
    | refine Chk.mk rfl ?_
    | refine PickW.w rfl ?_
      | (apply CallI.of; assumption)
      | (refine Ret.mk rfl))
  · rw [hb] at hs
    have hl65 := shortM_len (by omega) hb
    have c2 := r_CheckMessage g m (by omega)
    by_cases hz : chkMs m = 0
    · have ok := chkMs_ok.1 hz
      have hl6 : m.ls.length ≤ 6 := by
        simp only [shortM, shortB, Bool.and_eq_true, decide_eq_true_eq] at hb
        have := ok.ln
        omega
      obtain ⟨n1, n2⟩ := msg_len ok
      have w := w_program g m (by omega)
      have p1 := s_PrintMessage g m (by omega)
      rw [if_pos hz, hz] at p1
      rw [hz] at c2
      have p2 := s_ParseMessage g (msgL m) (by omega)
      rw [parse_back ok (by omega)] at p2
      have o1 := w_own g m (by omega)
      have o2 := r_SameMessages g m (by omega)
      have o3 := w_own g zeroM (by decide)
      have o4 := r_SameMessages g zeroM (by decide)
      have hok := (chkLs_zero _ _ _ ok.ok).2
      have hr : 0 ≤ cut % ((msgL m).length : Int) ∧ cut % ((msgL m).length : Int) < (msgL m).length := ⟨Int.emod_nonneg _ (by omega), Int.emod_lt_of_pos _ (by omega)⟩
      obtain ⟨i, e, he, p3⟩ : ∃ (i : Nat) (e : Int), e ≠ 0 ∧ Fc E n_message_ParseMessage [S (win (msgL m) 0 ((cut % ((msgL m).length : Int)).toNat - 0))] (.tup [Msv zeroM, I i, I e]) := by
        generalize hk : (cut % ((msgL m).length : Int)).toNat = k
        have hkl : k < (msgL m).length := by omega
        have hw : win (msgL m) 0 (k - 0) = (msgL m).take k := by simp [win]
        rw [hw]
        have hne := parse_cut ok (p := (msgL m).take k) (t := (msgL m).drop k) (fun h => by
          have := congrArg List.length h
          simp only [List.length_drop, List.length_nil] at this
          omega) (List.take_append_drop k _).symm
        have hp := s_ParseMessage g ((msgL m).take k) (by rw [List.length_take]; omega)
        rw [parseM_zero _ hne] at hp
        exact ⟨_, _, hne, hp⟩
      refine g.fn code_law02_MessageBack rfl ?_
      repeat' ((conv => whnf); first
      | refine Br.tt ?_
      | refine Br.ff ?_
      | refine Need.w ?_
      | refine Wr.w ?_
      | refine Cmp.t ?_
      | refine Cmp.f ?_
      | refine Rem.w ?_
      | refine Quo.w ?_
      | refine PickV.now rfl ?_
      | refine Pick.now rfl ?_
      | refine Chk.mk rfl ?_
      | refine PickW.w rfl ?_
        | (apply CallI.of; first | exact hs | exact c2 | exact w | exact p1 | exact p2 | exact o1 | exact o2)
        | (refine Cmp.tt rfl ?_))
      refine LoopW.to (LoopW.up g (fun k => [(1, .d (.int .u16 cut)), (5, S (msgL m)), (69, LL m.ls), (70, I m.ls.length), (71, I k)]) (fun _ => _) m.ls.length (fun k hk ih => ?_) 0 (Nat.zero_le _)) rfl rfl
      by_cases hlt : k < m.ls.length
      · have hlk := hok _ (List.getElem_mem hlt)
        have q1 := s_PrintLine g m.ls[k]
        rw [hlk, if_pos rfl] at q1
        have q2 := s_ParseLine_back g m.ls[k] hlk
        repeat' ((conv => whnf); first
        | refine Br.tt ?_
        | refine Br.ff ?_
        | refine Need.w ?_
        | refine Wr.w ?_
        | refine Cmp.t ?_
        | refine Cmp.f ?_
        | refine Rem.w ?_
        | refine Quo.w ?_
        | refine PickV.now rfl ?_
        | refine Pick.now rfl ?_
        | refine Chk.mk rfl ?_
        | refine PickW.w rfl ?_
          | (refine PickW.rec Lnt.cells_length k rfl hlt ?_)
          | (refine CallI.of q1 ?_)
          | (refine CallI.of q2 ?_)
          | (refine Cmp.tt ⟨rfl, rfl, rfl, rfl, rfl, rfl, rfl, rfl, rfl, rfl, rfl, rfl, rfl, rfl⟩ ?_)
          | (refine LoopW.to (ih hlt) rfl rfl))
      · repeat' ((conv => whnf); first
      | refine Br.tt ?_
      | refine Br.ff ?_
      | refine Need.w ?_
      | refine Wr.w ?_
      | refine Cmp.t ?_
      | refine Cmp.f ?_
      | refine Rem.w ?_
      | refine Quo.w ?_
      | refine PickV.now rfl ?_
      | refine Pick.now rfl ?_
      | refine Chk.mk rfl ?_
      | refine PickW.w rfl ?_
          | (refine Bounds.at 0 ((cut % ((msgL m).length : Int)).toNat) (by omega) (by omega) (by omega) ?_)
          | (refine CallI.of p3 ?_)
          | (refine CallI.of o3 ?_)
          | (refine CallI.of o4 ?_)
          | (refine CallI.of aw ?_)
          | (refine Cmp.ff he ?_)
          | (refine Ret.mk rfl))
    · refine g.fn code_law02_MessageBack rfl ?_
      repeat' ((conv => whnf); first
      | refine Br.tt ?_
      | refine Br.ff ?_
      | refine Need.w ?_
      | refine Wr.w ?_
      | refine Cmp.t ?_
      | refine Cmp.f ?_
      | refine Rem.w ?_
      | refine Quo.w ?_
      | refine PickV.now rfl ?_
      | refine Pick.now rfl ?_
      | refine Chk.mk rfl ?_
      | refine PickW.w rfl ?_
        | (apply CallI.of; assumption)
        | (refine Cmp.ff hz ?_)
        | (refine Ret.mk rfl))
end
theorem s_MessageBack {E : Oracle} (g : Good E) {xs : List D} (h : fitArgs Tryz.prog [31, 71] xs) : Fc E n_law02_MessageBack (asV xs) (B true) := by
  obtain ⟨x, y, rfl, h1, h2⟩ := args2 h
  obtain ⟨m, rfl⟩ := arg_Message h1
  obtain ⟨c, rfl, hw⟩ := arg_i Tryz.underlying71 h2
  simp only [Lit.wf, Bool.and_eq_true, decide_eq_true_eq] at hw
  exact w_MessageBack g m c hw
end Go.Proofs.YtgpgcadcpogcbaaGreatDoor.Co
