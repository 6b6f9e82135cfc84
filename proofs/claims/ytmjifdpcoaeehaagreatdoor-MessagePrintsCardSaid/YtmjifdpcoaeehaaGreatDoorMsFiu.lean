
/-
  Messages as a law's parameters; short ones; messages of the reference as the program's.
-/
import Derived.Test.YtmjifdpcoaeehaaGreatDoorMsFit
import Derived.Test.YtmjifdpcoaeehaaGreatDoorMsChk
namespace Go.Proofs.YtmjifdpcoaeehaaGreatDoor.Co
open Go Go.Evl
set_option maxRecDepth 100000
theorem fit_Lines {k : Nat} : ∀ (m : Nat) {ds : List D}, fitAll (fit Tryz.prog (k + 4)) (List.replicate m 125) ds → ∃ l : List Lnt, ds = l.flatMap Lnt.cells ∧ l.length = m
  | 0, ds, h => ⟨[], h, rfl⟩
  | m + 1, ds, h => by
    obtain ⟨a, b, rfl, h1, h2⟩ := h
    obtain ⟨x, rfl⟩ := fit_Line h1
    obtain ⟨l, rfl, h3⟩ := fit_Lines m h2
    exact ⟨x :: l, rfl, by simp [h3]⟩
theorem arg_Message {x : D} (h : fitArg Tryz.prog 24 x) : ∃ m : Mst, x = .agg m.cells := by
  obtain ⟨ds, rfl, _, _, rfl, h1, _, _, rfl, h2, _, _, rfl, h3, _, _, rfl, h4, _, _, rfl, h5, rfl⟩ := arg_st Tryz.underlying24 h
  obtain ⟨ki, rfl⟩ := fit_str h1
  obtain ⟨ai, rfl⟩ := fit_str h2
  obtain ⟨se, rfl⟩ := fit_str h3
  obtain ⟨da, rfl, _⟩ := fit_int h4
  obtain ⟨m, cs, rfl, _, h6⟩ := fit_l Tryz.underlying22 h5
  obtain ⟨ls, rfl, rfl⟩ := fit_Lines m h6
  exact ⟨⟨ki, ai, se, da, ls⟩, rfl⟩
def okLn (l : Lnt) : Bool := decide (l.ac.length ≤ 40) && briefB l.rq
def shortB (ls : List Lnt) (n : Nat) : Bool := decide (ls.length ≤ n ∨ ls.length = 65) && ls.all okLn
def shortM (m : Mst) (n : Nat) : Bool := decide (m.ki.length ≤ 40 ∧ m.ai.length ≤ 40 ∧ m.se.length ≤ 40) && shortB m.ls n
theorem shortM_len {m : Mst} {n : Nat} (hn : n ≤ 64) (h : shortM m n = true) : m.ls.length ≤ 65 := by
  simp only [shortM, shortB, Bool.and_eq_true, decide_eq_true_eq] at h
  omega
theorem all_no {ls : List Lnt} {p : Lnt → Bool} {k : Nat} (hk : k < ls.length) (h : p ls[k] = false) : ls.all p = false := by
  rw [List.all_eq_false]
  exact ⟨_, List.getElem_mem hk, by rw [h]; decide⟩
section
variable {E : Oracle} (g : Good E)
include g
set_option maxHeartbeats 4000000 in
theorem r_ShortLines (ls : List Lnt) (n : Nat) (hn : n ≤ 64) : Fc E n_ref02_ShortLines [LL ls, I n] (B (shortB ls n)) := by
  refine g.fn code_ref02_ShortLines rfl ?_
  unfold shortB
  by_cases hl : ls.length ≤ n ∨ ls.length = 65
  · rw [decide_eq_true hl, Bool.true_and]
    repeat' ((conv => whnf); first
    | refine Br.tt ?_
    | refine Br.ff ?_
    | refine Need.w ?_
    | refine Wr.w ?_
    | refine Cmp.t ?_
    | refine Cmp.f ?_
    | refine Rem.w ?_
    | refine Quo.w ?_
    | refine PickV.now rfl ?_
    | refine Pick.now rfl ?_
    | refine Chk.mk rfl ?_
    | refine PickW.w rfl ?_
      | (refine Cmp.mk (fun h => ?_) (fun h => ?_))
      | (refine Rem.any (by omega) (fun r hr he => ?_))
      | (refine Br.mk (fun h => ?_) (fun h => ?_))
      | (exfalso; omega))
    all_goals
      refine LoopW.to (LoopW.upP g (fun k => [(0, LL ls), (5, I k)]) (fun _ => []) (fun k => ∀ i (h : i < ls.length), i < k → okLn ls[i] = true) ls.length (fun k hk hp ih => ?_) 0 (Nat.zero_le _) (fun i _ hi => absurd hi (Nat.not_lt_zero _))) rfl rfl
      by_cases hlt : k < ls.length
      · have hb := r_Brief g ls[k].rq
        have hno : okLn ls[k] = false → ls.all okLn = false := all_no hlt
        have ih := fun e : okLn ls[k] = true => ih hlt fun i h hi => by
          by_cases e' : i = k
          · subst e'; exact e
          · exact hp i h (by omega)
        by_cases ha : ls[k].ac.length ≤ 40
        · cases hq : briefB ls[k].rq
          · rw [hno (by simp [okLn, hq])]
            rw [hq] at hb
            repeat' ((conv => whnf); first
            | refine Br.tt ?_
            | refine Br.ff ?_
            | refine Need.w ?_
            | refine Wr.w ?_
            | refine Cmp.t ?_
            | refine Cmp.f ?_
            | refine Rem.w ?_
            | refine Quo.w ?_
            | refine PickV.now rfl ?_
            | refine Pick.now rfl ?_
            | refine Chk.mk rfl ?_
            | refine PickW.w rfl ?_
              | (refine Pick.rec Lnt.cells_length k rfl hlt rfl ?_)
              | (refine PickW.part Lnt.cells_length k rfl hlt (by decide) rfl ?_)
              | (refine CallI.of hb ?_)
              | (refine Ret.mk rfl))
          · rw [hq] at hb
            have ih := ih (by simp [okLn, hq, ha])
            repeat' ((conv => whnf); first
            | refine Br.tt ?_
            | refine Br.ff ?_
            | refine Need.w ?_
            | refine Wr.w ?_
            | refine Cmp.t ?_
            | refine Cmp.f ?_
            | refine Rem.w ?_
            | refine Quo.w ?_
            | refine PickV.now rfl ?_
            | refine Pick.now rfl ?_
            | refine Chk.mk rfl ?_
            | refine PickW.w rfl ?_
              | (refine Pick.rec Lnt.cells_length k rfl hlt rfl ?_)
              | (refine PickW.part Lnt.cells_length k rfl hlt (by decide) rfl ?_)
              | (refine CallI.of hb ?_)
              | (refine LoopW.to ih rfl rfl))
        · rw [hno (by simp [okLn, ha])]
          repeat' ((conv => whnf); first
          | refine Br.tt ?_
          | refine Br.ff ?_
          | refine Need.w ?_
          | refine Wr.w ?_
          | refine Cmp.t ?_
          | refine Cmp.f ?_
          | refine Rem.w ?_
          | refine Quo.w ?_
          | refine PickV.now rfl ?_
          | refine Pick.now rfl ?_
          | refine Chk.mk rfl ?_
          | refine PickW.w rfl ?_
            | (refine Pick.rec Lnt.cells_length k rfl hlt rfl ?_)
            | (refine Ret.mk rfl))
      · have hall : ls.all okLn = true := List.all_eq_true.2 fun x hx => by
          obtain ⟨i, hi, rfl⟩ := List.getElem_of_mem hx
          exact hp i hi (by omega)
        rw [hall]
        repeat' ((conv => whnf); first
        | refine Br.tt ?_
        | refine Br.ff ?_
        | refine Need.w ?_
        | refine Wr.w ?_
        | refine Cmp.t ?_
        | refine Cmp.f ?_
        | refine Rem.w ?_
        | refine Quo.w ?_
        | refine PickV.now rfl ?_
        | refine Pick.now rfl ?_
        | refine Chk.mk rfl ?_
        | refine PickW.w rfl ?_
          | (refine Ret.mk rfl))
  · rw [decide_eq_false hl, Bool.false_and]
    repeat' ((conv => whnf); first
    | refine Br.tt ?_
    | refine Br.ff ?_
    | refine Need.w ?_
    | refine Wr.w ?_
    | refine Cmp.t ?_
    | refine Cmp.f ?_
    | refine Rem.w ?_
    | refine Quo.w ?_
    | refine PickV.now rfl ?_
    | refine Pick.now rfl ?_
    | refine Chk.mk rfl ?_
    | refine PickW.w rfl ?_
      | (refine Cmp.mk (fun h => ?_) (fun h => ?_))
      | (refine Rem.any (by omega) (fun r hr he => ?_))
      | (refine Br.mk (fun h => ?_) (fun h => ?_))
      | (refine Ret.mk rfl)
      | (exfalso; omega))
theorem r_ShortMessage (m : Mst) (n : Nat) (hn : n ≤ 64) : Fc E n_ref02_ShortMessage [Msv m, I n] (B (shortM m n)) := by
  refine g.fn code_ref02_ShortMessage rfl ?_
  have hb := r_ShortLines g m.ls n hn
  unfold shortM
  by_cases h1 : m.ki.length ≤ 40
  · by_cases h2 : m.ai.length ≤ 40
    · by_cases h3 : m.se.length ≤ 40
      · rw [decide_eq_true ⟨h1, h2, h3⟩, Bool.true_and]
        repeat' ((conv => whnf); first
        | refine Br.tt ?_
        | refine Br.ff ?_
        | refine Need.w ?_
        | refine Wr.w ?_
        | refine Cmp.t ?_
        | refine Cmp.f ?_
        | refine Rem.w ?_
        | refine Quo.w ?_
        | refine PickV.now rfl ?_
        | refine Pick.now rfl ?_
        | refine Chk.mk rfl ?_
        | refine PickW.w rfl ?_
          | (refine CallI.of hb ?_)
          | (refine Ret.mk rfl))
      · rw [decide_eq_false fun h => h3 h.2.2, Bool.false_and]
        repeat' ((conv => whnf); first
        | refine Br.tt ?_
        | refine Br.ff ?_
        | refine Need.w ?_
        | refine Wr.w ?_
        | refine Cmp.t ?_
        | refine Cmp.f ?_
        | refine Rem.w ?_
        | refine Quo.w ?_
        | refine PickV.now rfl ?_
        | refine Pick.now rfl ?_
        | refine Chk.mk rfl ?_
        | refine PickW.w rfl ?_
          | (refine Ret.mk rfl))
    · rw [decide_eq_false fun h => h2 h.2.1, Bool.false_and]
      repeat' ((conv => whnf); first
      | refine Br.tt ?_
      | refine Br.ff ?_
      | refine Need.w ?_
      | refine Wr.w ?_
      | refine Cmp.t ?_
      | refine Cmp.f ?_
      | refine Rem.w ?_
      | refine Quo.w ?_
      | refine PickV.now rfl ?_
      | refine Pick.now rfl ?_
      | refine Chk.mk rfl ?_
      | refine PickW.w rfl ?_
        | (refine Ret.mk rfl))
  · rw [decide_eq_false fun h => h1 h.1, Bool.false_and]
    repeat' ((conv => whnf); first
    | refine Br.tt ?_
    | refine Br.ff ?_
    | refine Need.w ?_
    | refine Wr.w ?_
    | refine Cmp.t ?_
    | refine Cmp.f ?_
    | refine Rem.w ?_
    | refine Quo.w ?_
    | refine PickV.now rfl ?_
    | refine Pick.now rfl ?_
    | refine Chk.mk rfl ?_
    | refine PickW.w rfl ?_
      | (refine Ret.mk rfl))
set_option maxHeartbeats 4000000 in
theorem w_lines (ls : List Lnt) (hl : ls.length ≤ 1000000) : Fc E n_law02_lines [LL ls] (LL ls) := by
  refine g.fn code_law02_lines rfl ?_
  repeat' ((conv => whnf); first
  | refine Br.tt ?_
  | refine Br.ff ?_
  | refine Need.w ?_
  | refine Wr.w ?_
  | refine Cmp.t ?_
  | refine Cmp.f ?_
  | refine Rem.w ?_
  | refine Quo.w ?_
  | refine PickV.now rfl ?_
  | refine Pick.now rfl ?_
  | refine Chk.mk rfl ?_
  | refine PickW.w rfl ?_)
  refine LoopW.to (LoopW.up g (fun k => [(3, .ref ⟨0, 3, 0⟩ 0 k k), (6, LL ls), (7, I ls.length), (8, I k)]) (fun k => [(⟨0, 2, 0⟩, .row false ty_message_Line 14 0 []), (⟨0, 3, 0⟩, .row false ty_message_Line 14 k ((ls.take k).flatMap Lnt.cells))]) ls.length (fun k hk ih => ?_) 0 (Nat.zero_le _)) rfl rfl
  by_cases hlt : k < ls.length
  · have hf := flatR_take Lnt.cells ls k hlt
    have ih := ih hlt
    rw [hf] at ih
    repeat' ((conv => whnf); first
    | refine Br.tt ?_
    | refine Br.ff ?_
    | refine Need.w ?_
    | refine Wr.w ?_
    | refine Cmp.t ?_
    | refine Cmp.f ?_
    | refine Rem.w ?_
    | refine Quo.w ?_
    | refine PickV.now rfl ?_
    | refine Pick.now rfl ?_
    | refine Chk.mk rfl ?_
    | refine PickW.w rfl ?_
      | (refine PickW.rec Lnt.cells_length k rfl hlt ?_)
      | (refine Need.mk (by simp; omega) ?_)
      | (refine LoopW.to ih rfl rfl))
  · obtain rfl : k = ls.length := by omega
    rw [List.take_length]
    repeat' ((conv => whnf); first
    | refine Br.tt ?_
    | refine Br.ff ?_
    | refine Need.w ?_
    | refine Wr.w ?_
    | refine Cmp.t ?_
    | refine Cmp.f ?_
    | refine Rem.w ?_
    | refine Quo.w ?_
    | refine PickV.now rfl ?_
    | refine Pick.now rfl ?_
    | refine Chk.mk rfl ?_
    | refine PickW.w rfl ?_
      | (refine Ret.mk ?_))
    rw [if_pos ⟨rfl, rfl⟩]
theorem w_program (m : Mst) (hl : m.ls.length ≤ 1000000) : Fc E n_law02_program [Msv m] (Msv m) := by
  refine g.fn code_law02_program rfl ?_
  have h := w_lines g m.ls hl
  repeat' ((conv => whnf); first
  | refine Br.tt ?_
  | refine Br.ff ?_
  | refine Need.w ?_
  | refine Wr.w ?_
  | refine Cmp.t ?_
  | refine Cmp.f ?_
  | refine Rem.w ?_
  | refine Quo.w ?_
  | refine PickV.now rfl ?_
  | refine Pick.now rfl ?_
  | refine Chk.mk rfl ?_
  | refine PickW.w rfl ?_
    | (refine CallI.of h ?_)
    | (refine Ret.mk rfl))
end
end Go.Proofs.YtmjifdpcoaeehaaGreatDoor.Co
