
/-
  MessageReads returns true, for every text.
-/
import Derived.Test.YtekfihlecbpifaaGreatDoorMsFit
import Derived.Test.YtekfihlecbpifaaGreatDoorMsReae
import Derived.Test.YtekfihlecbpifaaGreatDoorMsReaf
import Derived.Test.YtekfihlecbpifaaGreatDoorAwM
namespace Go.Proofs.YtekfihlecbpifaaGreatDoor.Co
open Go Go.Evl
set_option maxRecDepth 100000

theorem resF_form (bs : List Bool) (l : Lnt) (c : Int) : ∃ (l' : Lnt) (i e : Int), resF bs l.cells c = .tup [Lnv l', I i, I e] := by
  unfold resF
  split
  · split
    · exact ⟨l, 0, 0, rfl⟩
    · exact ⟨⟨[], ⟨[], [], [], [], [], [], 0, 0, 0, 0, 0, 0, 0⟩⟩, 14, c, rfl⟩
  · exact ⟨⟨[], ⟨[], [], [], [], [], [], 0, 0, 0, 0, 0, 0, 0⟩⟩, _, 25, rfl⟩

section
variable {E : Oracle} (g : Good E)
include g
set_option maxHeartbeats 4000000 in
theorem w_MessageReads (s : List UInt8) : Fc E n_law02_MessageReads [S s] (B true) := by
  have aw := s_awake g
  by_cases hl : s.length ≤ 300
  · have key : ∃ (l : Lnt) (i e : Int), Fc E n_message_ParseLine [S s] (.tup [Lnv l, I i, I e]) ∧ Fc E n_ref02_ParseLine [S s] (.tup [Lnv l, I i, I e]) := by
      by_cases h : (parts 32 s).length = 14
      · obtain ⟨w, hw⟩ := w14_of h
        have h1 := s_ParseLine14 g s (by omega) w hw
        have h2 := r_ParseLine14 g s (by omega) w hw
        obtain ⟨l, i, e, he⟩ := resF_form w.fits w.line (chkLn w.line)
        rw [resW, he] at h1 h2
        exact ⟨l, i, e, h1, h2⟩
      · exact ⟨⟨[], ⟨[], [], [], [], [], [], 0, 0, 0, 0, 0, 0, 0⟩⟩, _, _, s_ParseLine_no g s (by omega) h, r_ParseLine_no g s (by omega) h⟩
    obtain ⟨l, i, e, h1, h2⟩ := key
    refine g.fn code_law02_MessageReads rfl ?_
    repeat' ((conv => whnf); first
      | (refine Br.tt ?_)
      | (refine Br.ff ?_)
      | (refine Need.mk (by first | omega | (simp; done) | (simp; omega)) ?_)
      | (refine Wr.keep (by omega) ?_)
      | (refine Cmp.tt (by first | omega | decide) ?_)
      | (refine Cmp.ff (by first | omega | decide) ?_)
      | (refine Rem.pos (by omega) ?_)
      | (refine Quo.pos (by omega) ?_)
      | (refine PickV.now rfl ?_)
      | (refine Pick.now rfl ?_)
      | (refine Chk.mk rfl ?_)
      | (refine PickW.now (by first | omega | decide) rfl ?_)
      | (apply CallI.of; assumption)
      | (refine Cmp.tt ⟨rfl, rfl, rfl, rfl, rfl, rfl, rfl, rfl, rfl, rfl, rfl, rfl, rfl, rfl⟩ ?_)
      | (refine Ret.mk rfl))
  · refine g.fn code_law02_MessageReads rfl ?_
    repeat' ((conv => whnf); first
      | (refine Br.tt ?_)
      | (refine Br.ff ?_)
      | (refine Need.mk (by first | omega | (simp; done) | (simp; omega)) ?_)
      | (refine Wr.keep (by omega) ?_)
      | (refine Cmp.tt (by first | omega | decide) ?_)
      | (refine Cmp.ff (by first | omega | decide) ?_)
      | (refine Rem.pos (by omega) ?_)
      | (refine Quo.pos (by omega) ?_)
      | (refine PickV.now rfl ?_)
      | (refine Pick.now rfl ?_)
      | (refine Chk.mk rfl ?_)
      | (refine PickW.now (by first | omega | decide) rfl ?_)
      | (apply CallI.of; assumption)
      | (refine Ret.mk rfl))
end

theorem s_MessageReads {E : Oracle} (g : Good E) {xs : List D} (h : fitArgs Tryz.prog [9] xs) : Fc E n_law02_MessageReads (asV xs) (B true) := by
  obtain ⟨x, rfl, h1⟩ := args1 h
  obtain ⟨s, rfl, _⟩ := arg_s Tryz.underlying9 h1
  exact w_MessageReads g s
end Go.Proofs.YtekfihlecbpifaaGreatDoor.Co

