
/-
  Messages: Changed, by the program.
-/
import Derived.Test.YtgpgcadcpogcbaaGreatDoorMsChg
namespace Go.Proofs.YtgpgcadcpogcbaaGreatDoor.Co
open Go Go.Evl
set_option maxRecDepth 100000
section
variable {E : Oracle} (g : Good E)
include g
set_option maxHeartbeats 16000000 in
theorem s_Changed (b a : List Rqt) (hb : b.length ≤ 1000000) (ha : a.length ≤ 1000000) :
    (firstI [chkRqs b, chkRqs a] ≠ 0 → Fc E n_message_Changed [LQ b, LQ a] (.tup [LL [], I (firstI [chkRqs b, chkRqs a])])) ∧
    (firstI [chkRqs b, chkRqs a] = 0 → Fc E n_message_Changed [LQ b, LQ a] (if 64 < (chgL b a).length then .tup [LL [], I 5] else .tup [LL (chgL b a), I 0])) := by
  have h1 := s_checkRequests g b hb
  have h2 := s_checkRequests g a ha
  refine ⟨fun hz => ?_, fun hz => ?_⟩
  · refine g.fn code_message_Changed rfl ?_
    repeat' ((conv => whnf); first
    | refine Br.tt ?_
    | refine Br.ff ?_
    | refine Need.w ?_
    | refine Wr.w ?_
    | refine Cmp.t ?_
    | refine Cmp.f ?_
    | refine Rem.w ?_
    | refine Quo.w ?_
    | refine PickV.now rfl ?_
    | refine Pick.now rfl ?_
    | refine Chk.mk rfl ?_
    | refine PickW.w rfl ?_
      | (apply CallI.of; assumption)
      | (refine CallI.of (s_mfirst2 g _ _) ?_)
      | (refine Cmp.ff hz ?_)
      | (refine Ret.mk rfl))
  · generalize hR : (if 64 < (chgL b a).length then V.tup [LL [], I 5] else .tup [LL (chgL b a), I 0]) = R
    refine g.fn code_message_Changed rfl ?_
    repeat' ((conv => whnf); first
    | refine Br.tt ?_
    | refine Br.ff ?_
    | refine Need.w ?_
    | refine Wr.w ?_
    | refine Cmp.t ?_
    | refine Cmp.f ?_
    | refine Rem.w ?_
    | refine Quo.w ?_
    | refine PickV.now rfl ?_
    | refine Pick.now rfl ?_
    | refine Chk.mk rfl ?_
    | refine PickW.w rfl ?_
      | (apply CallI.of; assumption)
      | (refine CallI.of (s_mfirst2 g _ _) ?_)
      | (refine Cmp.tt hz ?_)
      | (refine In.enter g.lim rfl code_message_filtered_api_Request_message_Line ?_))
    clear h1 h2 hz
    refine LoopW.to (LoopW.up g (fun k => [(1, .fn n_message_Changed_2 [] [.ptr ⟨0, 7, 0⟩ 0 0, .ptr ⟨0, 3, 0⟩ 0 0]), (5, .ref ⟨1, 5, 0⟩ 0 ((b.take k).flatMap (dL a)).length ((b.take k).flatMap (dL a)).length), (10, LQ b), (11, I b.length), (12, I k)]) (fun k => [(⟨0, 2, 0⟩, .cells ty_Lapi_Request [LQ b]), (⟨0, 3, 0⟩, .cells ty_Lapi_Request [LQ a]), (⟨0, 4, 0⟩, .row false ty_message_Line 14 0 []), (⟨0, 7, 0⟩, .cells ty_func_Lapi_Request_api_Request_api_Request_bool [.fn n_message_Changed_1 [] []]), (⟨1, 4, 0⟩, .row false ty_message_Line 14 0 []), (⟨1, 5, 0⟩, .row false ty_message_Line 14 ((b.take k).flatMap (dL a)).length (((b.take k).flatMap (dL a)).flatMap Lnt.cells))]) b.length (fun k hk ih => ?_) 0 (Nat.zero_le _)) rfl rfl
    by_cases hlt : k < b.length
    · clear hR
      have hT := s_twin g a b[k] ha
      have ih := ih hlt
      rw [fm_take (dL a) b k hlt] at ih
      have hX := take_len (dL_len a) b k
      generalize (b.take k).flatMap (dL a) = X at *
      have hfl := flatR_length Lnt.cells 14 Lnt.cells_length X
      cases hF : twF a b[k] with
      | none =>
        have hq := hT.1 hF
        rw [show dL a b[k] = [⟨[68], b[k]⟩] by unfold dL; rw [hF], List.flatMap_append, List.length_append] at ih
        repeat' ((conv => whnf); first
        | refine Br.tt ?_
        | refine Br.ff ?_
        | refine Need.w ?_
        | refine Wr.w ?_
        | refine Cmp.t ?_
        | refine Cmp.f ?_
        | refine Rem.w ?_
        | refine Quo.w ?_
        | refine PickV.now rfl ?_
        | refine Pick.now rfl ?_
        | refine Chk.mk rfl ?_
        | refine PickW.w rfl ?_
          | (refine PickW.rec Rqt.cells_length k rfl hlt ?_)
          | (refine In.enter g.lim rfl code_message_Changed_2 ?_)
          | (refine CallI.of hq ?_)
          | (refine Need.mk (by simp only [List.length_cons, List.length_nil]; omega) ?_)
          | (refine LoopW.to ih rfl rfl))
      | some o =>
        have hq := hT.2 o hF
        rw [show dL a b[k] = [] by unfold dL; rw [hF], List.append_nil] at ih
        repeat' ((conv => whnf); first
        | refine Br.tt ?_
        | refine Br.ff ?_
        | refine Need.w ?_
        | refine Wr.w ?_
        | refine Cmp.t ?_
        | refine Cmp.f ?_
        | refine Rem.w ?_
        | refine Quo.w ?_
        | refine PickV.now rfl ?_
        | refine Pick.now rfl ?_
        | refine Chk.mk rfl ?_
        | refine PickW.w rfl ?_
          | (refine PickW.rec Rqt.cells_length k rfl hlt ?_)
          | (refine In.enter g.lim rfl code_message_Changed_2 ?_)
          | (refine CallI.of hq ?_)
          | (refine LoopW.to ih rfl rfl))
    · obtain rfl : k = b.length := by omega
      clear ih
      rw [List.take_length]
      have hD := one_len 1 (dL_len a) b
      unfold chgL at hR
      generalize b.flatMap (dL a) = Dx at *
      repeat' ((conv => whnf); first
      | refine Br.tt ?_
      | refine Br.ff ?_
      | refine Need.w ?_
      | refine Wr.w ?_
      | refine Cmp.t ?_
      | refine Cmp.f ?_
      | refine Rem.w ?_
      | refine Quo.w ?_
      | refine PickV.now rfl ?_
      | refine Pick.now rfl ?_
      | refine Chk.mk rfl ?_
      | refine PickW.w rfl ?_
        | (refine Some'.row (by decide) rfl ?_))
      refine LoopW.to (LoopW.up g (fun k => [(2, .ptr ⟨0, 2, 0⟩ 0 0), (3, .ptr ⟨0, 3, 0⟩ 0 0), (7, .ptr ⟨0, 7, 0⟩ 0 0), (8, .ref ⟨0, 24, 0⟩ 0 (catR Dx ((b.take k).flatMap (cL a))).length (catR Dx ((b.take k).flatMap (cL a))).length), (25, LQ b), (26, I b.length), (27, I k)]) (fun k => [(⟨0, 2, 0⟩, .cells ty_Lapi_Request [LQ b]), (⟨0, 3, 0⟩, .cells ty_Lapi_Request [LQ a]), (⟨0, 4, 0⟩, .row false ty_message_Line 14 0 []), (⟨0, 7, 0⟩, .cells ty_func_Lapi_Request_api_Request_api_Request_bool [.fn n_message_Changed_1 [] []]), (⟨0, 24, 0⟩, .row false ty_message_Line 14 (catR Dx ((b.take k).flatMap (cL a))).length ((catR Dx ((b.take k).flatMap (cL a))).flatMap Lnt.cells))]) b.length (fun k hk ih => ?_) 0 (Nat.zero_le _)) rfl rfl
      by_cases hlt : k < b.length
      · clear hR
        have hT := s_twin g a b[k] ha
        have ih := ih hlt
        rw [catR_succ Dx (cL a) hlt] at ih
        have hX : (catR Dx ((b.take k).flatMap (cL a))).length ≤ 3000000 := by
          have := take_len (cL_len a) b k
          rw [catR_eq, List.length_append]
          omega
        generalize catR Dx ((b.take k).flatMap (cL a)) = X at *
        have hfl := flatR_length Lnt.cells 14 Lnt.cells_length X
        cases hF : twF a b[k] with
        | none =>
          have hq := hT.1 hF
          rw [show cL a b[k] = [] by unfold cL; rw [hF], List.append_nil] at ih
          repeat' ((conv => whnf); first
          | refine Br.tt ?_
          | refine Br.ff ?_
          | refine Need.w ?_
          | refine Wr.w ?_
          | refine Cmp.t ?_
          | refine Cmp.f ?_
          | refine Rem.w ?_
          | refine Quo.w ?_
          | refine PickV.now rfl ?_
          | refine Pick.now rfl ?_
          | refine Chk.mk rfl ?_
          | refine PickW.w rfl ?_
            | (refine PickW.rec Rqt.cells_length k rfl hlt ?_)
            | (refine CallI.of hq ?_)
            | (refine LoopW.to ih rfl rfl))
        | some o =>
          have hq := hT.2 o hF
          by_cases he : o = b[k]
          · rw [show cL a b[k] = [] by unfold cL; rw [hF]; exact if_pos he, List.append_nil] at ih
            have hp : o.nm = b[k].nm ∧ o.ca = b[k].ca ∧ o.ki = b[k].ki ∧ o.te = b[k].te ∧ o.pa = b[k].pa ∧ o.li = b[k].li ∧ o.fr = b[k].fr ∧ o.to = b[k].to ∧ o.da = b[k].da ∧ o.mi = b[k].mi ∧ o.se = b[k].se ∧ o.si = b[k].si ∧ o.no = b[k].no := by
              rw [he]
              exact ⟨rfl, rfl, rfl, rfl, rfl, rfl, rfl, rfl, rfl, rfl, rfl, rfl, rfl⟩
            repeat' ((conv => whnf); first
            | refine Br.tt ?_
            | refine Br.ff ?_
            | refine Need.w ?_
            | refine Wr.w ?_
            | refine Cmp.t ?_
            | refine Cmp.f ?_
            | refine Rem.w ?_
            | refine Quo.w ?_
            | refine PickV.now rfl ?_
            | refine Pick.now rfl ?_
            | refine Chk.mk rfl ?_
            | refine PickW.w rfl ?_
              | (refine PickW.rec Rqt.cells_length k rfl hlt ?_)
              | (refine CallI.of hq ?_)
              | (refine Cmp.tt hp ?_)
              | (refine LoopW.to ih rfl rfl))
          · rw [show cL a b[k] = [⟨[67], b[k]⟩, ⟨[82], o⟩] by unfold cL; rw [hF]; exact if_neg he, List.flatMap_append, List.length_append] at ih
            repeat' ((conv => whnf); first
            | refine Br.tt ?_
            | refine Br.ff ?_
            | refine Need.w ?_
            | refine Wr.w ?_
            | refine Cmp.t ?_
            | refine Cmp.f ?_
            | refine Rem.w ?_
            | refine Quo.w ?_
            | refine PickV.now rfl ?_
            | refine Pick.now rfl ?_
            | refine Chk.mk rfl ?_
            | refine PickW.w rfl ?_
              | (refine PickW.rec Rqt.cells_length k rfl hlt ?_)
              | (refine CallI.of hq ?_)
              | (refine Cmp.ff (fun h => he (rq_ext h)) ?_)
              | (refine Need.mk (by simp only [List.length_cons, List.length_nil]; omega) ?_)
              | (refine LoopW.to ih rfl rfl))
      · obtain rfl : k = b.length := by omega
        clear ih
        rw [List.take_length]
        have hP : (Dx ++ b.flatMap (cL a)).length ≤ 3000000 := by
          have := one_len 2 (cL_len a) b
          rw [List.length_append]
          omega
        rw [catR_eq]
        generalize Dx ++ b.flatMap (cL a) = Px at *
        repeat' ((conv => whnf); first
        | refine Br.tt ?_
        | refine Br.ff ?_
        | refine Need.w ?_
        | refine Wr.w ?_
        | refine Cmp.t ?_
        | refine Cmp.f ?_
        | refine Rem.w ?_
        | refine Quo.w ?_
        | refine PickV.now rfl ?_
        | refine Pick.now rfl ?_
        | refine Chk.mk rfl ?_
        | refine PickW.w rfl ?_
          | (refine In.enter g.lim rfl code_message_filtered_api_Request_message_Line ?_))
        refine LoopW.to (LoopW.up g (fun k => [(1, .fn n_message_Changed_3 [] [.ptr ⟨0, 7, 0⟩ 0 0, .ptr ⟨0, 2, 0⟩ 0 0]), (5, .ref ⟨1, 5, 0⟩ 0 ((a.take k).flatMap (nL b)).length ((a.take k).flatMap (nL b)).length), (10, LQ a), (11, I a.length), (12, I k)]) (fun k => [(⟨0, 2, 0⟩, .cells ty_Lapi_Request [LQ b]), (⟨0, 3, 0⟩, .cells ty_Lapi_Request [LQ a]), (⟨0, 4, 0⟩, .row false ty_message_Line 14 0 []), (⟨0, 7, 0⟩, .cells ty_func_Lapi_Request_api_Request_api_Request_bool [.fn n_message_Changed_1 [] []]), (⟨0, 24, 0⟩, .row false ty_message_Line 14 Px.length (Px.flatMap Lnt.cells)), (⟨1, 4, 0⟩, .row false ty_message_Line 14 0 []), (⟨1, 5, 0⟩, .row false ty_message_Line 14 ((a.take k).flatMap (nL b)).length (((a.take k).flatMap (nL b)).flatMap Lnt.cells))]) a.length (fun k hk ih => ?_) 0 (Nat.zero_le _)) rfl rfl
        by_cases hlt : k < a.length
        · clear hR
          have hT := s_twin g b a[k] hb
          have ih := ih hlt
          rw [fm_take (nL b) a k hlt] at ih
          have hX := take_len (nL_len b) a k
          generalize (a.take k).flatMap (nL b) = X at *
          have hfl := flatR_length Lnt.cells 14 Lnt.cells_length X
          cases hF : twF b a[k] with
          | none =>
            have hq := hT.1 hF
            rw [show nL b a[k] = [⟨[78], a[k]⟩] by unfold nL; rw [hF], List.flatMap_append, List.length_append] at ih
            repeat' ((conv => whnf); first
            | refine Br.tt ?_
            | refine Br.ff ?_
            | refine Need.w ?_
            | refine Wr.w ?_
            | refine Cmp.t ?_
            | refine Cmp.f ?_
            | refine Rem.w ?_
            | refine Quo.w ?_
            | refine PickV.now rfl ?_
            | refine Pick.now rfl ?_
            | refine Chk.mk rfl ?_
            | refine PickW.w rfl ?_
              | (refine PickW.rec Rqt.cells_length k rfl hlt ?_)
              | (refine In.enter g.lim rfl code_message_Changed_3 ?_)
              | (refine CallI.of hq ?_)
              | (refine Need.mk (by simp only [List.length_cons, List.length_nil]; omega) ?_)
              | (refine LoopW.to ih rfl rfl))
          | some o =>
            have hq := hT.2 o hF
            rw [show nL b a[k] = [] by unfold nL; rw [hF], List.append_nil] at ih
            repeat' ((conv => whnf); first
            | refine Br.tt ?_
            | refine Br.ff ?_
            | refine Need.w ?_
            | refine Wr.w ?_
            | refine Cmp.t ?_
            | refine Cmp.f ?_
            | refine Rem.w ?_
            | refine Quo.w ?_
            | refine PickV.now rfl ?_
            | refine Pick.now rfl ?_
            | refine Chk.mk rfl ?_
            | refine PickW.w rfl ?_
              | (refine PickW.rec Rqt.cells_length k rfl hlt ?_)
              | (refine In.enter g.lim rfl code_message_Changed_3 ?_)
              | (refine CallI.of hq ?_)
              | (refine LoopW.to ih rfl rfl))
        · obtain rfl : k = a.length := by omega
          clear ih
          rw [List.take_length]
          have hN := one_len 1 (nL_len b) a
          generalize a.flatMap (nL b) = Nx at *
          have f1 := flatR_length Lnt.cells 14 Lnt.cells_length Px
          have f2 := flatR_length Lnt.cells 14 Lnt.cells_length Nx
          rw [List.length_append] at hR
          by_cases hn : 64 < Px.length + Nx.length
          · rw [if_pos hn] at hR
            rw [← hR]
            repeat' ((conv => whnf); first
            | refine Br.tt ?_
            | refine Br.ff ?_
            | refine Need.w ?_
            | refine Wr.w ?_
            | refine Cmp.t ?_
            | refine Cmp.f ?_
            | refine Rem.w ?_
            | refine Quo.w ?_
            | refine PickV.now rfl ?_
            | refine Pick.now rfl ?_
            | refine Chk.mk rfl ?_
            | refine PickW.w rfl ?_
              | (rw [if_pos (⟨rfl, rfl⟩ : _ ∧ _)])
              | (refine Need.mk ⟨rfl, rfl, rfl, rfl, rfl, f2, by show (Px.length + Nx.length) * 168 ≤ _; omega, by omega⟩ ?_)
              | (refine Ret.mk rfl))
          · rw [if_neg hn] at hR
            rw [← hR]
            repeat' ((conv => whnf); first
            | refine Br.tt ?_
            | refine Br.ff ?_
            | refine Need.w ?_
            | refine Wr.w ?_
            | refine Cmp.t ?_
            | refine Cmp.f ?_
            | refine Rem.w ?_
            | refine Quo.w ?_
            | refine PickV.now rfl ?_
            | refine Pick.now rfl ?_
            | refine Chk.mk rfl ?_
            | refine PickW.w rfl ?_
              | (rw [if_pos (⟨rfl, rfl⟩ : _ ∧ _)])
              | (refine Need.mk ⟨rfl, rfl, rfl, rfl, rfl, f2, by show (Px.length + Nx.length) * 168 ≤ _; omega, by omega⟩ ?_)
              | (refine Ret.mk ?_))
            show _ = V.tup [V.d (.list (Px ++ Nx).length ((Px ++ Nx).flatMap Lnt.cells)), I 0]
            rw [List.flatMap_append, List.length_append]
end
end Go.Proofs.YtgpgcadcpogcbaaGreatDoor.Co
