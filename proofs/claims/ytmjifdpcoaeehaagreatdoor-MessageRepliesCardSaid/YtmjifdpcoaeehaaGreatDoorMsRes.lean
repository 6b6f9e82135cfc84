
/-
  Messages: Results, by the program and by the reference; results held against each other.
-/
import Derived.Test.YtmjifdpcoaeehaaGreatDoorMsChl
import Derived.Test.YtmjifdpcoaeehaaGreatDoorMsKey
namespace Go.Proofs.YtmjifdpcoaeehaaGreatDoor.Co
open Go Go.Evl
structure Rst where
  nm : List UInt8
  gr : Bool
  mi : Int
def Rst.cells (r : Rst) : List D := [.str r.nm, .bool r.gr, DI r.mi]
theorem Rst.cells_length (r : Rst) : r.cells.length = 3 := rfl
abbrev LR (rs : List Rst) : V := .d (.list rs.length (rs.flatMap Rst.cells))
def resOf (l : Lnt) : Rst := if l.ac = [75] ∨ l.ac = [79] then ⟨l.rq.nm, true, l.rq.mi⟩ else ⟨l.rq.nm, false, 0⟩
def nmsL (ls : List Lnt) : List (List UInt8) := ls.map (·.rq.nm)
def DupL (ls : List Lnt) : Prop := ∃ (k : Nat) (h : k < ls.length), ls[k].rq.nm ∈ nmsL (ls.take k)
theorem nmsL_succ {ls : List Lnt} {k : Nat} (h : k < ls.length) : nmsL (ls.take (k + 1)) = nmsL (ls.take k) ++ [ls[k].rq.nm] := by
  unfold nmsL
  rw [List.take_add_one, List.getElem?_eq_getElem h, List.map_append]
  rfl
def chkRs (m : Mst) : Int := firstI [chkMs m, if m.ki = ANS then 0 else 13]
theorem lnE_kind {kind : List UInt8} {p : Option Lnt} {x : Lnt} (h : lnE kind p x = 0) : actK x.ac = kind := by
  unfold lnE at h
  rw [firstI_zero] at h
  simp only [List.mem_cons, List.not_mem_nil, or_false, forall_eq_or_imp, forall_eq] at h
  have h2 := h.2.1
  split at h2
  · assumption
  · cases h2
theorem chkLs_kind {kind : List UInt8} : ∀ (ls : List Lnt) (p : Option Lnt) (i : Nat), (chkLs kind p i ls).2 = 0 → ∀ x ∈ ls, actK x.ac = kind
  | [], _, _, _ => by simp
  | x :: r, p, i, h => by
    simp only [chkLs] at h
    split at h
    · rename_i hz
      intro y hy
      rcases List.mem_cons.1 hy with rfl | hy
      · exact lnE_kind hz
      · exact chkLs_kind r _ _ h y hy
    · rename_i hz; exact absurd h hz
theorem ans_act {s : List UInt8} (h : actK s = ANS) : s = [75] ∨ s = [79] ∨ s = [85] ∨ s = [88] := by
  unfold actK at h
  split at h
  · cases h
  · split at h
    · rename_i hr
      simpa only [repB, repL, decide_eq_true_eq, List.mem_cons, List.not_mem_nil, or_false] using hr
    · cases h
section
variable {E : Oracle} (g : Good E)
include g
set_option maxRecDepth 100000
set_option maxHeartbeats 16000000 in
theorem s_Results (m : Mst) (hl : m.ls.length ≤ 1000000) :
    (chkRs m ≠ 0 → Fc E n_message_Results [Msv m] (.tup [LR [], I (chkRs m)])) ∧
    (chkRs m = 0 → DupL m.ls → Fc E n_message_Results [Msv m] (.tup [LR [], I 9])) ∧
    (chkRs m = 0 → ¬ DupL m.ls → Fc E n_message_Results [Msv m] (.tup [LR (m.ls.map resOf), I 0])) := by
  have h1 := s_CheckMessage g m hl
  refine ⟨fun hz => ?_, ?_⟩
  · refine g.fn code_message_Results rfl ?_
    unfold chkRs at hz ⊢
    by_cases hk : m.ki = ANS
    · rw [if_pos hk] at hz ⊢
      repeat' ((conv => whnf); first
      | refine Br.tt ?_
      | refine Br.ff ?_
      | refine Need.w ?_
      | refine Wr.w ?_
      | refine Cmp.t ?_
      | refine Cmp.f ?_
      | refine Rem.w ?_
      | refine Quo.w ?_
      | refine PickV.now rfl ?_
      | refine Pick.now rfl ?_
      | refine Chk.mk rfl ?_
      | refine PickW.w rfl ?_
        | (apply CallI.of; assumption)
        | (refine Cmp.tt hk ?_)
        | (refine CallI.of (s_mwhen g _ _) ?_)
        | (refine CallI.of (s_mfirst2 g _ _) ?_)
        | (refine Cmp.ff hz ?_)
        | (refine Ret.mk rfl))
    · rw [if_neg hk] at hz ⊢
      repeat' ((conv => whnf); first
      | refine Br.tt ?_
      | refine Br.ff ?_
      | refine Need.w ?_
      | refine Wr.w ?_
      | refine Cmp.t ?_
      | refine Cmp.f ?_
      | refine Rem.w ?_
      | refine Quo.w ?_
      | refine PickV.now rfl ?_
      | refine Pick.now rfl ?_
      | refine Chk.mk rfl ?_
      | refine PickW.w rfl ?_
        | (apply CallI.of; assumption)
        | (refine Cmp.ff hk ?_)
        | (refine CallI.of (s_mwhen g _ _) ?_)
        | (refine CallI.of (s_mfirst2 g _ _) ?_)
        | (refine Cmp.ff hz ?_)
        | (refine Ret.mk rfl))
  · have main : ∀ R : V, chkRs m = 0 → (DupL m.ls → .tup [LR [], I 9] = R) → (¬ DupL m.ls → .tup [LR (m.ls.map resOf), I 0] = R) → Fc E n_message_Results [Msv m] R := by
      intro R hz r1 r2
      unfold chkRs at hz
      have hk : m.ki = ANS := Decidable.byContradiction fun hn => by
        rw [if_neg hn, firstI_zero] at hz
        exact absurd (hz 13 (by simp)) (by decide)
      rw [if_pos hk] at hz
      have hm : chkMs m = 0 := (firstI_zero _).1 hz _ (by simp)
      have hkd := chkLs_kind _ _ _ (chkMs_ok.1 hm).ok
      rw [hk] at hkd
      rw [hm] at h1
      clear hz
      refine g.fn code_message_Results rfl ?_
      repeat' ((conv => whnf); first
      | refine Br.tt ?_
      | refine Br.ff ?_
      | refine Need.w ?_
      | refine Wr.w ?_
      | refine Cmp.t ?_
      | refine Cmp.f ?_
      | refine Rem.w ?_
      | refine Quo.w ?_
      | refine PickV.now rfl ?_
      | refine Pick.now rfl ?_
      | refine Chk.mk rfl ?_
      | refine PickW.w rfl ?_
        | (apply CallI.of; assumption)
        | (refine Cmp.tt hk ?_)
        | (refine CallI.of (s_mwhen g _ _) ?_)
        | (refine CallI.of (s_mfirst2 g _ _) ?_))
      refine LoopW.to (LoopW.upP g (fun k => [(1, .ptr ⟨0, 1, 0⟩ 0 0), (5, .mp ⟨0, 19, 0⟩), (21, LL m.ls), (22, I m.ls.length), (23, I k)]) (fun k => [(⟨0, 1, 0⟩, .cells ty_message_Message [S m.ki, S m.ai, S m.se, I m.da, LL m.ls]), (⟨0, 19, 0⟩, .map (keysL (nmsL (m.ls.take k))))]) (fun k => ∀ j (h : j < m.ls.length), j < k → m.ls[j].rq.nm ∉ nmsL (m.ls.take j)) m.ls.length (fun k hk ih0 ih => ?_) 0 (Nat.zero_le _) (fun j _ hj => absurd hj (Nat.not_lt_zero _))) rfl rfl
      by_cases hlt : k < m.ls.length
      · have hf := find_keys m.ls[k].rq.nm (nmsL (m.ls.take k))
        by_cases hd : m.ls[k].rq.nm ∈ nmsL (m.ls.take k)
        · rw [if_pos hd] at hf
          have r1 := r1 ⟨k, hlt, hd⟩
          rw [← r1]
          repeat' ((conv => whnf); first
          | refine Br.tt ?_
          | refine Br.ff ?_
          | refine Need.w ?_
          | refine Wr.w ?_
          | refine Cmp.t ?_
          | refine Cmp.f ?_
          | refine Rem.w ?_
          | refine Quo.w ?_
          | refine PickV.now rfl ?_
          | refine Pick.now rfl ?_
          | refine Chk.mk rfl ?_
          | refine PickW.w rfl ?_
            | (refine PickW.rec Lnt.cells_length k rfl hlt ?_)
            | (refine Find.mk ⟨_, hf, ?_⟩)
            | (refine Ret.mk rfl))
        · rw [if_neg hd] at hf
          have hs := set_keys m.ls[k].rq.nm (nmsL (m.ls.take k)) hd
          rw [← nmsL_succ hlt] at hs
          have ih := ih hlt fun j h hj => by
            by_cases e : j = k
            · subst e; exact hd
            · exact ih0 j h (by omega)
          clear r1 r2 ih0
          repeat' ((conv => whnf); first
          | refine Br.tt ?_
          | refine Br.ff ?_
          | refine Need.w ?_
          | refine Wr.w ?_
          | refine Cmp.t ?_
          | refine Cmp.f ?_
          | refine Rem.w ?_
          | refine Quo.w ?_
          | refine PickV.now rfl ?_
          | refine Pick.now rfl ?_
          | refine Chk.mk rfl ?_
          | refine PickW.w rfl ?_
            | (refine PickW.rec Lnt.cells_length k rfl hlt ?_)
            | (refine Find.mk ⟨_, hf, ?_⟩)
            | (refine SetW.mk ⟨_, hs, ?_⟩)
            | (simp only [Evl.idsAll, Evl.idsO, ids_keys, List.nil_append])
            | (refine LoopW.to ih rfl rfl))
      · obtain rfl : k = m.ls.length := by omega
        have r2 := r2 fun ⟨k, h, hd⟩ => ih0 k h h hd
        rw [← r2]
        clear ih
        repeat' ((conv => whnf); first
        | refine Br.tt ?_
        | refine Br.ff ?_
        | refine Need.w ?_
        | refine Wr.w ?_
        | refine Cmp.t ?_
        | refine Cmp.f ?_
        | refine Rem.w ?_
        | refine Quo.w ?_
        | refine PickV.now rfl ?_
        | refine Pick.now rfl ?_
        | refine Chk.mk rfl ?_
        | refine PickW.w rfl ?_
          | (refine In.enter g.lim rfl code_message_filtered_message_Line_message_Result ?_))
        refine LoopW.to (LoopW.up g (fun k => [(1, .fn n_message_Results_1 [] []), (5, .ref ⟨1, 5, 0⟩ 0 k k), (10, LL m.ls), (11, I m.ls.length), (12, I k)]) (fun k => [(⟨0, 1, 0⟩, .cells ty_message_Message [S m.ki, S m.ai, S m.se, I m.da, LL m.ls]), (⟨0, 19, 0⟩, .map (keysL (nmsL (m.ls.take m.ls.length)))), (⟨1, 4, 0⟩, .row false ty_message_Result 3 0 []), (⟨1, 5, 0⟩, .row false ty_message_Result 3 k (((m.ls.take k).map resOf).flatMap Rst.cells))]) m.ls.length (fun k hk ih => ?_) 0 (Nat.zero_le _)) rfl rfl
        by_cases hlt : k < m.ls.length
        · have ih := ih hlt
          have hf : ((m.ls.take (k + 1)).map resOf).flatMap Rst.cells = ((m.ls.take k).map resOf).flatMap Rst.cells ++ (resOf m.ls[k]).cells := by
            rw [List.take_add_one, List.getElem?_eq_getElem hlt, List.map_append, List.flatMap_append]
            simp only [Option.toList_some, List.map_cons, List.map_nil, List.flatMap_cons, List.flatMap_nil, List.append_nil]
          rw [hf] at ih
          have hfl := flatR_length Rst.cells 3 Rst.cells_length ((m.ls.take k).map resOf)
          rw [List.length_map, List.length_take, Nat.min_eq_left (by omega)] at hfl
          have hac := ans_act (hkd m.ls[k] (List.getElem_mem hlt))
          generalize hx : m.ls[k] = x at *
          obtain ⟨ac, rq⟩ := x
          have hcell : m.ls[k].cells = Lnt.cells ⟨ac, rq⟩ := by rw [hx]
          rcases hac with rfl | rfl | rfl | rfl
          all_goals first
            | rw [show resOf ⟨[75], rq⟩ = ⟨rq.nm, true, rq.mi⟩ from if_pos (.inl rfl)] at ih
            | rw [show resOf ⟨[79], rq⟩ = ⟨rq.nm, true, rq.mi⟩ from if_pos (.inr rfl)] at ih
            | rw [show resOf ⟨[85], rq⟩ = ⟨rq.nm, false, 0⟩ from if_neg (show ¬ (([85] : List UInt8) = [75] ∨ ([85] : List UInt8) = [79]) by decide)] at ih
            | rw [show resOf ⟨[88], rq⟩ = ⟨rq.nm, false, 0⟩ from if_neg (show ¬ (([88] : List UInt8) = [75] ∨ ([88] : List UInt8) = [79]) by decide)] at ih
          all_goals repeat' ((conv => whnf); first
          | refine Br.tt ?_
          | refine Br.ff ?_
          | refine Need.w ?_
          | refine Wr.w ?_
          | refine Cmp.t ?_
          | refine Cmp.f ?_
          | refine Rem.w ?_
          | refine Quo.w ?_
          | refine PickV.now rfl ?_
          | refine Pick.now rfl ?_
          | refine Chk.mk rfl ?_
          | refine PickW.w rfl ?_
            | (refine PickW.rec Lnt.cells_length k rfl hlt ?_ <;> (try dsimp only) <;> (rw [hcell]))
            | (refine In.enter g.lim rfl code_message_Results_1 ?_)
            | (refine CallI.of (Fc.extern g.lim (x := containsX) rfl (v := B _) (m' := []) rfl rfl) ?_)
            | (simp only [Evl.idsAll, Evl.idsO, ids_keys, List.nil_append])
            | (refine Need.mk (by simp only [List.length_cons, List.length_nil]; omega) ?_)
            | (refine LoopW.to ih rfl rfl))
        · obtain rfl : k = m.ls.length := by omega
          repeat' ((conv => whnf); first
          | refine Br.tt ?_
          | refine Br.ff ?_
          | refine Need.w ?_
          | refine Wr.w ?_
          | refine Cmp.t ?_
          | refine Cmp.f ?_
          | refine Rem.w ?_
          | refine Quo.w ?_
          | refine PickV.now rfl ?_
          | refine Pick.now rfl ?_
          | refine Chk.mk rfl ?_
          | refine PickW.w rfl ?_
            | (refine Some'.row (by decide) rfl ?_)
            | (simp only [Evl.idsAll, Evl.idsO, ids_keys, List.nil_append])
            | (refine Ret.mk ?_))
          simp
    exact ⟨fun hz hd => main _ hz (fun _ => rfl) fun hn => absurd hd hn, fun hz hd => main _ hz (fun hn => absurd hn hd) fun _ => rfl⟩
set_option maxHeartbeats 4000000 in
theorem w_ownResults (rs : List Rst) (hl : rs.length ≤ 1000000) : Fc E n_law02_ownResults [LR rs] (LR rs) := by
  refine g.fn code_law02_ownResults rfl ?_
  repeat' ((conv => whnf); first
  | refine Br.tt ?_
  | refine Br.ff ?_
  | refine Need.w ?_
  | refine Wr.w ?_
  | refine Cmp.t ?_
  | refine Cmp.f ?_
  | refine Rem.w ?_
  | refine Quo.w ?_
  | refine PickV.now rfl ?_
  | refine Pick.now rfl ?_
  | refine Chk.mk rfl ?_
  | refine PickW.w rfl ?_)
  refine LoopW.to (LoopW.up g (fun k => [(3, .ref ⟨0, 3, 0⟩ 0 k k), (6, LR rs), (7, I rs.length), (8, I k)]) (fun k => [(⟨0, 2, 0⟩, .row false ty_turnroundref02_Result 3 0 []), (⟨0, 3, 0⟩, .row false ty_turnroundref02_Result 3 k ((rs.take k).flatMap Rst.cells))]) rs.length (fun k hk ih => ?_) 0 (Nat.zero_le _)) rfl rfl
  by_cases hlt : k < rs.length
  · have hf := flatR_take Rst.cells rs k hlt
    have ih := ih hlt
    rw [hf] at ih
    repeat' ((conv => whnf); first
    | refine Br.tt ?_
    | refine Br.ff ?_
    | refine Need.w ?_
    | refine Wr.w ?_
    | refine Cmp.t ?_
    | refine Cmp.f ?_
    | refine Rem.w ?_
    | refine Quo.w ?_
    | refine PickV.now rfl ?_
    | refine Pick.now rfl ?_
    | refine Chk.mk rfl ?_
    | refine PickW.w rfl ?_
      | (refine PickW.rec Rst.cells_length k rfl hlt ?_)
      | (refine Need.mk (by simp; omega) ?_)
      | (refine LoopW.to ih rfl rfl))
  · obtain rfl : k = rs.length := by omega
    rw [List.take_length]
    repeat' ((conv => whnf); first
    | refine Br.tt ?_
    | refine Br.ff ?_
    | refine Need.w ?_
    | refine Wr.w ?_
    | refine Cmp.t ?_
    | refine Cmp.f ?_
    | refine Rem.w ?_
    | refine Quo.w ?_
    | refine PickV.now rfl ?_
    | refine Pick.now rfl ?_
    | refine Chk.mk rfl ?_
    | refine PickW.w rfl ?_
      | (refine Ret.mk ?_))
    rw [if_pos ⟨rfl, rfl⟩]
theorem r_SameResults (rs : List Rst) (hl : rs.length ≤ 1000000) : Fc E n_ref02_SameResults [LR rs, LR rs] (B true) := by
  refine g.fn code_ref02_SameResults rfl ?_
  repeat' ((conv => whnf); first
  | refine Br.tt ?_
  | refine Br.ff ?_
  | refine Need.w ?_
  | refine Wr.w ?_
  | refine Cmp.t ?_
  | refine Cmp.f ?_
  | refine Rem.w ?_
  | refine Quo.w ?_
  | refine PickV.now rfl ?_
  | refine Pick.now rfl ?_
  | refine Chk.mk rfl ?_
  | refine PickW.w rfl ?_
    | (refine Cmp.tt rfl ?_))
  refine LoopW.to (LoopW.up g (fun k => [(0, LR rs), (1, LR rs), (5, I k)]) (fun _ => []) rs.length (fun k hk ih => ?_) 0 (Nat.zero_le _)) rfl rfl
  by_cases hlt : k < rs.length
  · have ih := ih hlt
    repeat' ((conv => whnf); first
    | refine Br.tt ?_
    | refine Br.ff ?_
    | refine Need.w ?_
    | refine Wr.w ?_
    | refine Cmp.t ?_
    | refine Cmp.f ?_
    | refine Rem.w ?_
    | refine Quo.w ?_
    | refine PickV.now rfl ?_
    | refine Pick.now rfl ?_
    | refine Chk.mk rfl ?_
    | refine PickW.w rfl ?_
      | (refine PickW.rec Rst.cells_length k rfl hlt ?_)
      | (refine Cmp.tt ⟨rfl, rfl, rfl⟩ ?_)
      | (refine LoopW.to ih rfl rfl))
  · repeat' ((conv => whnf); first
  | refine Br.tt ?_
  | refine Br.ff ?_
  | refine Need.w ?_
  | refine Wr.w ?_
  | refine Cmp.t ?_
  | refine Cmp.f ?_
  | refine Rem.w ?_
  | refine Quo.w ?_
  | refine PickV.now rfl ?_
  | refine Pick.now rfl ?_
  | refine Chk.mk rfl ?_
  | refine PickW.w rfl ?_
      | (refine Ret.mk rfl))
end
end Go.Proofs.YtmjifdpcoaeehaaGreatDoor.Co
