
/-
  Messages: the parts of a text between blanks.
-/
import Derived.Test.YtgpgcadcpogcbaaGreatDoorMsReq
import Derived.Test.YtgpgcadcpogcbaaGreatDoorPlSplit
namespace Go.Proofs.YtgpgcadcpogcbaaGreatDoor.Co
open Go Go.Evl
abbrev LS (l : List (List UInt8)) : V := .d (.list l.length (l.map D.str))
theorem drop_eq_win {s : List UInt8} {f i : Nat} (h : f ≤ i) : s.drop f = win s f (i - f) ++ s.drop i := by
  unfold win
  have := (List.take_append_drop (i - f) (s.drop f)).symm
  rwa [List.drop_drop, Nat.add_sub_cancel' h] at this
theorem mem_win {s : List UInt8} {b : UInt8} {f i : Nat} (h : b ∈ win s f (i - f)) : ∃ j, f ≤ j ∧ j < i ∧ j < s.length ∧ s.getD j 0 = b := by
  unfold win at h
  obtain ⟨k, hk, rfl⟩ := List.getElem_of_mem h
  simp only [List.length_take, List.length_drop] at hk
  refine ⟨f + k, by omega, by omega, by omega, ?_⟩
  simp [List.getD, show f + k < s.length by omega]
section
variable {E : Oracle} (g : Good E)
include g
theorem s_Split (s : List UInt8) (hs : s.length ≤ 1000000) : Fc E n_strings_Split [S s, S [32]] (LS (parts 32 s)) := by
  refine Fc.extern g.lim (x := splitX) rfl (v := LS (parts 32 s)) (m' := []) ?_ rfl
  simp only [splitX, splitD_parts]
  rw [if_pos ⟨hs, by simp⟩]
set_option maxHeartbeats 4000000 in
theorem r_split (s : List UInt8) (hs : s.length ≤ 1000000) : Fc E n_ref02_split [S s] (LS (parts 32 s)) := by
  refine g.fn code_ref02_split rfl ?_
  repeat' ((conv => whnf); first
  | refine Br.tt ?_
  | refine Br.ff ?_
  | refine Need.w ?_
  | refine Wr.w ?_
  | refine Cmp.t ?_
  | refine Cmp.f ?_
  | refine Rem.w ?_
  | refine Quo.w ?_
  | refine PickV.now rfl ?_
  | refine Pick.now rfl ?_
  | refine Chk.mk rfl ?_
  | refine PickW.w rfl ?_)
  refine LoopW.to (LoopW.by (σ := Nat × List (List UInt8) × Nat) g
    (fun x => x.1 ≤ s.length + 1 ∧ x.2.1.length ≤ x.1 ∧ (x.1 ≤ s.length → x.2.2 ≤ x.1 ∧ parts 32 s = x.2.1 ++ parts 32 (s.drop x.2.2) ∧ ∀ j, x.2.2 ≤ j → j < x.1 → s.getD j 0 ≠ 32) ∧ (x.1 = s.length + 1 → parts 32 s = x.2.1))
    (fun x => [(0, S s), (3, .ref ⟨0, 3, 0⟩ 0 x.2.1.length x.2.1.length), (4, I x.2.2), (5, I x.1)])
    (fun x => [(⟨0, 2, 0⟩, .row false ty_string 1 0 []), (⟨0, 3, 0⟩, .row false ty_string 1 x.2.1.length (x.2.1.map D.str))])
    (fun x => s.length + 1 - x.1) ?_ (0, [], 0) ⟨by omega, by simp, fun _ => ⟨by simp, by simp, fun j _ h => absurd h (Nat.not_lt_zero _)⟩, fun h => by simp at h⟩) rfl rfl
  rintro ⟨i, dn, f⟩ ⟨h1, h2, h3, h4⟩ ih
  simp only at h1 h2 h3 h4 ih
  dsimp only
  have hml : (dn.map D.str).length = dn.length := List.length_map _
  by_cases hi : i ≤ s.length
  · obtain ⟨hf, hp, hn⟩ := h3 hi
    clear h3 h4
    have hnw : (32 : UInt8) ∉ win s f (i - f) := fun hm => by
      obtain ⟨j, j1, j2, _, j4⟩ := mem_win hm
      exact hn j j1 j2 j4
    have hd := drop_eq_win (s := s) hf
    by_cases he : i = s.length
    · have hlast : parts 32 s = dn ++ [win s f (i - f)] := by
        rw [hp, hd, List.drop_eq_nil_of_le (by omega), List.append_nil, parts_word 32 _ hnw]
      have ih := ih (i + 1, dn ++ [win s f (i - f)], i + 1) ⟨by simp only; omega, by simp only [List.length_append, List.length_cons, List.length_nil]; omega, fun h => by simp only at h; omega, fun _ => hlast⟩ (by simp only; omega)
      simp only [List.length_append, List.length_cons, List.length_nil, List.map_append, List.map_cons, List.map_nil] at ih
      repeat' ((conv => whnf); first
      | refine Br.tt ?_
      | refine Br.ff ?_
      | refine Need.w ?_
      | refine Wr.w ?_
      | refine Cmp.t ?_
      | refine Cmp.f ?_
      | refine Rem.w ?_
      | refine Quo.w ?_
      | refine PickV.now rfl ?_
      | refine Pick.now rfl ?_
      | refine Chk.mk rfl ?_
      | refine PickW.w rfl ?_
        | (refine Bounds.mk (by omega) ?_)
        | (refine Need.mk (by simp only [List.length_cons, List.length_nil]; omega) ?_)
        | (refine LoopW.to ih rfl rfl))
    · have hlt : i < s.length := by omega
      have hb := s.getD i 0 |>.toNat_lt
      by_cases hc : s.getD i 0 = 32
      · have hcons : s.drop i = 32 :: s.drop (i + 1) := by
          rw [List.drop_eq_getElem_cons hlt]
          have : s[i] = 32 := by simpa [List.getD, hlt] using hc
          rw [this]
        have hnext : parts 32 s = (dn ++ [win s f (i - f)]) ++ parts 32 (s.drop (i + 1)) := by
          rw [hp, hd, hcons, parts_append 32 _ _ hnw]
          simp
        have hc' : (s.getD i 0).toNat = 32 := by rw [hc]; rfl
        have ih := ih (i + 1, dn ++ [win s f (i - f)], i + 1) ⟨by simp only; omega, by simp only [List.length_append, List.length_cons, List.length_nil]; omega, fun _ => ⟨by simp only; omega, hnext, fun j j1 j2 => by simp only at j1 j2; omega⟩, fun h => by simp only at h; omega⟩ (by simp only; omega)
        simp only [List.length_append, List.length_cons, List.length_nil, List.map_append, List.map_cons, List.map_nil] at ih
        repeat' ((conv => whnf); first
        | refine Br.tt ?_
        | refine Br.ff ?_
        | refine Need.w ?_
        | refine Wr.w ?_
        | refine Cmp.t ?_
        | refine Cmp.f ?_
        | refine Rem.w ?_
        | refine Quo.w ?_
        | refine PickV.now rfl ?_
        | refine Pick.now rfl ?_
        | refine Chk.mk rfl ?_
        | refine PickW.w rfl ?_
          | (refine PickB.at i (by omega) hlt ?_)
          | (refine Bounds.mk (by omega) ?_)
          | (refine Need.mk (by simp only [List.length_cons, List.length_nil]; omega) ?_)
          | (refine LoopW.to ih rfl rfl))
      · have hc' : (s.getD i 0).toNat ≠ 32 := fun e => hc (UInt8.toNat_inj.1 e)
        have ih := ih (i + 1, dn, f) ⟨by simp only; omega, by simp only; omega, fun _ => ⟨by simp only; omega, hp, fun j j1 j2 => by
          simp only at j2
          by_cases e : j = i
          · subst e; exact hc
          · exact hn j j1 (by omega)⟩, fun h => by simp only at h; omega⟩ (by simp only; omega)
        simp only at ih
        repeat' ((conv => whnf); first
        | refine Br.tt ?_
        | refine Br.ff ?_
        | refine Need.w ?_
        | refine Wr.w ?_
        | refine Cmp.t ?_
        | refine Cmp.f ?_
        | refine Rem.w ?_
        | refine Quo.w ?_
        | refine PickV.now rfl ?_
        | refine Pick.now rfl ?_
        | refine Chk.mk rfl ?_
        | refine PickW.w rfl ?_
          | (refine PickB.at i (by omega) hlt ?_)
          | (refine LoopW.to ih rfl rfl))
  · have hi' : i = s.length + 1 := by omega
    rw [h4 hi']
    repeat' ((conv => whnf); first
    | refine Br.tt ?_
    | refine Br.ff ?_
    | refine Need.w ?_
    | refine Wr.w ?_
    | refine Cmp.t ?_
    | refine Cmp.f ?_
    | refine Rem.w ?_
    | refine Quo.w ?_
    | refine PickV.now rfl ?_
    | refine Pick.now rfl ?_
    | refine Chk.mk rfl ?_
    | refine PickW.w rfl ?_
      | (refine Ret.mk ?_))
    rw [if_pos ⟨rfl, rfl⟩]
end
end Go.Proofs.YtgpgcadcpogcbaaGreatDoor.Co
