
/-
  Messages: what ParseMessage leans on: line feeds cut off, headers, the lines of a text.
-/
import Derived.Test.YtgpgcadcpogcbaaGreatDoorMsChl
import Derived.Test.YtgpgcadcpogcbaaGreatDoorMsReae
namespace Go.Proofs.YtgpgcadcpogcbaaGreatDoor.Co
open Go Go.Evl
theorem suffix_lf (s : List UInt8) : Lib.hasSuffix s [10] = wholeB s := by
  unfold Lib.hasSuffix wholeB
  rw [Bool.eq_iff_iff, List.isSuffixOf_iff_suffix, decide_eq_true_eq, List.getLast?_eq_some_iff]
  exact ⟨fun ⟨t, e⟩ => ⟨t, e.symm⟩, fun ⟨t, e⟩ => ⟨t, e.symm⟩⟩
theorem indexByte_lf : ∀ (a r : List UInt8), (10 : UInt8) ∉ a → Lib.indexByte (a ++ 10 :: r) 10 = a.length
  | [], _, _ => rfl
  | c :: a, r, h => by
    have hc : (c == 10) = false := beq_eq_false_iff_ne.2 fun e => h (by simp [e])
    have ih := indexByte_lf a r fun hm => h (by simp [hm])
    simp only [List.cons_append, Lib.indexByte, hc, ih, List.length_cons]
    rw [if_neg (by decide), if_neg (by simp)]
    omega
theorem indexByte_no : ∀ (a : List UInt8), (10 : UInt8) ∉ a → Lib.indexByte a 10 = -1
  | [], _ => rfl
  | c :: a, h => by
    have hc : (c == 10) = false := beq_eq_false_iff_ne.2 fun e => h (by simp [e])
    have ih := indexByte_no a fun hm => h (by simp [hm])
    simp only [Lib.indexByte, hc, ih]
    rfl
theorem endW_le (p : List UInt8) : (endW p).length ≤ p.length := by
  unfold endW
  split
  · simp
  · exact Nat.le_refl _
theorem endW_win {p : List UInt8} (h : wholeB p = true) : 1 ≤ p.length ∧ endW p = p.take (p.length - 1) := by
  have e := whole_eq h
  constructor
  · rw [e]; simp
  · unfold endW
    rw [if_pos h, List.dropLast_eq_take]
theorem headP_nw {p : List UInt8} (h : wholeB p = false) : headP p = none := by
  unfold headP
  split
  · rw [if_neg (by rw [h]; simp)]
  · rfl
theorem headP_len {p : List UInt8} (h : (parts 32 (endW p)).length ≠ 5) : headP p = none := by
  unfold headP
  split
  · rename_i e; rw [e] at h; exact absurd rfl h
  · rfl
theorem headP_five {p w0 w1 w2 w3 w4 : List UInt8} (h : parts 32 (endW p) = [w0, w1, w2, w3, w4]) : headP p = if wholeB p = true ∧ w0 = SLOTS ∧ msgB w1 = true ∧ numB w4 5 = true ∧ headE w2 w3 (valA 0 w4) = 0 then some ⟨w1, w2, w3, valA 0 w4, []⟩ else none := by
  unfold headP
  rw [h]
theorem list5 {l : List (List UInt8)} (h : l.length = 5) : ∃ a b c d e, l = [a, b, c, d, e] := by
  match l, h with
  | [a, b, c, d, e], _ => exact ⟨a, b, c, d, e, rfl⟩
section
variable {E : Oracle} (g : Good E)
include g
set_option maxRecDepth 100000
theorem s_CutLF (p : List UInt8) (hs : p.length ≤ 1000000) : Fc E n_strings_CutSuffix [S p, S [10]] (.tup [S (endW p), B (wholeB p)]) := by
  have h0 : Fc E n_internal_stringslite_HasSuffix [S p, S [10]] (B (wholeB p)) := Fc.extern g.lim (x := suffixX) rfl (v := B (wholeB p)) (m' := []) (by simp only [suffixX]; rw [if_pos hs, suffix_lf]) rfl
  have h1 : Fc E n_internal_stringslite_CutSuffix [S p, S [10]] (.tup [S (endW p), B (wholeB p)]) := by
    refine g.fn code_internal_stringslite_CutSuffix rfl ?_
    cases hw : wholeB p
    · rw [hw] at h0
      have e : endW p = p := by unfold endW; rw [hw]; rfl
      rw [e]
      repeat' ((conv => whnf); first
      | refine Br.tt ?_
      | refine Br.ff ?_
      | refine Need.w ?_
      | refine Wr.w ?_
      | refine Cmp.t ?_
      | refine Cmp.f ?_
      | refine Rem.w ?_
      | refine Quo.w ?_
      | refine PickV.now rfl ?_
      | refine Pick.now rfl ?_
      | refine Chk.mk rfl ?_
      | refine PickW.w rfl ?_
        | (apply CallI.of; assumption)
        | (refine Ret.mk rfl))
    · rw [hw] at h0
      obtain ⟨hl, e⟩ := endW_win hw
      have h10 : (([10] : List UInt8).length : Int) = 1 := rfl
      rw [e]
      repeat' ((conv => whnf); first
      | refine Br.tt ?_
      | refine Br.ff ?_
      | refine Need.w ?_
      | refine Wr.w ?_
      | refine Cmp.t ?_
      | refine Cmp.f ?_
      | refine Rem.w ?_
      | refine Quo.w ?_
      | refine PickV.now rfl ?_
      | refine Pick.now rfl ?_
      | refine Chk.mk rfl ?_
      | refine PickW.w rfl ?_
        | (apply CallI.of; assumption)
        | (refine Bounds.mk (by omega) ?_)
        | (refine Ret.mk ?_))
      simp [win]
  refine g.fn code_strings_CutSuffix rfl ?_
  repeat' ((conv => whnf); first
  | refine Br.tt ?_
  | refine Br.ff ?_
  | refine Need.w ?_
  | refine Wr.w ?_
  | refine Cmp.t ?_
  | refine Cmp.f ?_
  | refine Rem.w ?_
  | refine Quo.w ?_
  | refine PickV.now rfl ?_
  | refine Pick.now rfl ?_
  | refine Chk.mk rfl ?_
  | refine PickW.w rfl ?_
    | (apply CallI.of; assumption)
    | (refine Ret.mk rfl))
theorem s_IndexLF (s : List UInt8) : Fc E n_strings_IndexByte [S s, .d (.int .u8 10)] (I (Lib.indexByte s 10)) := by
  have h0 : Fc E n_internal_stringslite_IndexByte [S s, .d (.int .u8 10)] (I (Lib.indexByte s 10)) := Fc.extern g.lim (x := indexByteX) rfl (v := I (Lib.indexByte s 10)) (m' := []) rfl rfl
  refine g.fn code_strings_IndexByte rfl ?_
  repeat' ((conv => whnf); first
  | refine Br.tt ?_
  | refine Br.ff ?_
  | refine Need.w ?_
  | refine Wr.w ?_
  | refine Cmp.t ?_
  | refine Cmp.f ?_
  | refine Rem.w ?_
  | refine Quo.w ?_
  | refine PickV.now rfl ?_
  | refine Pick.now rfl ?_
  | refine Chk.mk rfl ?_
  | refine PickW.w rfl ?_
    | (apply CallI.of; assumption)
    | (refine Ret.mk rfl))
theorem s_lineP (s : List UInt8) (hs : s.length ≤ 1000000) : ∃ i : Int, Fc E n_message_ParseLine [S s] (.tup [Lnv (lineP s).1, I i, I (lineP s).2]) := by
  unfold lineP
  cases hw : wList (parts 32 s) with
  | none => exact ⟨_, s_ParseLine_no g s hs (wList_none hw)⟩
  | some w =>
    have h := s_ParseLine14 g s hs w (wList_some hw)
    unfold resW resF at h
    simp only
    unfold lineW
    split at h
    · rename_i hf
      rw [if_pos hf]
      split at h
      · rename_i hc; rw [if_pos hc]; exact ⟨_, h⟩
      · rename_i hc; rw [if_neg hc]; exact ⟨_, h⟩
    · rename_i hf
      rw [if_neg hf]
      exact ⟨_, h⟩
theorem s_texts (s : List UInt8) : In E 0 n_message_texts [S s] [] fun v m' => v = .fn n_message_texts_1 [] [.ptr ⟨0, 1, 0⟩ 0 0] ∧ m' = [(⟨0, 1, 0⟩, .cells ty_string [S s])] := by
  refine In.enter g.lim rfl code_message_texts ?_
  repeat' ((conv => whnf); first
  | refine Br.tt ?_
  | refine Br.ff ?_
  | refine Need.w ?_
  | refine Wr.w ?_
  | refine Cmp.t ?_
  | refine Cmp.f ?_
  | refine Rem.w ?_
  | refine Quo.w ?_
  | refine PickV.now rfl ?_
  | refine Pick.now rfl ?_
  | refine Chk.mk rfl ?_
  | refine PickW.w rfl ?_
    | (exact ⟨rfl, rfl⟩))
theorem CallS.texts {s : List UInt8} {cx : Cx} {slot : Nat} {m : Mem} {K : V → Mem → Prop} (hf : Go.Evl.freeK cx.lv slot m = 0) (h : K (.fn n_message_texts_1 [] [.ptr ⟨cx.lv, slot, 0⟩ 0 0]) (m ++ [(⟨cx.lv, slot, 0⟩, .cells ty_string [S s])])) : CallS E n_message_texts [S s] cx slot m K := by
  obtain ⟨v, m', h1, rfl, rfl⟩ := (s_texts g s).got
  refine ⟨_, _, (.fn n_message_texts_1 [] [.ptr ⟨cx.lv, slot, 0⟩ 0 0], m ++ [(⟨cx.lv, slot, 0⟩, .cells ty_string [S s])]), h1, ?_, h⟩
  unfold Go.Evl.settle
  rw [hf]
  rfl
def HeadV (v : V) (m' : Mem) (site : Nat) (h : Mst) (b : Bool) : Prop := v = .tup [.agg [S h.ki, S h.ai, S h.se, I h.da, .ref ⟨0, site, 0⟩ 0 0 0], B b] ∧ m' = [(⟨0, 2, 0⟩, .row false ty_message_Line 14 0 []), (⟨0, 2, 1⟩, .cells ty_message_Message [S h.ki, S h.ai, S h.se, I h.da, .ref ⟨0, site, 0⟩ 0 0 0]), (⟨0, site, 0⟩, .row false ty_message_Line 14 0 [])]
set_option maxHeartbeats 8000000 in
theorem s_head_none (p : List UInt8) (hs : p.length ≤ 1000000) (hn : headP p = none) : ∃ h : Mst, In E 0 n_message_head [S p] [] fun v m' => HeadV v m' 36 h false ∨ HeadV v m' 54 h false := by
  have hcut := s_CutLF g p hs
  have hsp := s_Split g (endW p) (Nat.le_trans (endW_le p) hs)
  cases hw : wholeB p
  · rw [hw] at hcut
    refine ⟨zeroM, In.enter g.lim rfl code_message_head ?_⟩
    repeat' ((conv => whnf); first
    | refine Br.tt ?_
    | refine Br.ff ?_
    | refine Need.w ?_
    | refine Wr.w ?_
    | refine Cmp.t ?_
    | refine Cmp.f ?_
    | refine Rem.w ?_
    | refine Quo.w ?_
    | refine PickV.now rfl ?_
    | refine Pick.now rfl ?_
    | refine Chk.mk rfl ?_
    | refine PickW.w rfl ?_
      | (apply CallI.of; assumption)
      | (refine Cmp.tt (by simp only [List.length_cons, List.length_nil]; omega) ?_)
      | (refine Cmp.ff (by simp only [List.length_cons, List.length_nil]; omega) ?_)
      | (exact .inl ⟨rfl, rfl⟩))
  · rw [hw] at hcut
    by_cases hl : (parts 32 (endW p)).length = 5
    · obtain ⟨w0, w1, w2, w3, w4, he⟩ := list5 hl
      rw [headP_five he, hw] at hn
      rw [he] at hsp
      by_cases h0 : w0 = SLOTS
      · have hm := s_isMessage g w1
        cases hm1 : msgB w1
        · rw [hm1] at hm
          refine ⟨zeroM, In.enter g.lim rfl code_message_head ?_⟩
          repeat' ((conv => whnf); first
          | refine Br.tt ?_
          | refine Br.ff ?_
          | refine Need.w ?_
          | refine Wr.w ?_
          | refine Cmp.t ?_
          | refine Cmp.f ?_
          | refine Rem.w ?_
          | refine Quo.w ?_
          | refine PickV.now rfl ?_
          | refine Pick.now rfl ?_
          | refine Chk.mk rfl ?_
          | refine PickW.w rfl ?_
            | (apply CallI.of; assumption)
            | (refine Cmp.tt (by simp only [List.length_cons, List.length_nil]; omega) ?_)
            | (refine Cmp.ff (by simp only [List.length_cons, List.length_nil]; omega) ?_)
            | (refine Cmp.tt h0 ?_)
            | (exact .inl ⟨rfl, rfl⟩))
        · rw [hm1] at hm
          have hnum := s_number g w4 5 (by omega)
          cases hn1 : numB w4 5
          · rw [hn1] at hnum
            refine ⟨⟨w1, w2, w3, 0, []⟩, In.enter g.lim rfl code_message_head ?_⟩
            repeat' ((conv => whnf); first
            | refine Br.tt ?_
            | refine Br.ff ?_
            | refine Need.w ?_
            | refine Wr.w ?_
            | refine Cmp.t ?_
            | refine Cmp.f ?_
            | refine Rem.w ?_
            | refine Quo.w ?_
            | refine PickV.now rfl ?_
            | refine Pick.now rfl ?_
            | refine Chk.mk rfl ?_
            | refine PickW.w rfl ?_
              | (apply CallI.of; assumption)
              | (refine Cmp.tt (by simp only [List.length_cons, List.length_nil]; omega) ?_)
              | (refine Cmp.ff (by simp only [List.length_cons, List.length_nil]; omega) ?_)
              | (refine Cmp.tt h0 ?_)
              | (exact .inr ⟨rfl, rfl⟩))
          · rw [hn1] at hnum
            have hd := s_checkHead g w2 w3 (valA 0 w4)
            have hz : headE w2 w3 (valA 0 w4) ≠ 0 := fun h => by
              rw [if_pos ⟨rfl, h0, hm1, hn1, h⟩] at hn
              cases hn
            refine ⟨⟨w1, w2, w3, valA 0 w4, []⟩, In.enter g.lim rfl code_message_head ?_⟩
            repeat' ((conv => whnf); first
            | refine Br.tt ?_
            | refine Br.ff ?_
            | refine Need.w ?_
            | refine Wr.w ?_
            | refine Cmp.t ?_
            | refine Cmp.f ?_
            | refine Rem.w ?_
            | refine Quo.w ?_
            | refine PickV.now rfl ?_
            | refine Pick.now rfl ?_
            | refine Chk.mk rfl ?_
            | refine PickW.w rfl ?_
              | (apply CallI.of; assumption)
              | (refine Cmp.tt (by simp only [List.length_cons, List.length_nil]; omega) ?_)
              | (refine Cmp.ff (by simp only [List.length_cons, List.length_nil]; omega) ?_)
              | (refine Cmp.tt h0 ?_)
              | (refine Cmp.ff hz ?_)
              | (exact .inr ⟨rfl, rfl⟩))
      · refine ⟨zeroM, In.enter g.lim rfl code_message_head ?_⟩
        repeat' ((conv => whnf); first
        | refine Br.tt ?_
        | refine Br.ff ?_
        | refine Need.w ?_
        | refine Wr.w ?_
        | refine Cmp.t ?_
        | refine Cmp.f ?_
        | refine Rem.w ?_
        | refine Quo.w ?_
        | refine PickV.now rfl ?_
        | refine Pick.now rfl ?_
        | refine Chk.mk rfl ?_
        | refine PickW.w rfl ?_
          | (apply CallI.of; assumption)
          | (refine Cmp.tt (by simp only [List.length_cons, List.length_nil]; omega) ?_)
          | (refine Cmp.ff (by simp only [List.length_cons, List.length_nil]; omega) ?_)
          | (refine Cmp.ff h0 ?_)
          | (exact .inl ⟨rfl, rfl⟩))
    · refine ⟨zeroM, In.enter g.lim rfl code_message_head ?_⟩
      repeat' ((conv => whnf); first
      | refine Br.tt ?_
      | refine Br.ff ?_
      | refine Need.w ?_
      | refine Wr.w ?_
      | refine Cmp.t ?_
      | refine Cmp.f ?_
      | refine Rem.w ?_
      | refine Quo.w ?_
      | refine PickV.now rfl ?_
      | refine Pick.now rfl ?_
      | refine Chk.mk rfl ?_
      | refine PickW.w rfl ?_
        | (apply CallI.of; assumption)
        | (refine Cmp.tt (by simp only [List.length_cons, List.length_nil]; omega) ?_)
        | (refine Cmp.ff (by simp only [List.length_cons, List.length_nil]; omega) ?_)
        | (exact .inl ⟨rfl, rfl⟩))
set_option maxHeartbeats 8000000 in
theorem s_head_some (p : List UInt8) (hs : p.length ≤ 1000000) (h : Mst) (hn : headP p = some h) : In E 0 n_message_head [S p] [] fun v m' => HeadV v m' 54 h true := by
  have hcut := s_CutLF g p hs
  have hsp := s_Split g (endW p) (Nat.le_trans (endW_le p) hs)
  have hl : (parts 32 (endW p)).length = 5 := Decidable.byContradiction fun hc => by rw [headP_len hc] at hn; cases hn
  obtain ⟨w0, w1, w2, w3, w4, he⟩ := list5 hl
  rw [headP_five he] at hn
  split at hn
  · rename_i hc
    obtain ⟨hw, h0, hm1, hn1, hz⟩ := hc
    obtain rfl := Option.some.inj hn
    rw [hw] at hcut
    rw [he] at hsp
    have hm := s_isMessage g w1
    rw [hm1] at hm
    have hnum := s_number g w4 5 (by omega)
    rw [hn1] at hnum
    have hd := s_checkHead g w2 w3 (valA 0 w4)
    refine In.enter g.lim rfl code_message_head ?_
    repeat' ((conv => whnf); first
    | refine Br.tt ?_
    | refine Br.ff ?_
    | refine Need.w ?_
    | refine Wr.w ?_
    | refine Cmp.t ?_
    | refine Cmp.f ?_
    | refine Rem.w ?_
    | refine Quo.w ?_
    | refine PickV.now rfl ?_
    | refine Pick.now rfl ?_
    | refine Chk.mk rfl ?_
    | refine PickW.w rfl ?_
      | (apply CallI.of; assumption)
      | (refine Cmp.tt (by simp only [List.length_cons, List.length_nil]; omega) ?_)
      | (refine Cmp.ff (by simp only [List.length_cons, List.length_nil]; omega) ?_)
      | (refine Cmp.tt h0 ?_)
      | (refine Cmp.tt hz ?_)
      | (exact ⟨rfl, rfl⟩))
  · cases hn
theorem CallS.head_none {p : List UInt8} (hs : p.length ≤ 1000000) (hn : headP p = none) {cx : Cx} {slot : Nat} {m : Mem} {K : V → Mem → Prop} (hf : Go.Evl.freeK cx.lv slot m = 0) (k : ∀ h : Mst, K (.tup [.agg [S h.ki, S h.ai, S h.se, I h.da, .ref ⟨cx.lv, slot, 0⟩ 0 0 0], B false]) (m ++ [(⟨cx.lv, slot, 0⟩, .row false ty_message_Line 14 0 [])])) : CallS E n_message_head [S p] cx slot m K := by
  obtain ⟨h, hh⟩ := s_head_none g p hs hn
  obtain ⟨v, m', h1, h2⟩ := hh.got
  rcases h2 with ⟨rfl, rfl⟩ | ⟨rfl, rfl⟩
  all_goals
    refine ⟨_, _, (.tup [.agg [S h.ki, S h.ai, S h.se, I h.da, .ref ⟨cx.lv, slot, 0⟩ 0 0 0], B false], m ++ [(⟨cx.lv, slot, 0⟩, .row false ty_message_Line 14 0 [])]), h1, ?_, k h⟩
    unfold Go.Evl.settle
    rw [hf]
    rfl
theorem CallS.head_some {p : List UInt8} (hs : p.length ≤ 1000000) {h : Mst} (hn : headP p = some h) {cx : Cx} {slot : Nat} {m : Mem} {K : V → Mem → Prop} (hf : Go.Evl.freeK cx.lv slot m = 0) (k : K (.tup [.agg [S h.ki, S h.ai, S h.se, I h.da, .ref ⟨cx.lv, slot, 0⟩ 0 0 0], B true]) (m ++ [(⟨cx.lv, slot, 0⟩, .row false ty_message_Line 14 0 [])])) : CallS E n_message_head [S p] cx slot m K := by
  obtain ⟨v, m', h1, rfl, rfl⟩ := (s_head_some g p hs h hn).got
  refine ⟨_, _, (.tup [.agg [S h.ki, S h.ai, S h.se, I h.da, .ref ⟨cx.lv, slot, 0⟩ 0 0 0], B true], m ++ [(⟨cx.lv, slot, 0⟩, .row false ty_message_Line 14 0 [])]), h1, ?_, k⟩
  unfold Go.Evl.settle
  rw [hf]
  rfl
end
end Go.Proofs.YtgpgcadcpogcbaaGreatDoor.Co
