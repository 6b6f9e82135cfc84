
/-
  Messages: ParseMessage, by the program.
-/
import Derived.Test.YtmjifdpcoaeehaaGreatDoorMsChl
import Derived.Test.YtmjifdpcoaeehaaGreatDoorMsReae
namespace Go.Proofs.YtmjifdpcoaeehaaGreatDoor.Co
open Go Go.Evl
theorem suffix_lf (s : List UInt8) : Lib.hasSuffix s [10] = wholeB s := by
  unfold Lib.hasSuffix wholeB
  rw [Bool.eq_iff_iff, List.isSuffixOf_iff_suffix, decide_eq_true_eq, List.getLast?_eq_some_iff]
  exact ⟨fun ⟨t, e⟩ => ⟨t, e.symm⟩, fun ⟨t, e⟩ => ⟨t, e.symm⟩⟩
theorem indexByte_lf : ∀ (a r : List UInt8), (10 : UInt8) ∉ a → Lib.indexByte (a ++ 10 :: r) 10 = a.length
  | [], _, _ => rfl
  | c :: a, r, h => by
    have hc : (c == 10) = false := beq_eq_false_iff_ne.2 fun e => h (by simp [e])
    have ih := indexByte_lf a r fun hm => h (by simp [hm])
    simp only [List.cons_append, Lib.indexByte, hc, ih, List.length_cons]
    rw [if_neg (by decide), if_neg (by simp)]
    omega
theorem indexByte_no : ∀ (a : List UInt8), (10 : UInt8) ∉ a → Lib.indexByte a 10 = -1
  | [], _ => rfl
  | c :: a, h => by
    have hc : (c == 10) = false := beq_eq_false_iff_ne.2 fun e => h (by simp [e])
    have ih := indexByte_no a fun hm => h (by simp [hm])
    simp only [Lib.indexByte, hc, ih]
    rfl
theorem endW_le (p : List UInt8) : (endW p).length ≤ p.length := by
  unfold endW
  split
  · simp
  · exact Nat.le_refl _
theorem endW_win {p : List UInt8} (h : wholeB p = true) : 1 ≤ p.length ∧ endW p = p.take (p.length - 1) := by
  have e := whole_eq h
  constructor
  · rw [e]; simp
  · unfold endW
    rw [if_pos h, List.dropLast_eq_take]
theorem headP_nw {p : List UInt8} (h : wholeB p = false) : headP p = none := by
  unfold headP
  split
  · rw [if_neg (by rw [h]; simp)]
  · rfl
theorem headP_len {p : List UInt8} (h : (parts 32 (endW p)).length ≠ 5) : headP p = none := by
  unfold headP
  split
  · rename_i e; rw [e] at h; exact absurd rfl h
  · rfl
theorem headP_five {p w0 w1 w2 w3 w4 : List UInt8} (h : parts 32 (endW p) = [w0, w1, w2, w3, w4]) : headP p = if wholeB p = true ∧ w0 = SLOTS ∧ msgB w1 = true ∧ numB w4 5 = true ∧ headE w2 w3 (valA 0 w4) = 0 then some ⟨w1, w2, w3, valA 0 w4, []⟩ else none := by
  unfold headP
  rw [h]
theorem list5 {l : List (List UInt8)} (h : l.length = 5) : ∃ a b c d e, l = [a, b, c, d, e] := by
  match l, h with
  | [a, b, c, d, e], _ => exact ⟨a, b, c, d, e, rfl⟩
section
variable {E : Oracle} (g : Good E)
include g
set_option maxRecDepth 100000
theorem s_CutLF (p : List UInt8) (hs : p.length ≤ 1000000) : Fc E n_strings_CutSuffix [S p, S [10]] (.tup [S (endW p), B (wholeB p)]) := by
  have h0 : Fc E n_internal_stringslite_HasSuffix [S p, S [10]] (B (wholeB p)) := Fc.extern g.lim (x := suffixX) rfl (v := B (wholeB p)) (m' := []) (by simp only [suffixX]; rw [if_pos hs, suffix_lf]) rfl
  have h1 : Fc E n_internal_stringslite_CutSuffix [S p, S [10]] (.tup [S (endW p), B (wholeB p)]) := by
    refine g.fn code_internal_stringslite_CutSuffix rfl ?_
    cases hw : wholeB p
    · rw [hw] at h0
      have e : endW p = p := by unfold endW; rw [hw]; rfl
      rw [e]
      repeat' ((conv => whnf); first
      | refine Br.tt ?_
      | refine Br.ff ?_
      | refine Need.w ?_
      | refine Wr.w ?_
      | refine Cmp.t ?_
      | refine Cmp.f ?_
      | refine Rem.w ?_
      | refine Quo.w ?_
      | refine PickV.now rfl ?_
      | refine Pick.now rfl ?_
      | refine Chk.mk rfl ?_
      | refine PickW.w rfl ?_
        | (apply CallI.of; assumption)
        | (refine Ret.mk rfl))
    · rw [hw] at h0
      obtain ⟨hl, e⟩ := endW_win hw
      have h10 : (([10] : List UInt8).length : Int) = 1 := rfl
      rw [e]
      repeat' ((conv => whnf); first
      | refine Br.tt ?_
      | refine Br.ff ?_
      | refine Need.w ?_
      | refine Wr.w ?_
      | refine Cmp.t ?_
      | refine Cmp.f ?_
      | refine Rem.w ?_
      | refine Quo.w ?_
      | refine PickV.now rfl ?_
      | refine Pick.now rfl ?_
      | refine Chk.mk rfl ?_
      | refine PickW.w rfl ?_
        | (apply CallI.of; assumption)
        | (refine Bounds.mk (by omega) ?_)
        | (refine Ret.mk ?_))
      simp [win]
  refine g.fn code_strings_CutSuffix rfl ?_
  repeat' ((conv => whnf); first
  | refine Br.tt ?_
  | refine Br.ff ?_
  | refine Need.w ?_
  | refine Wr.w ?_
  | refine Cmp.t ?_
  | refine Cmp.f ?_
  | refine Rem.w ?_
  | refine Quo.w ?_
  | refine PickV.now rfl ?_
  | refine Pick.now rfl ?_
  | refine Chk.mk rfl ?_
  | refine PickW.w rfl ?_
    | (apply CallI.of; assumption)
    | (refine Ret.mk rfl))
theorem s_IndexLF (s : List UInt8) : Fc E n_strings_IndexByte [S s, .d (.int .u8 10)] (I (Lib.indexByte s 10)) := by
  have h0 : Fc E n_internal_stringslite_IndexByte [S s, .d (.int .u8 10)] (I (Lib.indexByte s 10)) := Fc.extern g.lim (x := indexByteX) rfl (v := I (Lib.indexByte s 10)) (m' := []) rfl rfl
  refine g.fn code_strings_IndexByte rfl ?_
  repeat' ((conv => whnf); first
  | refine Br.tt ?_
  | refine Br.ff ?_
  | refine Need.w ?_
  | refine Wr.w ?_
  | refine Cmp.t ?_
  | refine Cmp.f ?_
  | refine Rem.w ?_
  | refine Quo.w ?_
  | refine PickV.now rfl ?_
  | refine Pick.now rfl ?_
  | refine Chk.mk rfl ?_
  | refine PickW.w rfl ?_
    | (apply CallI.of; assumption)
    | (refine Ret.mk rfl))
theorem s_lineP (s : List UInt8) (hs : s.length ≤ 1000000) : ∃ i : Int, Fc E n_message_ParseLine [S s] (.tup [Lnv (lineP s).1, I i, I (lineP s).2]) := by
  unfold lineP
  cases hw : wList (parts 32 s) with
  | none => exact ⟨_, s_ParseLine_no g s hs (wList_none hw)⟩
  | some w =>
    have h := s_ParseLine14 g s hs w (wList_some hw)
    unfold resW resF at h
    simp only
    unfold lineW
    split at h
    · rename_i hf
      rw [if_pos hf]
      split at h
      · rename_i hc; rw [if_pos hc]; exact ⟨_, h⟩
      · rename_i hc; rw [if_neg hc]; exact ⟨_, h⟩
    · rename_i hf
      rw [if_neg hf]
      exact ⟨_, h⟩
theorem s_texts (s : List UInt8) : In E 0 n_message_texts [S s] [] fun v m' => v = .fn n_message_texts_1 [] [.ptr ⟨0, 1, 0⟩ 0 0] ∧ m' = [(⟨0, 1, 0⟩, .cells ty_string [S s])] := by
  refine In.enter g.lim rfl code_message_texts ?_
  repeat' ((conv => whnf); first
  | refine Br.tt ?_
  | refine Br.ff ?_
  | refine Need.w ?_
  | refine Wr.w ?_
  | refine Cmp.t ?_
  | refine Cmp.f ?_
  | refine Rem.w ?_
  | refine Quo.w ?_
  | refine PickV.now rfl ?_
  | refine Pick.now rfl ?_
  | refine Chk.mk rfl ?_
  | refine PickW.w rfl ?_
    | (exact ⟨rfl, rfl⟩))
theorem CallS.texts {s : List UInt8} {cx : Cx} {slot : Nat} {m : Mem} {K : V → Mem → Prop} (hf : Go.Evl.freeK cx.lv slot m = 0) (h : K (.fn n_message_texts_1 [] [.ptr ⟨cx.lv, slot, 0⟩ 0 0]) (m ++ [(⟨cx.lv, slot, 0⟩, .cells ty_string [S s])])) : CallS E n_message_texts [S s] cx slot m K := by
  obtain ⟨v, m', h1, rfl, rfl⟩ := (s_texts g s).got
  refine ⟨_, _, (.fn n_message_texts_1 [] [.ptr ⟨cx.lv, slot, 0⟩ 0 0], m ++ [(⟨cx.lv, slot, 0⟩, .cells ty_string [S s])]), h1, ?_, h⟩
  unfold Go.Evl.settle
  rw [hf]
  rfl
def HeadV (v : V) (m' : Mem) (site : Nat) (h : Mst) (b : Bool) : Prop := v = .tup [.agg [S h.ki, S h.ai, S h.se, I h.da, .ref ⟨0, site, 0⟩ 0 0 0], B b] ∧ m' = [(⟨0, 2, 0⟩, .row false ty_message_Line 14 0 []), (⟨0, 2, 1⟩, .cells ty_message_Message [S h.ki, S h.ai, S h.se, I h.da, .ref ⟨0, site, 0⟩ 0 0 0]), (⟨0, site, 0⟩, .row false ty_message_Line 14 0 [])]
set_option maxHeartbeats 8000000 in
theorem s_head_none (p : List UInt8) (hs : p.length ≤ 1000000) (hn : headP p = none) : ∃ h : Mst, In E 0 n_message_head [S p] [] fun v m' => HeadV v m' 36 h false ∨ HeadV v m' 54 h false := by
  have hcut := s_CutLF g p hs
  have hsp := s_Split g (endW p) (Nat.le_trans (endW_le p) hs)
  cases hw : wholeB p
  · rw [hw] at hcut
    refine ⟨zeroM, In.enter g.lim rfl code_message_head ?_⟩
    repeat' ((conv => whnf); first
    | refine Br.tt ?_
    | refine Br.ff ?_
    | refine Need.w ?_
    | refine Wr.w ?_
    | refine Cmp.t ?_
    | refine Cmp.f ?_
    | refine Rem.w ?_
    | refine Quo.w ?_
    | refine PickV.now rfl ?_
    | refine Pick.now rfl ?_
    | refine Chk.mk rfl ?_
    | refine PickW.w rfl ?_
      | (apply CallI.of; assumption)
      | (refine Cmp.tt (by simp only [List.length_cons, List.length_nil]; omega) ?_)
      | (refine Cmp.ff (by simp only [List.length_cons, List.length_nil]; omega) ?_)
      | (exact .inl ⟨rfl, rfl⟩))
  · rw [hw] at hcut
    by_cases hl : (parts 32 (endW p)).length = 5
    · obtain ⟨w0, w1, w2, w3, w4, he⟩ := list5 hl
      rw [headP_five he, hw] at hn
      rw [he] at hsp
      by_cases h0 : w0 = SLOTS
      · have hm := s_isMessage g w1
        cases hm1 : msgB w1
        · rw [hm1] at hm
          refine ⟨zeroM, In.enter g.lim rfl code_message_head ?_⟩
          repeat' ((conv => whnf); first
          | refine Br.tt ?_
          | refine Br.ff ?_
          | refine Need.w ?_
          | refine Wr.w ?_
          | refine Cmp.t ?_
          | refine Cmp.f ?_
          | refine Rem.w ?_
          | refine Quo.w ?_
          | refine PickV.now rfl ?_
          | refine Pick.now rfl ?_
          | refine Chk.mk rfl ?_
          | refine PickW.w rfl ?_
            | (apply CallI.of; assumption)
            | (refine Cmp.tt (by simp only [List.length_cons, List.length_nil]; omega) ?_)
            | (refine Cmp.ff (by simp only [List.length_cons, List.length_nil]; omega) ?_)
            | (refine Cmp.tt h0 ?_)
            | (exact .inl ⟨rfl, rfl⟩))
        · rw [hm1] at hm
          have hnum := s_number g w4 5 (by omega)
          cases hn1 : numB w4 5
          · rw [hn1] at hnum
            refine ⟨⟨w1, w2, w3, 0, []⟩, In.enter g.lim rfl code_message_head ?_⟩
            repeat' ((conv => whnf); first
            | refine Br.tt ?_
            | refine Br.ff ?_
            | refine Need.w ?_
            | refine Wr.w ?_
            | refine Cmp.t ?_
            | refine Cmp.f ?_
            | refine Rem.w ?_
            | refine Quo.w ?_
            | refine PickV.now rfl ?_
            | refine Pick.now rfl ?_
            | refine Chk.mk rfl ?_
            | refine PickW.w rfl ?_
              | (apply CallI.of; assumption)
              | (refine Cmp.tt (by simp only [List.length_cons, List.length_nil]; omega) ?_)
              | (refine Cmp.ff (by simp only [List.length_cons, List.length_nil]; omega) ?_)
              | (refine Cmp.tt h0 ?_)
              | (exact .inr ⟨rfl, rfl⟩))
          · rw [hn1] at hnum
            have hd := s_checkHead g w2 w3 (valA 0 w4)
            have hz : headE w2 w3 (valA 0 w4) ≠ 0 := fun h => by
              rw [if_pos ⟨rfl, h0, hm1, hn1, h⟩] at hn
              cases hn
            refine ⟨⟨w1, w2, w3, valA 0 w4, []⟩, In.enter g.lim rfl code_message_head ?_⟩
            repeat' ((conv => whnf); first
            | refine Br.tt ?_
            | refine Br.ff ?_
            | refine Need.w ?_
            | refine Wr.w ?_
            | refine Cmp.t ?_
            | refine Cmp.f ?_
            | refine Rem.w ?_
            | refine Quo.w ?_
            | refine PickV.now rfl ?_
            | refine Pick.now rfl ?_
            | refine Chk.mk rfl ?_
            | refine PickW.w rfl ?_
              | (apply CallI.of; assumption)
              | (refine Cmp.tt (by simp only [List.length_cons, List.length_nil]; omega) ?_)
              | (refine Cmp.ff (by simp only [List.length_cons, List.length_nil]; omega) ?_)
              | (refine Cmp.tt h0 ?_)
              | (refine Cmp.ff hz ?_)
              | (exact .inr ⟨rfl, rfl⟩))
      · refine ⟨zeroM, In.enter g.lim rfl code_message_head ?_⟩
        repeat' ((conv => whnf); first
        | refine Br.tt ?_
        | refine Br.ff ?_
        | refine Need.w ?_
        | refine Wr.w ?_
        | refine Cmp.t ?_
        | refine Cmp.f ?_
        | refine Rem.w ?_
        | refine Quo.w ?_
        | refine PickV.now rfl ?_
        | refine Pick.now rfl ?_
        | refine Chk.mk rfl ?_
        | refine PickW.w rfl ?_
          | (apply CallI.of; assumption)
          | (refine Cmp.tt (by simp only [List.length_cons, List.length_nil]; omega) ?_)
          | (refine Cmp.ff (by simp only [List.length_cons, List.length_nil]; omega) ?_)
          | (refine Cmp.ff h0 ?_)
          | (exact .inl ⟨rfl, rfl⟩))
    · refine ⟨zeroM, In.enter g.lim rfl code_message_head ?_⟩
      repeat' ((conv => whnf); first
      | refine Br.tt ?_
      | refine Br.ff ?_
      | refine Need.w ?_
      | refine Wr.w ?_
      | refine Cmp.t ?_
      | refine Cmp.f ?_
      | refine Rem.w ?_
      | refine Quo.w ?_
      | refine PickV.now rfl ?_
      | refine Pick.now rfl ?_
      | refine Chk.mk rfl ?_
      | refine PickW.w rfl ?_
        | (apply CallI.of; assumption)
        | (refine Cmp.tt (by simp only [List.length_cons, List.length_nil]; omega) ?_)
        | (refine Cmp.ff (by simp only [List.length_cons, List.length_nil]; omega) ?_)
        | (exact .inl ⟨rfl, rfl⟩))
set_option maxHeartbeats 8000000 in
theorem s_head_some (p : List UInt8) (hs : p.length ≤ 1000000) (h : Mst) (hn : headP p = some h) : In E 0 n_message_head [S p] [] fun v m' => HeadV v m' 54 h true := by
  have hcut := s_CutLF g p hs
  have hsp := s_Split g (endW p) (Nat.le_trans (endW_le p) hs)
  have hl : (parts 32 (endW p)).length = 5 := Decidable.byContradiction fun hc => by rw [headP_len hc] at hn; cases hn
  obtain ⟨w0, w1, w2, w3, w4, he⟩ := list5 hl
  rw [headP_five he] at hn
  split at hn
  · rename_i hc
    obtain ⟨hw, h0, hm1, hn1, hz⟩ := hc
    obtain rfl := Option.some.inj hn
    rw [hw] at hcut
    rw [he] at hsp
    have hm := s_isMessage g w1
    rw [hm1] at hm
    have hnum := s_number g w4 5 (by omega)
    rw [hn1] at hnum
    have hd := s_checkHead g w2 w3 (valA 0 w4)
    refine In.enter g.lim rfl code_message_head ?_
    repeat' ((conv => whnf); first
    | refine Br.tt ?_
    | refine Br.ff ?_
    | refine Need.w ?_
    | refine Wr.w ?_
    | refine Cmp.t ?_
    | refine Cmp.f ?_
    | refine Rem.w ?_
    | refine Quo.w ?_
    | refine PickV.now rfl ?_
    | refine Pick.now rfl ?_
    | refine Chk.mk rfl ?_
    | refine PickW.w rfl ?_
      | (apply CallI.of; assumption)
      | (refine Cmp.tt (by simp only [List.length_cons, List.length_nil]; omega) ?_)
      | (refine Cmp.ff (by simp only [List.length_cons, List.length_nil]; omega) ?_)
      | (refine Cmp.tt h0 ?_)
      | (refine Cmp.tt hz ?_)
      | (exact ⟨rfl, rfl⟩))
  · cases hn
theorem CallS.head_none {p : List UInt8} (hs : p.length ≤ 1000000) (hn : headP p = none) {cx : Cx} {slot : Nat} {m : Mem} {K : V → Mem → Prop} (hf : Go.Evl.freeK cx.lv slot m = 0) (k : ∀ h : Mst, K (.tup [.agg [S h.ki, S h.ai, S h.se, I h.da, .ref ⟨cx.lv, slot, 0⟩ 0 0 0], B false]) (m ++ [(⟨cx.lv, slot, 0⟩, .row false ty_message_Line 14 0 [])])) : CallS E n_message_head [S p] cx slot m K := by
  obtain ⟨h, hh⟩ := s_head_none g p hs hn
  obtain ⟨v, m', h1, h2⟩ := hh.got
  rcases h2 with ⟨rfl, rfl⟩ | ⟨rfl, rfl⟩
  all_goals
    refine ⟨_, _, (.tup [.agg [S h.ki, S h.ai, S h.se, I h.da, .ref ⟨cx.lv, slot, 0⟩ 0 0 0], B false], m ++ [(⟨cx.lv, slot, 0⟩, .row false ty_message_Line 14 0 [])]), h1, ?_, k h⟩
    unfold Go.Evl.settle
    rw [hf]
    rfl
theorem CallS.head_some {p : List UInt8} (hs : p.length ≤ 1000000) {h : Mst} (hn : headP p = some h) {cx : Cx} {slot : Nat} {m : Mem} {K : V → Mem → Prop} (hf : Go.Evl.freeK cx.lv slot m = 0) (k : K (.tup [.agg [S h.ki, S h.ai, S h.se, I h.da, .ref ⟨cx.lv, slot, 0⟩ 0 0 0], B true]) (m ++ [(⟨cx.lv, slot, 0⟩, .row false ty_message_Line 14 0 [])])) : CallS E n_message_head [S p] cx slot m K := by
  obtain ⟨v, m', h1, rfl, rfl⟩ := (s_head_some g p hs h hn).got
  refine ⟨_, _, (.tup [.agg [S h.ki, S h.ai, S h.se, I h.da, .ref ⟨cx.lv, slot, 0⟩ 0 0 0], B true], m ++ [(⟨cx.lv, slot, 0⟩, .row false ty_message_Line 14 0 [])]), h1, ?_, k⟩
  unfold Go.Evl.settle
  rw [hf]
  rfl
end
open Go Go.Evl
theorem win_head (a r : List UInt8) : win (a ++ 10 :: r) 0 (a.length + 1 - 0) = a ++ [10] := by
  unfold win
  rw [List.drop_zero, Nat.sub_zero, show a ++ 10 :: r = (a ++ [10]) ++ r by simp, List.take_append_of_le_length (by simp), List.take_of_length_le (by simp)]
theorem win_tail (a r : List UInt8) : win (a ++ 10 :: r) (a.length + 1) ((a ++ 10 :: r).length - (a.length + 1)) = r := by
  unfold win
  rw [show a ++ 10 :: r = (a ++ [10]) ++ r by simp, List.drop_left' (by simp), List.take_of_length_le (by simp; omega)]
theorem parts_len (b : UInt8) : ∀ s : List UInt8, (parts b s).length ≤ s.length + 1
  | [] => by simp [parts]
  | x :: r => by
    have ih := parts_len b r
    rw [parts]
    split
    · simp; omega
    · split
      · simp
      · rename_i h; rw [h] at ih; simp only [List.length_cons] at ih ⊢; omega
theorem win_all (s : List UInt8) : win s 0 (s.length - 0) = s := by simp [win]
theorem LoopW.two {σ : Type} {E : Oracle} (g : Good E) {cx : Cx} {live : List Nat} {keep : List Evl.Id} {body : C} {K : Ex → Env → Mem → Prop} {e0 : Env} {m0 : Mem} (inv : σ → Prop) (env : σ → Env) (mem : σ → Mem) (μ : σ → Nat)
    (h : ∀ s, inv s → (∀ s', inv s' → μ s' < μ s → LoopW E cx live keep body (env s') (mem s') K) → wpC E cx body (env s) (mem s) (againK E cx live keep body K))
    (first : (∀ s, inv s → LoopW E cx live keep body (env s) (mem s) K) → LoopW E cx live keep body e0 m0 K) : LoopW E cx live keep body e0 m0 K := first (LoopW.by g inv env mem μ h)
theorem parseG_open {m : Mst} {i : Nat} {p : List UInt8} {r : List (List UInt8)} (h : wholeB p = false) : parseG m i (p :: r) = (zeroM, i, 25) := by
  rw [parseG, if_pos h]
theorem parseG_line {m : Mst} {i : Nat} {a w0 : List UInt8} {wr r : List (List UInt8)} (hp : parts 32 a = w0 :: wr) (h0 : w0 ≠ ENDW) : parseG m i ((a ++ [10]) :: r) = if (lineP a).2 ≠ 0 then (zeroM, i, (lineP a).2) else if 64 ≤ m.ls.length then (zeroM, i, 5) else parseG { m with ls := m.ls ++ [(lineP a).1] } (i + 1) r := by
  rw [parseG, (whole_lf _).1, (whole_lf _).2, if_neg (by decide), hp, if_pos (by simpa using h0)]
theorem parseG_bad {m : Mst} {i : Nat} {a : List UInt8} {wr r : List (List UInt8)} (hp : parts 32 a = ENDW :: wr) (hl : wr.length ≠ 1) : parseG m i ((a ++ [10]) :: r) = (zeroM, i, 25) := by
  rw [parseG, (whole_lf _).1, (whole_lf _).2, if_neg (by decide), hp, if_neg (by simp)]
  match wr, hl with
  | [], _ => rfl
  | _ :: _ :: _, _ => rfl
def parseO (a : Mst) (i : Nat) (s : List UInt8) : Mst × Nat × Int :=
  if s ≠ [] then (zeroM, i, 25) else if (chkLs a.ki none 0 a.ls).2 ≠ 0 then (zeroM, (chkLs a.ki none 0 a.ls).1 + 1, (chkLs a.ki none 0 a.ls).2) else (a, 0, 0)
theorem parseG_end {m : Mst} {i : Nat} {a x s : List UInt8} (hp : parts 32 a = [ENDW, x]) : parseG m i ((a ++ [10]) :: pcs s) = if numB x 2 = false then (zeroM, i, 25) else if valA 0 x ≠ m.ls.length then (zeroM, i, 27) else parseO m (i + 1) s := by
  rw [parseG, (whole_lf _).1, (whole_lf _).2, if_neg (by decide), hp, if_neg (by simp)]
  unfold parseO
  by_cases hs : s = []
  · subst hs; simp [pcs_nil]
  · have := pcs_ne hs
    simp only [hs, this, ne_eq, not_false_eq_true, if_true]
structure PSt where
  a : Mst
  i : Nat
  s : List UInt8
  ov : Bool
def PSt.res (st : PSt) : Mst × Nat × Int := if st.ov then parseO st.a st.i st.s else parseG st.a st.i (pcs st.s)
structure PSt.Inv (s0 : List UInt8) (st : PSt) : Prop where
  ln : st.a.ls.length ≤ 64
  pos : 1 ≤ st.i
  len : st.i + st.s.length ≤ s0.length
  res : st.res = parseM s0
theorem chkLs_le1 (kind : List UInt8) : ∀ (ls : List Lnt) (p : Option Lnt) (i : Nat), (chkLs kind p i ls).1 ≤ i + ls.length
  | [], p, i => by
    simp only [chkLs]
    split <;> simp
  | x :: r, p, i => by
    simp only [chkLs]
    split
    · have := chkLs_le1 kind r (some x) (i + 1)
      simp only [List.length_cons]
      omega
    · simp
theorem chkLs_le (kind : List UInt8) (ls : List Lnt) : (chkLs kind none 0 ls).1 ≤ ls.length := by
  have := chkLs_le1 kind ls none 0
  omega
theorem list_last {α : Type} (x : α) (l : List α) : ∃ y, (x :: l)[l.length]? = some y := ⟨_, List.getElem?_eq_getElem (by simp)⟩
section
variable {E : Oracle} (g : Good E)
include g
set_option maxRecDepth 100000
set_option maxHeartbeats 40000000 in
theorem s_ParseMessage (s0 : List UInt8) (hs0 : s0.length ≤ 1000000) : Fc E n_message_ParseMessage [S s0] (.tup [Msv (parseM s0).1, I ((parseM s0).2.1 : Nat), I (parseM s0).2.2]) := by
  refine g.fn code_message_ParseMessage rfl ?_
  by_cases hl0 : 16384 < s0.length
  · have hp : parseM s0 = (zeroM, 0, 26) := by unfold parseM; rw [if_pos hl0]
    rw [hp]
    repeat' ((conv => whnf); first
    | refine Br.tt ?_
    | refine Br.ff ?_
    | refine Need.w ?_
    | refine Wr.w ?_
    | refine Cmp.t ?_
    | refine Cmp.f ?_
    | refine Rem.w ?_
    | refine Quo.w ?_
    | refine PickV.now rfl ?_
    | refine Pick.now rfl ?_
    | refine Chk.mk rfl ?_
    | refine PickW.w rfl ?_
      | (refine Ret.mk rfl))
  · repeat' ((conv => whnf); first
  | refine Br.tt ?_
  | refine Br.ff ?_
  | refine Need.w ?_
  | refine Wr.w ?_
  | refine Cmp.t ?_
  | refine Cmp.f ?_
  | refine Rem.w ?_
  | refine Quo.w ?_
  | refine PickV.now rfl ?_
  | refine Pick.now rfl ?_
  | refine Chk.mk rfl ?_
  | refine PickW.w rfl ?_
      | (refine CallS.texts g rfl ?_)
      | (refine In.enter g.lim rfl code_message_texts_1 ?_))
    refine LoopW.two g (PSt.Inv s0)
      (fun st => [(0, .yld ⟨0, 141, 0⟩), (1, .ptr ⟨0, 28, 0⟩ 0 0), (3, I st.i)])
      (fun st => [(⟨0, 2, 0⟩, .row false ty_message_Line 14 0 []), (⟨0, 2, 1⟩, .cells ty_message_Message [S [], S [], S [], I 0, .ref ⟨0, 2, 0⟩ 0 0 0]), (⟨0, 3, 0⟩, .cells ty_int [I 0]), (⟨0, 4, 0⟩, .cells ty_api_Errno [I 0]), (⟨0, 5, 0⟩, .row false ty_message_Line 14 0 []), (⟨0, 5, 1⟩, .cells ty_message_Message [S st.a.ki, S st.a.ai, S st.a.se, I st.a.da, .ref ⟨0, 76, 0⟩ 0 st.a.ls.length st.a.ls.length]), (⟨0, 6, 0⟩, .cells ty_int [I st.i]), (⟨0, 7, 0⟩, .cells ty_bool [B st.ov]), (⟨0, 28, 0⟩, .cells ty_string [S st.s]), (⟨0, 141, 0⟩, .loop [(2, .ptr ⟨0, 2, 1⟩ 0 0), (3, .ptr ⟨0, 3, 0⟩ 0 0), (4, .ptr ⟨0, 4, 0⟩ 0 0), (25, B false), (5, .ptr ⟨0, 5, 1⟩ 0 0), (6, .ptr ⟨0, 6, 0⟩ 0 0), (7, .ptr ⟨0, 7, 0⟩ 0 0), (28, .fn n_message_texts_1 [] [.ptr ⟨0, 28, 0⟩ 0 0])] [29, 30] b_message_ParseMessage_1 b_message_ParseMessage_2 0 false false none), (⟨0, 76, 0⟩, .row false ty_message_Line 14 st.a.ls.length (st.a.ls.flatMap Lnt.cells))])
      (fun st => st.s.length) ?_ ?_
    · rintro ⟨⟨ki, ai, se, da, ls⟩, i, s, ov⟩ ⟨i1, i2, i3, i4⟩ ih
      simp only [PSt.res] at i1 i2 i3 i4 ih
      dsimp only
      by_cases hs : s = []
      · subst hs
        cases ov
        · rw [if_neg (by decide), pcs_nil, parseG] at i4
          rw [← i4]
          repeat' ((conv => whnf); first
          | refine Br.tt ?_
          | refine Br.ff ?_
          | refine Need.w ?_
          | refine Wr.w ?_
          | refine Cmp.t ?_
          | refine Cmp.f ?_
          | refine Rem.w ?_
          | refine Quo.w ?_
          | refine PickV.now rfl ?_
          | refine Pick.now rfl ?_
          | refine Chk.mk rfl ?_
          | refine PickW.w rfl ?_
            | (refine Need.mk ⟨rfl, by simp⟩ ?_)
            | (refine Ret.mk rfl))
        · rw [if_pos rfl, parseO, if_neg (by simp)] at i4
          have hcl : ∀ {n : Nat} {cs : List D}, n = ls.length → cs = ls.flatMap Lnt.cells → Fc E n_message_checkLines [S ki, .d (.list n cs)] (.tup [I ((chkLs ki none 0 ls).1 : Nat), I (chkLs ki none 0 ls).2]) := by
            rintro _ _ rfl rfl
            exact s_checkLines g ki ls (by omega)
          by_cases hc : (chkLs ki none 0 ls).2 = 0
          · rw [if_neg (by simp [hc])] at i4
            rw [← i4]
            generalize chkLs ki none 0 ls = c at *
            repeat' ((conv => whnf); first
            | refine Br.tt ?_
            | refine Br.ff ?_
            | refine Need.w ?_
            | refine Wr.w ?_
            | refine Cmp.t ?_
            | refine Cmp.f ?_
            | refine Rem.w ?_
            | refine Quo.w ?_
            | refine PickV.now rfl ?_
            | refine Pick.now rfl ?_
            | refine Chk.mk rfl ?_
            | refine PickW.w rfl ?_
              | (refine Need.mk ⟨rfl, by simp⟩ ?_)
              | (refine CallI.of (hcl rfl (by simp)) ?_)
              | (refine Cmp.tt hc ?_)
              | (refine Ret.mk ?_))
            rw [if_pos ⟨rfl, rfl⟩]
            rfl
          · rw [if_pos hc] at i4
            rw [← i4]
            have hb := chkLs_le ki ls
            generalize chkLs ki none 0 ls = c at *
            repeat' ((conv => whnf); first
            | refine Br.tt ?_
            | refine Br.ff ?_
            | refine Need.w ?_
            | refine Wr.w ?_
            | refine Cmp.t ?_
            | refine Cmp.f ?_
            | refine Rem.w ?_
            | refine Quo.w ?_
            | refine PickV.now rfl ?_
            | refine Pick.now rfl ?_
            | refine Chk.mk rfl ?_
            | refine PickW.w rfl ?_
              | (refine Need.mk ⟨rfl, by simp⟩ ?_)
              | (refine CallI.of (hcl rfl (by simp)) ?_)
              | (refine Cmp.ff hc ?_)
              | (refine Ret.mk rfl))
      · rcases pcs_cases s hs with ⟨hn, hp⟩ | ⟨a, r, hn, rfl, hp⟩
        · have hw : wholeB s = false := decide_eq_false fun e => by
            obtain ⟨t, e⟩ := List.getLast?_eq_some_iff.1 e
            exact hn (by rw [e]; simp)
          have he : endW s = s := by unfold endW; rw [hw]; rfl
          have hv : parseM s0 = (zeroM, i, 25) := by
            rw [← i4]
            cases ov
            · rw [if_neg (by decide), hp, parseG_open hw]
            · rw [if_pos rfl, parseO, if_pos hs]
          rw [hv]
          have hx := s_IndexLF g s
          rw [indexByte_no s hn] at hx
          have hcut := s_CutLF g s (by omega)
          rw [hw, he] at hcut
          have hsp := s_Split g s (by omega)
          have hpos : s.length ≠ 0 := fun e => hs (List.length_eq_zero_iff.1 e)
          repeat' ((conv => whnf); first
          | refine Br.tt ?_
          | refine Br.ff ?_
          | refine Need.w ?_
          | refine Wr.w ?_
          | refine Cmp.t ?_
          | refine Cmp.f ?_
          | refine Rem.w ?_
          | refine Quo.w ?_
          | refine PickV.now rfl ?_
          | refine Pick.now rfl ?_
          | refine Chk.mk rfl ?_
          | refine PickW.w rfl ?_
            | (refine Need.mk ⟨rfl, by simp⟩ ?_)
            | (apply CallI.of; assumption)
            | (refine Rnd.enter g.lim ?_)
            | (refine Bounds.at 0 s.length (by omega) (by omega) (by omega) ?_ <;> (try dsimp only) <;> (rw [win_all]))
            | (refine Cmp.ff hs ?_)
            | (refine Ret.mk rfl))
        · have hlen : (a ++ 10 :: r).length = a.length + (r.length + 1) := by simp
          have hx := s_IndexLF g (a ++ 10 :: r)
          rw [indexByte_lf a r hn] at hx
          have hcut := s_CutLF g (a ++ [10]) (by simp; omega)
          rw [(whole_lf _).1, (whole_lf _).2] at hcut
          have hsp := s_Split g a (by omega)
          cases ov
          · rw [if_neg (by decide), hp] at i4
            cases hpa : parts 32 a with
            | nil => exact absurd hpa (parts_ne 32 a)
            | cons w0 wr =>
              rw [hpa] at hsp
              by_cases h0 : w0 = ENDW
              · subst h0
                by_cases hwr : wr.length = 1
                · obtain ⟨x, rfl⟩ := List.length_eq_one_iff.1 hwr
                  rw [parseG_end hpa] at i4
                  have hnum := s_number g x 2 (by omega)
                  have h2l : (([ENDW, x] : List (List UInt8)).length : Int) = 2 := rfl
                  cases hnb : numB x 2
                  · rw [hnb] at hnum i4
                    rw [if_pos rfl] at i4
                    rw [← i4]
                    repeat' ((conv => whnf); first
                    | refine Br.tt ?_
                    | refine Br.ff ?_
                    | refine Need.w ?_
                    | refine Wr.w ?_
                    | refine Cmp.t ?_
                    | refine Cmp.f ?_
                    | refine Rem.w ?_
                    | refine Quo.w ?_
                    | refine PickV.now rfl ?_
                    | refine Pick.now rfl ?_
                    | refine Chk.mk rfl ?_
                    | refine PickW.w rfl ?_
                      | (refine Need.mk ⟨rfl, by simp⟩ ?_)
                      | (apply CallI.of; assumption)
                      | (refine Rnd.enter g.lim ?_)
                      | (refine Bounds.at 0 (a.length + 1) (by omega) (by omega) (by omega) ?_ <;> (try dsimp only) <;> (rw [win_head]))
                      | (refine Bounds.at (a.length + 1) (a ++ 10 :: r).length (by omega) (by omega) (by omega) ?_ <;> (try dsimp only) <;> (rw [win_tail]))
                      | (refine Cmp.ff hs ?_)
                      | (refine CallI.of (s_mwhen g _ _) ?_)
                      | (refine CallI.of (s_mfirst2 g _ _) ?_)
                      | (refine Pick.now rfl ?_)
                      | (refine Ret.mk rfl)
                      | (refine Cmp.tt (by simp only [List.length_cons, List.length_nil]; omega) ?_)
                      | (refine Cmp.ff (by simp only [List.length_cons, List.length_nil]; omega) ?_)
                      | (refine Cmp.mk (fun h => ?_) (fun h => ?_))
                      | (refine Rem.any (by omega) (fun r hr he => ?_))
                      | (refine Br.mk (fun h => ?_) (fun h => ?_))
                      | (exfalso; omega))
                  · rw [hnb] at hnum i4
                    rw [if_neg (by decide)] at i4
                    by_cases hcn : valA 0 x = ls.length
                    · rw [if_neg (by simpa using hcn)] at i4
                      have ih := ih ⟨⟨ki, ai, se, da, ls⟩, i + 1, r, true⟩ ⟨i1, by simp only; omega, by simp only; omega, i4⟩ (by simp only; omega)
                      repeat' ((conv => whnf); first
                      | refine Br.tt ?_
                      | refine Br.ff ?_
                      | refine Need.w ?_
                      | refine Wr.w ?_
                      | refine Cmp.t ?_
                      | refine Cmp.f ?_
                      | refine Rem.w ?_
                      | refine Quo.w ?_
                      | refine PickV.now rfl ?_
                      | refine Pick.now rfl ?_
                      | refine Chk.mk rfl ?_
                      | refine PickW.w rfl ?_
                        | (refine Need.mk ⟨rfl, by simp⟩ ?_)
                        | (apply CallI.of; assumption)
                        | (refine Rnd.enter g.lim ?_)
                        | (refine Bounds.at 0 (a.length + 1) (by omega) (by omega) (by omega) ?_ <;> (try dsimp only) <;> (rw [win_head]))
                        | (refine Bounds.at (a.length + 1) (a ++ 10 :: r).length (by omega) (by omega) (by omega) ?_ <;> (try dsimp only) <;> (rw [win_tail]))
                        | (refine Cmp.ff hs ?_)
                        | (refine Cmp.tt hcn ?_)
                        | (refine CallI.of (s_mwhen g _ _) ?_)
                        | (refine CallI.of (s_mfirst2 g _ _) ?_)
                        | (refine Pick.now rfl ?_)
                        | (refine LoopW.to ih rfl rfl)
                        | (refine Cmp.tt (by simp only [List.length_cons, List.length_nil]; omega) ?_)
                        | (refine Cmp.ff (by simp only [List.length_cons, List.length_nil]; omega) ?_)
                        | (exfalso; omega))
                    · rw [if_pos (by simpa using hcn)] at i4
                      rw [← i4]
                      repeat' ((conv => whnf); first
                      | refine Br.tt ?_
                      | refine Br.ff ?_
                      | refine Need.w ?_
                      | refine Wr.w ?_
                      | refine Cmp.t ?_
                      | refine Cmp.f ?_
                      | refine Rem.w ?_
                      | refine Quo.w ?_
                      | refine PickV.now rfl ?_
                      | refine Pick.now rfl ?_
                      | refine Chk.mk rfl ?_
                      | refine PickW.w rfl ?_
                        | (refine Need.mk ⟨rfl, by simp⟩ ?_)
                        | (apply CallI.of; assumption)
                        | (refine Rnd.enter g.lim ?_)
                        | (refine Bounds.at 0 (a.length + 1) (by omega) (by omega) (by omega) ?_ <;> (try dsimp only) <;> (rw [win_head]))
                        | (refine Bounds.at (a.length + 1) (a ++ 10 :: r).length (by omega) (by omega) (by omega) ?_ <;> (try dsimp only) <;> (rw [win_tail]))
                        | (refine Cmp.ff hs ?_)
                        | (refine Cmp.ff hcn ?_)
                        | (refine CallI.of (s_mwhen g _ _) ?_)
                        | (refine CallI.of (s_mfirst2 g _ _) ?_)
                        | (refine Pick.now rfl ?_)
                        | (refine Ret.mk rfl)
                        | (refine Cmp.tt (by simp only [List.length_cons, List.length_nil]; omega) ?_)
                        | (refine Cmp.ff (by simp only [List.length_cons, List.length_nil]; omega) ?_)
                        | (exfalso; omega))
                · rw [parseG_bad hpa hwr] at i4
                  rw [← i4]
                  obtain ⟨y, hy⟩ := list_last (ENDW) wr
                  have hnum := s_number g y 2 (by omega)
                  have hpk : ((ENDW :: wr).map D.str)[(((ENDW :: wr).length : Int) - 1).toNat * 1]? = some (.str y) := by
                    rw [show (((ENDW :: wr).length : Int) - 1).toNat * 1 = wr.length by simp only [List.length_cons]; omega, List.getElem?_map, hy]; rfl
                  have hl2 : ¬ (((ENDW :: wr).length : Int) = 2) := by simp only [List.length_cons]; omega
                  have hl3 : (ENDW :: wr).length = wr.length + 1 := rfl
                  have hl4 : (ENDW :: wr).length ≤ a.length + 1 := by rw [← hpa]; exact parts_len 32 a
                  repeat' ((conv => whnf); first
                  | refine Br.tt ?_
                  | refine Br.ff ?_
                  | refine Need.w ?_
                  | refine Wr.w ?_
                  | refine Cmp.t ?_
                  | refine Cmp.f ?_
                  | refine Rem.w ?_
                  | refine Quo.w ?_
                  | refine PickV.now rfl ?_
                  | refine Pick.now rfl ?_
                  | refine Chk.mk rfl ?_
                  | refine PickW.w rfl ?_
                    | (refine Need.mk ⟨rfl, by simp⟩ ?_)
                    | (apply CallI.of; assumption)
                    | (refine Rnd.enter g.lim ?_)
                    | (refine Bounds.at 0 (a.length + 1) (by omega) (by omega) (by omega) ?_ <;> (try dsimp only) <;> (rw [win_head]))
                    | (refine Bounds.at (a.length + 1) (a ++ 10 :: r).length (by omega) (by omega) (by omega) ?_ <;> (try dsimp only) <;> (rw [win_tail]))
                    | (refine Cmp.ff hs ?_)
                    | (refine Cmp.ff hl2 ?_)
                    | (refine CallI.of (s_mwhen g _ _) ?_)
                    | (refine CallI.of (s_mfirst2 g _ _) ?_)
                    | (refine Pick.now hpk ?_)
                    | (refine Pick.now rfl ?_)
                    | (refine Cmp.mk (fun h => ?_) (fun h => ?_))
                    | (refine Rem.any (by omega) (fun r hr he => ?_))
                    | (refine Br.mk (fun h => ?_) (fun h => ?_))
                    | (refine Ret.mk rfl))
              · rw [parseG_line hpa h0] at i4
                obtain ⟨j, hpl⟩ := s_lineP g a (by omega)
                generalize lineP a = q at *
                obtain ⟨x, e⟩ := q
                simp only at hpl i4
                by_cases he : e = 0
                · subst he
                  rw [if_neg (by simp)] at i4
                  by_cases h64 : 64 ≤ ls.length
                  · rw [if_pos h64] at i4
                    rw [← i4]
                    repeat' ((conv => whnf); first
                    | refine Br.tt ?_
                    | refine Br.ff ?_
                    | refine Need.w ?_
                    | refine Wr.w ?_
                    | refine Cmp.t ?_
                    | refine Cmp.f ?_
                    | refine Rem.w ?_
                    | refine Quo.w ?_
                    | refine PickV.now rfl ?_
                    | refine Pick.now rfl ?_
                    | refine Chk.mk rfl ?_
                    | refine PickW.w rfl ?_
                      | (refine Need.mk ⟨rfl, by simp⟩ ?_)
                      | (apply CallI.of; assumption)
                      | (refine Rnd.enter g.lim ?_)
                      | (refine Bounds.at 0 (a.length + 1) (by omega) (by omega) (by omega) ?_ <;> (try dsimp only) <;> (rw [win_head]))
                      | (refine Bounds.at (a.length + 1) (a ++ 10 :: r).length (by omega) (by omega) (by omega) ?_ <;> (try dsimp only) <;> (rw [win_tail]))
                      | (refine Cmp.ff hs ?_)
                      | (refine Cmp.ff h0 ?_)
                      | (refine CallI.of (s_mwhen g _ _) ?_)
                      | (refine CallI.of (s_mfirst2 g _ _) ?_)
                      | (refine Pick.now rfl ?_)
                      | (refine Ret.mk rfl))
                  · rw [if_neg h64] at i4
                    have ih := ih ⟨⟨ki, ai, se, da, ls ++ [x]⟩, i + 1, r, false⟩ ⟨by simp; omega, by simp only; omega, by simp only; omega, i4⟩ (by simp only; omega)
                    have e1 : (ls ++ [x]).length = ls.length + 1 := by simp
                    have e2 : (ls ++ [x]).flatMap Lnt.cells = ls.flatMap Lnt.cells ++ x.cells := by simp
                    dsimp only at ih
                    rw [e1, e2] at ih
                    have hfl := flatR_length Lnt.cells 14 Lnt.cells_length ls
                    repeat' ((conv => whnf); first
                    | refine Br.tt ?_
                    | refine Br.ff ?_
                    | refine Need.w ?_
                    | refine Wr.w ?_
                    | refine Cmp.t ?_
                    | refine Cmp.f ?_
                    | refine Rem.w ?_
                    | refine Quo.w ?_
                    | refine PickV.now rfl ?_
                    | refine Pick.now rfl ?_
                    | refine Chk.mk rfl ?_
                    | refine PickW.w rfl ?_
                      | (refine Need.mk ⟨rfl, by simp⟩ ?_)
                      | (apply CallI.of; assumption)
                      | (refine Rnd.enter g.lim ?_)
                      | (refine Bounds.at 0 (a.length + 1) (by omega) (by omega) (by omega) ?_ <;> (try dsimp only) <;> (rw [win_head]))
                      | (refine Bounds.at (a.length + 1) (a ++ 10 :: r).length (by omega) (by omega) (by omega) ?_ <;> (try dsimp only) <;> (rw [win_tail]))
                      | (refine Cmp.ff hs ?_)
                      | (refine Cmp.ff h0 ?_)
                      | (refine CallI.of (s_mwhen g _ _) ?_)
                      | (refine CallI.of (s_mfirst2 g _ _) ?_)
                      | (refine Pick.now rfl ?_)
                      | (refine Need.mk (by simp; omega) ?_)
                      | (refine LoopW.to ih rfl rfl))
                · rw [if_pos he] at i4
                  rw [← i4]
                  have hne : ∀ z, firstI [e, z] = e := fun z => by simp [firstI, he]
                  have hfst : ∀ z, Fc E n_message_first [.d (.list 2 [DI e, DI z])] (I e) := fun z => by
                    have := s_mfirst2 g e z
                    rw [hne] at this
                    exact this
                  repeat' ((conv => whnf); first
                  | refine Br.tt ?_
                  | refine Br.ff ?_
                  | refine Need.w ?_
                  | refine Wr.w ?_
                  | refine Cmp.t ?_
                  | refine Cmp.f ?_
                  | refine Rem.w ?_
                  | refine Quo.w ?_
                  | refine PickV.now rfl ?_
                  | refine Pick.now rfl ?_
                  | refine Chk.mk rfl ?_
                  | refine PickW.w rfl ?_
                    | (refine Need.mk ⟨rfl, by simp⟩ ?_)
                    | (apply CallI.of; assumption)
                    | (refine Rnd.enter g.lim ?_)
                    | (refine Bounds.at 0 (a.length + 1) (by omega) (by omega) (by omega) ?_ <;> (try dsimp only) <;> (rw [win_head]))
                    | (refine Bounds.at (a.length + 1) (a ++ 10 :: r).length (by omega) (by omega) (by omega) ?_ <;> (try dsimp only) <;> (rw [win_tail]))
                    | (refine Cmp.ff hs ?_)
                    | (refine Cmp.ff h0 ?_)
                    | (refine CallI.of (s_mwhen g _ _) ?_)
                    | (refine CallI.of (hfst _) ?_)
                    | (refine Pick.now rfl ?_)
                    | (refine Cmp.ff he ?_)
                    | (refine Cmp.mk (fun h => ?_) (fun h => ?_))
                    | (refine Rem.any (by omega) (fun r hr he => ?_))
                    | (refine Br.mk (fun h => ?_) (fun h => ?_))
                    | (refine Ret.mk rfl))
          · rw [if_pos rfl, parseO, if_pos hs] at i4
            rw [← i4]
            repeat' ((conv => whnf); first
            | refine Br.tt ?_
            | refine Br.ff ?_
            | refine Need.w ?_
            | refine Wr.w ?_
            | refine Cmp.t ?_
            | refine Cmp.f ?_
            | refine Rem.w ?_
            | refine Quo.w ?_
            | refine PickV.now rfl ?_
            | refine Pick.now rfl ?_
            | refine Chk.mk rfl ?_
            | refine PickW.w rfl ?_
              | (refine Need.mk ⟨rfl, by simp⟩ ?_)
              | (apply CallI.of; assumption)
              | (refine Rnd.enter g.lim ?_)
              | (refine Bounds.at 0 (a.length + 1) (by omega) (by omega) (by omega) ?_ <;> (try dsimp only) <;> (rw [win_head]))
              | (refine Bounds.at (a.length + 1) (a ++ 10 :: r).length (by omega) (by omega) (by omega) ?_ <;> (try dsimp only) <;> (rw [win_tail]))
              | (refine Cmp.ff hs ?_)
              | (refine Ret.mk rfl))
    · intro main
      refine LoopW.step g.lim ?_
      by_cases hs : s0 = []
      · subst hs
        have hp : parseM [] = (zeroM, 0, 28) := rfl
        rw [hp]
        repeat' ((conv => whnf); first
        | refine Br.tt ?_
        | refine Br.ff ?_
        | refine Need.w ?_
        | refine Wr.w ?_
        | refine Cmp.t ?_
        | refine Cmp.f ?_
        | refine Rem.w ?_
        | refine Quo.w ?_
        | refine PickV.now rfl ?_
        | refine Pick.now rfl ?_
        | refine Chk.mk rfl ?_
        | refine PickW.w rfl ?_
          | (refine Need.mk ⟨rfl, by simp⟩ ?_)
          | (refine Ret.mk rfl))
      · rcases pcs_cases s0 hs with ⟨hn, hp⟩ | ⟨a, r, hn, rfl, hp⟩
        · have hw : wholeB s0 = false := decide_eq_false fun e => by
            obtain ⟨t, e⟩ := List.getLast?_eq_some_iff.1 e
            exact hn (by rw [e]; simp)
          have he : endW s0 = s0 := by unfold endW; rw [hw]; rfl
          have hh := headP_nw hw
          have hv : parseM s0 = (zeroM, 0, 25) := by
            unfold parseM
            rw [if_neg hl0, hp]
            simp only [hh]
          rw [hv]
          have hx := s_IndexLF g s0
          rw [indexByte_no s0 hn] at hx
          have hcut := s_CutLF g s0 (by omega)
          rw [hw, he] at hcut
          have hsp := s_Split g s0 (by omega)
          have hpos : s0.length ≠ 0 := fun e => hs (List.length_eq_zero_iff.1 e)
          repeat' ((conv => whnf); first
          | refine Br.tt ?_
          | refine Br.ff ?_
          | refine Need.w ?_
          | refine Wr.w ?_
          | refine Cmp.t ?_
          | refine Cmp.f ?_
          | refine Rem.w ?_
          | refine Quo.w ?_
          | refine PickV.now rfl ?_
          | refine Pick.now rfl ?_
          | refine Chk.mk rfl ?_
          | refine PickW.w rfl ?_
            | (refine Need.mk ⟨rfl, by simp⟩ ?_)
            | (apply CallI.of; assumption)
            | (refine Rnd.enter g.lim ?_)
            | (refine Bounds.at 0 s0.length (by omega) (by omega) (by omega) ?_ <;> (try dsimp only) <;> (rw [win_all]))
            | (refine Cmp.ff hs ?_)
            | (refine CallS.head_none g hs0 hh rfl (fun h => ?_))
            | (refine Ret.mk rfl))
        · have hlen : (a ++ 10 :: r).length = a.length + (r.length + 1) := by simp
          have hx := s_IndexLF g (a ++ 10 :: r)
          rw [indexByte_lf a r hn] at hx
          have hpl : (a ++ [10]).length ≤ 1000000 := by simp; omega
          have hcut := s_CutLF g (a ++ [10]) hpl
          rw [(whole_lf _).1, (whole_lf _).2] at hcut
          have hsp := s_Split g a (by omega)
          cases hh : headP (a ++ [10]) with
          | none =>
            have hv : parseM (a ++ 10 :: r) = (zeroM, 0, 25) := by
              unfold parseM
              rw [if_neg hl0, hp]
              simp only [hh]
            rw [hv]
            repeat' ((conv => whnf); first
            | refine Br.tt ?_
            | refine Br.ff ?_
            | refine Need.w ?_
            | refine Wr.w ?_
            | refine Cmp.t ?_
            | refine Cmp.f ?_
            | refine Rem.w ?_
            | refine Quo.w ?_
            | refine PickV.now rfl ?_
            | refine Pick.now rfl ?_
            | refine Chk.mk rfl ?_
            | refine PickW.w rfl ?_
              | (refine Need.mk ⟨rfl, by simp⟩ ?_)
              | (apply CallI.of; assumption)
              | (refine Rnd.enter g.lim ?_)
              | (refine Bounds.at 0 (a.length + 1) (by omega) (by omega) (by omega) ?_ <;> (try dsimp only) <;> (rw [win_head]))
              | (refine Bounds.at (a.length + 1) (a ++ 10 :: r).length (by omega) (by omega) (by omega) ?_ <;> (try dsimp only) <;> (rw [win_tail]))
              | (refine Cmp.ff hs ?_)
              | (refine CallS.head_none g hpl hh rfl (fun h => ?_))
              | (refine Ret.mk rfl))
          | some h =>
            have hls := (headP_strict hh).1
            obtain ⟨ki, ai, se, da, ls⟩ := h
            simp only at hls
            subst hls
            have hv : parseM (a ++ 10 :: r) = parseG ⟨ki, ai, se, da, []⟩ 1 (pcs r) := by
              unfold parseM
              rw [if_neg hl0, hp]
              simp only [hh]
            have ih := main ⟨⟨ki, ai, se, da, []⟩, 1, r, false⟩ ⟨by simp, by simp, by simp only; omega, by rw [hv]; rfl⟩
            repeat' ((conv => whnf); first
            | refine Br.tt ?_
            | refine Br.ff ?_
            | refine Need.w ?_
            | refine Wr.w ?_
            | refine Cmp.t ?_
            | refine Cmp.f ?_
            | refine Rem.w ?_
            | refine Quo.w ?_
            | refine PickV.now rfl ?_
            | refine Pick.now rfl ?_
            | refine Chk.mk rfl ?_
            | refine PickW.w rfl ?_
              | (refine Need.mk ⟨rfl, by simp⟩ ?_)
              | (apply CallI.of; assumption)
              | (refine Rnd.enter g.lim ?_)
              | (refine Bounds.at 0 (a.length + 1) (by omega) (by omega) (by omega) ?_ <;> (try dsimp only) <;> (rw [win_head]))
              | (refine Bounds.at (a.length + 1) (a ++ 10 :: r).length (by omega) (by omega) (by omega) ?_ <;> (try dsimp only) <;> (rw [win_tail]))
              | (refine Cmp.ff hs ?_)
              | (refine CallS.head_some g hpl hh rfl ?_)
              | (refine LoopW.to ih rfl rfl))
end
end Go.Proofs.YtmjifdpcoaeehaaGreatDoor.Co
