
/-
  Plain laws: numbers, minutes, words and lines, printed and read: there and back.
-/
import Derived.Test.YtmjifdpcoaeehaaGreatDoorMsRead
import Derived.Test.YtmjifdpcoaeehaaGreatDoorMsWord
import Derived.Test.YtmjifdpcoaeehaaGreatDoorPlMsg
namespace Go.Proofs.YtmjifdpcoaeehaaGreatDoor.Co
open Go Go.Evl
theorem dig_of {b : UInt8} (h : dg b) : dig ((b.toNat : Int) - 48) = b := by
  unfold dig
  have h1 := h.1
  rw [show 48 + ((b.toNat : Int) - 48).toNat = b.toNat by omega, UInt8.ofNat_toNat]
theorem dig_nat {n : Int} (h : 0 ≤ n ∧ n ≤ 9) : (dig n).toNat = 48 + n.toNat := by
  unfold dig
  rw [UInt8.toNat_ofNat']
  omega
theorem dig_dg {n : Int} (h : 0 ≤ n ∧ n ≤ 9) : dg (dig n) := by
  unfold dg
  rw [dig_nat h]
  omega
theorem wide_back : ∀ (w : Nat) (s : List UInt8), s.length = w → (∀ x ∈ s, dg x) → wideL w (valA 0 s) = s
  | 0, s, h, _ => by
    obtain rfl := List.length_eq_zero_iff.1 h
    rfl
  | w + 1, s, h, hd => by
    have hne : s ≠ [] := fun e => by subst e; simp at h
    have e : s = s.dropLast ++ [s.getLast hne] := (List.dropLast_concat_getLast hne).symm
    have ih := wide_back w s.dropLast (by simp [h]) fun x hx => hd x (List.dropLast_subset s hx)
    have hl := hd _ (List.getLast_mem hne)
    have hv : valA 0 s = 10 * valA 0 s.dropLast + (((s.getLast hne).toNat : Int) - 48) := by
      conv => lhs; rw [e]
      rw [valA_append]
      rfl
    have hd := dig_of hl
    unfold dg at hl
    rw [hv]
    simp only [wideL]
    rw [show (10 * valA 0 s.dropLast + (((s.getLast hne).toNat : Int) - 48)) / 10 = valA 0 s.dropLast by omega, show (10 * valA 0 s.dropLast + (((s.getLast hne).toNat : Int) - 48)) % 10 = ((s.getLast hne).toNat : Int) - 48 by omega, ih, hd]
    exact e.symm
theorem val_wide : ∀ (w : Nat) (n : Int), 0 ≤ n → n < (10 ^ w : Nat) → valA 0 (wideL w n) = n
  | 0, n, h0, h1 => by
    simp at h1
    have : n = 0 := by omega
    subst this
    rfl
  | w + 1, n, h0, h1 => by
    rw [Nat.pow_succ] at h1
    have ih := val_wide w (n / 10) (by omega) (by omega)
    have hd := dig_nat (n := n % 10) (by omega)
    simp only [wideL, valA_append, ih, valA, hd]
    omega
theorem wide_dg : ∀ (w : Nat) (n : Int), ∀ x ∈ wideL w n, dg x
  | 0, _, x, h => by simp [wideL] at h
  | w + 1, n, x, h => by
    simp only [wideL, List.mem_append, List.mem_cons, List.not_mem_nil, or_false] at h
    rcases h with h | rfl
    · exact wide_dg w _ x h
    · exact dig_dg (by omega)
theorem numB_wide (w : Nat) (n : Int) : numB (wideL w n) w = true := decide_eq_true ⟨wideL_length w n, wide_dg w n⟩
theorem numV_wide {w : Nat} {n : Int} (h0 : 0 ≤ n) (h1 : n < (10 ^ w : Nat)) : numV (wideL w n) w = n := by
  unfold numV
  rw [if_pos (numB_wide w n), val_wide w n h0 h1]
theorem wide_numV {s : List UInt8} {w : Nat} (h : numB s w = true) : wideL w (numV s w) = s := by
  unfold numV
  rw [if_pos h]
  have h := of_decide_eq_true h
  exact wide_back w s h.1 h.2
theorem wide4 (n : Int) : wideL 2 (n / 100) ++ wideL 2 (n % 100) = wideL 4 n := by
  have e1 : n / 100 / 10 = n / 10 / 10 / 10 := by omega
  have e2 : n / 100 % 10 = n / 10 / 10 % 10 := by omega
  have e3 : n % 100 / 10 % 10 = n / 10 % 10 := by omega
  have e4 : n % 100 % 10 = n % 10 := by omega
  simp only [wideL, List.nil_append, List.cons_append, e1, e2, e3, e4]
theorem minP_minL {m : Int} (h : 0 ≤ m ∧ m ≤ 1439) : minP (minL m) ∧ minV (minL m) = m := by
  have e : minL m = wideL 4 (m / 60 * 100 + m % 60) := by
    rw [← wide4, show (m / 60 * 100 + m % 60) / 100 = m / 60 by omega, show (m / 60 * 100 + m % 60) % 100 = m % 60 by omega]
    rfl
  have hv := val_wide 4 (m / 60 * 100 + m % 60) (by omega) (by omega)
  rw [e]
  refine ⟨⟨numB_wide 4 _, ?_, ?_⟩, ?_⟩
  · rw [hv]; omega
  · rw [hv]; omega
  · unfold minV; rw [hv]; omega
theorem minL_minV {s : List UInt8} (h : minP s) : (0 ≤ minV s ∧ minV s ≤ 1439) ∧ minL (minV s) = s := by
  obtain ⟨h1, h2, h3⟩ := h
  have hv := numB_val h1
  have hb := of_decide_eq_true h1
  have e := wide_back 4 s hb.1 hb.2
  rw [← wide4] at e
  unfold minV minL
  rw [show (valA 0 s / 100 * 60 + valA 0 s % 100) / 60 = valA 0 s / 100 by omega, show (valA 0 s / 100 * 60 + valA 0 s % 100) % 60 = valA 0 s % 100 by omega]
  exact ⟨by omega, e⟩
theorem undash_dash {s : List UInt8} (h : optB s = true) : undash (dashL s) = s ∧ dfit (dashL s) = true := by
  unfold dashL
  by_cases he : s = []
  · subst he; exact ⟨rfl, rfl⟩
  · rw [if_neg he]
    have hn : isNameB s = true := by
      unfold optB at h
      rw [decide_eq_false he, Bool.false_or] at h
      exact h
    have hd : s ≠ [45] := fun e => by
      rw [e] at hn
      exact absurd hn (by decide)
    refine ⟨by unfold undash; rw [if_neg hd], ?_⟩
    unfold dfit
    rw [hn, Bool.or_true]
theorem dash_undash {s : List UInt8} (h : dfit s = true) : dashL (undash s) = s ∧ optB (undash s) = true := by
  unfold undash
  by_cases he : s = [45]
  · rw [if_pos he, he]; exact ⟨rfl, rfl⟩
  · rw [if_neg he]
    have hn : isNameB s = true := by
      unfold dfit at h
      rw [decide_eq_false he, Bool.false_or] at h
      exact h
    have hz : s ≠ [] := fun e => by
      rw [e] at hn
      exact absurd hn (by decide)
    refine ⟨by unfold dashL; rw [if_neg hz], ?_⟩
    unfold optB
    rw [hn, Bool.or_true]
def vis (s : List UInt8) : Prop := ∀ x ∈ s, 32 < x.toNat
theorem vis_no {s : List UInt8} (h : vis s) : (32 : UInt8) ∉ s ∧ (10 : UInt8) ∉ s := ⟨fun hm => absurd (h _ hm) (by decide), fun hm => absurd (h _ hm) (by decide)⟩
theorem vis_name {s : List UInt8} (h : isNameB s = true) : vis s := by
  have h := (of_decide_eq_true h).2.2
  intro x hx
  obtain ⟨i, hi, rfl⟩ := List.getElem_of_mem hx
  have := h i hi
  rw [show s.getD i 0 = s[i] by simp [List.getD, hi]] at this
  unfold okCh at this
  omega
theorem vis_dg {s : List UInt8} (h : ∀ x ∈ s, dg x) : vis s := fun x hx => by
  have := (h x hx).1
  omega
theorem vis_dash {s : List UInt8} (h : optB s = true) : vis (dashL s) := by
  unfold dashL
  by_cases he : s = []
  · rw [if_pos he]
    intro x hx
    rcases List.mem_cons.1 hx with rfl | hx
    · decide
    · exact absurd hx List.not_mem_nil
  · rw [if_neg he]
    unfold optB at h
    rw [decide_eq_false he, Bool.false_or] at h
    exact vis_name h
theorem vis_kind {s : List UInt8} (h : kindB s = true) : vis s := by
  simp only [kindB, Bool.or_eq_true, decide_eq_true_eq] at h
  rcases h with rfl | rfl <;> (intro x hx; simp at hx; subst hx; decide)
theorem vis_act {s : List UInt8} (h : actB s = true) : vis s := by
  simp only [actB, asksB, repB, Bool.or_eq_true, decide_eq_true_eq, askL, repL, List.mem_cons, List.not_mem_nil, or_false] at h
  rcases h with (rfl | rfl | rfl | rfl | rfl) | rfl | rfl | rfl | rfl <;> (intro x hx; simp at hx; subst hx; decide)
theorem vis_mask (m : Nat) : vis (maskL m) := by
  intro x hx
  simp only [maskL, List.mem_map, List.mem_range] at hx
  obtain ⟨w, hw, rfl⟩ := hx
  split
  · have : w = 0 ∨ w = 1 ∨ w = 2 ∨ w = 3 ∨ w = 4 ∨ w = 5 ∨ w = 6 := by omega
    rcases this with rfl | rfl | rfl | rfl | rfl | rfl | rfl <;> decide
  · decide
theorem vis_min (m : Int) : vis (minL m) := by
  intro x hx
  simp only [minL, List.mem_append] at hx
  have h : dg x := hx.elim (wide_dg 2 _ x) (wide_dg 2 _ x)
  have := h.1
  omega
theorem vis_words {l : Lnt} (ha : actB l.ac = true) (hq : OkRq l.rq) : ∀ w ∈ wordsL l, vis w := by
  simp only [wordsL, List.mem_cons, List.not_mem_nil, or_false, forall_eq_or_imp, forall_eq]
  exact ⟨vis_act ha, vis_name hq.ca, vis_name hq.nm, vis_kind hq.ki, vis_name hq.pa, vis_dg (wide_dg _ _), vis_dg (wide_dg _ _), vis_mask _, vis_min _, vis_dg (wide_dg _ _), vis_dg (wide_dg _ _), vis_dg (wide_dg _ _), vis_dash hq.te, vis_dash hq.li⟩
theorem joined_mem (b : UInt8) : ∀ (l : List (List UInt8)) (x : UInt8), x ∈ joined b l → x = b ∨ ∃ w ∈ l, x ∈ w
  | [], x, h => by simp [joined] at h
  | [y], x, h => .inr ⟨y, by simp, h⟩
  | y :: z :: r, x, h => by
    simp only [joined, List.mem_append, List.mem_cons] at h
    rcases h with h | h | h
    · exact .inr ⟨y, by simp, h⟩
    · exact .inl h
    · rcases joined_mem b (z :: r) x h with h | ⟨w, hw, h⟩
      · exact .inl h
      · exact .inr ⟨w, List.mem_cons_of_mem _ hw, h⟩
def wOf (l : Lnt) : W14 := ⟨l.ac, l.rq.ca, l.rq.nm, l.rq.ki, l.rq.pa, wideL 5 l.rq.fr, wideL 5 l.rq.to, maskL l.rq.da.toNat, minL l.rq.mi, wideL 3 l.rq.se, wideL 1 l.rq.si, wideL 2 l.rq.no, dashL l.rq.te, dashL l.rq.li⟩
theorem wOf_list (l : Lnt) : (wOf l).list = wordsL l := rfl
def zeroN : Lnt := ⟨[], ⟨[], [], [], [], [], [], 0, 0, 0, 0, 0, 0, 0⟩⟩
def lineW (w : W14) : Lnt × Int := if firstF w.fits = 14 then (if chkLn w.line = 0 then (w.line, 0) else (zeroN, chkLn w.line)) else (zeroN, 25)
def wList (l : List (List UInt8)) : Option W14 :=
  match l with
  | [a0, a1, a2, a3, a4, a5, a6, a7, a8, a9, a10, a11, a12, a13] => some ⟨a0, a1, a2, a3, a4, a5, a6, a7, a8, a9, a10, a11, a12, a13⟩
  | _ => none
theorem wList_list (w : W14) : wList w.list = some w := rfl
theorem wList_some {l : List (List UInt8)} {w : W14} (h : wList l = some w) : l = w.list := by
  unfold wList at h
  split at h
  · obtain rfl := Option.some.inj h; rfl
  · cases h
theorem wList_none {l : List (List UInt8)} (h : wList l = none) : l.length ≠ 14 := fun e => by
  obtain ⟨w, hw⟩ := w14_of e
  rw [hw, wList_list] at h
  cases h
def lineP (s : List UInt8) : Lnt × Int :=
  match wList (parts 32 s) with
  | some w => lineW w
  | none => (zeroN, 25)
theorem allF : ∀ (bs : List Bool), (∀ b ∈ bs, b = true) → firstF bs = bs.length
  | [], _ => rfl
  | b :: r, h => by
    have hb := h b (by simp)
    subst hb
    simp only [firstF, List.length_cons, allF r fun b hb => h b (List.mem_cons_of_mem _ hb)]
theorem firstF_le : ∀ bs : List Bool, firstF bs ≤ bs.length
  | [] => Nat.le_refl _
  | true :: r => by simp only [firstF, List.length_cons]; have := firstF_le r; omega
  | false :: r => by simp [firstF]
theorem allT : ∀ (bs : List Bool), firstF bs = bs.length → ∀ b ∈ bs, b = true
  | [], _, b, h => absurd h List.not_mem_nil
  | true :: r, e, b, h => by
    simp only [firstF, List.length_cons] at e
    rcases List.mem_cons.1 h with rfl | h
    · rfl
    · exact allT r (by omega) b h
  | false :: r, e, _, _ => by simp [firstF] at e
theorem per_mask {q : Rqt} (hq : OkRq q) : isMaskT (maskL q.da.toNat) ∧ mskV (maskL q.da.toNat) = q.da := by
  obtain ⟨_, _, _, _, p5, p6⟩ := hq.per
  have := isMaskT_of (m := q.da.toNat) (by omega) (by omega) rfl
  refine ⟨this.1, ?_⟩
  unfold mskV
  rw [if_pos this.1, this.2]
  omega
set_option maxRecDepth 4000 in
theorem wOf_line {l : Lnt} (h : chkLn l = 0) : firstF (wOf l).fits = 14 ∧ (wOf l).line = l := by
  obtain ⟨ha, hq⟩ := chkLn_ok h
  obtain ⟨p1, p2, p3, p4, p5, p6⟩ := hq.per
  obtain ⟨m1, m2⟩ := minP_minL hq.mi
  obtain ⟨k1, k2⟩ := per_mask hq
  obtain ⟨d1, d2⟩ := undash_dash hq.te
  obtain ⟨d3, d4⟩ := undash_dash hq.li
  constructor
  · refine allF _ ?_
    simp only [W14.fits, wOf, List.mem_cons, List.not_mem_nil, or_false, forall_eq_or_imp, forall_eq]
    exact ⟨ha, hq.ca, hq.nm, hq.ki, hq.pa, numB_wide _ _, numB_wide _ _, decide_eq_true k1, decide_eq_true m1, numB_wide _ _, numB_wide _ _, numB_wide _ _, d2, d4⟩
  · have hm : minW (minL l.rq.mi) = l.rq.mi := by unfold minW; rw [if_pos m1, m2]
    have n1 := numV_wide (w := 5) (n := l.rq.fr) (by omega) (by omega)
    have n2 := numV_wide (w := 5) (n := l.rq.to) (by omega) (by omega)
    have n3 := numV_wide (w := 3) (n := l.rq.se) hq.se.1 (by have := hq.se.2; omega)
    have n4 := numV_wide (w := 1) (n := l.rq.si) (by have := hq.si.1; omega) (by have := hq.si.2; omega)
    have n5 := numV_wide (w := 2) (n := l.rq.no) hq.no.1 (by have := hq.no.2; omega)
    obtain ⟨ac, ⟨nm, ca, ki, te, pa, li, fr, to, da, mi, se, si, no⟩⟩ := l
    simp only [W14.line, wOf] at *
    simp only [d1, d3, k2, hm, n1, n2, n3, n4, n5]
theorem words_ne (l : Lnt) : wordsL l ≠ [] := by simp [wordsL]
theorem line_parts {l : Lnt} (h : chkLn l = 0) : parts 32 (lineL l) = wordsL l := by
  obtain ⟨ha, hq⟩ := chkLn_ok h
  exact parts_joined 32 _ (words_ne l) fun w hw => (vis_no (vis_words ha hq w hw)).1
theorem lineP_back {l : Lnt} (h : chkLn l = 0) : lineP (lineL l) = (l, 0) := by
  obtain ⟨h1, h2⟩ := wOf_line h
  unfold lineP
  rw [line_parts h, ← wOf_list, wList_list]
  show lineW (wOf l) = _
  unfold lineW
  rw [if_pos h1, h2, if_pos h]
theorem line_nolf {l : Lnt} (h : chkLn l = 0) : (10 : UInt8) ∉ lineL l := by
  obtain ⟨ha, hq⟩ := chkLn_ok h
  intro hm
  rcases joined_mem 32 _ _ hm with h | ⟨w, hw, h⟩
  · exact absurd h (by decide)
  · exact (vis_no (vis_words ha hq w hw)).2 h
theorem lineP_strict {s : List UInt8} {l : Lnt} (h : lineP s = (l, 0)) : chkLn l = 0 ∧ lineL l = s := by
  unfold lineP at h
  split at h
  · rename_i w hw
    have hs := wList_some hw
    unfold lineW at h
    split at h
    · rename_i hf
      split at h
      · rename_i hc
        obtain ⟨rfl, _⟩ := Prod.mk.inj h
        refine ⟨hc, ?_⟩
        have hb := allT w.fits (by rw [hf]; rfl)
        simp only [W14.fits, List.mem_cons, List.not_mem_nil, or_false, forall_eq_or_imp, forall_eq] at hb
        obtain ⟨_, _, _, _, _, b5, b6, b7, b8, b9, b10, b11, b12, b13⟩ := hb
        have e : wordsL w.line = w.list := by
          have b7 := of_decide_eq_true b7
          have b8 := of_decide_eq_true b8
          have hm : mskV w.a7 = (maskS w.a7 : Int) := by unfold mskV; rw [if_pos b7]
          have hn : minW w.a8 = minV w.a8 := by unfold minW; rw [if_pos b8]
          simp only [wordsL, W14.line, W14.list, wide_numV b5, wide_numV b6, wide_numV b9, wide_numV b10, wide_numV b11, (dash_undash b12).1, (dash_undash b13).1, hm, hn, (minL_minV b8).2, Int.toNat_natCast, b7.2]
        unfold lineL
        rw [e, ← hs, joined_parts]
      · rename_i hc
        exact absurd (Prod.mk.inj h).2 hc
    · exact absurd (Prod.mk.inj h).2 (by decide)
  · exact absurd (Prod.mk.inj h).2 (by decide)
end Go.Proofs.YtmjifdpcoaeehaaGreatDoor.Co
