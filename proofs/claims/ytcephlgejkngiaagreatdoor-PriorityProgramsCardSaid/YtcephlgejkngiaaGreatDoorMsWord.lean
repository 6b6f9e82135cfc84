
/-
  Messages: the words of a line, and how the reference prints them.
-/
import Derived.Test.YtcephlgejkngiaaGreatDoorMsReq
import Derived.Test.YtcephlgejkngiaaGreatDoorSpMsk
import Derived.Test.YtcephlgejkngiaaGreatDoorPlSplit
namespace Go.Proofs.YtcephlgejkngiaaGreatDoor.Co
open Go Go.Evl
def dashL (s : List UInt8) : List UInt8 := if s = [] then [45] else s
def wordsL (l : Lnt) : List (List UInt8) := [l.ac, l.rq.ca, l.rq.nm, l.rq.ki, l.rq.pa, wideL 5 l.rq.fr, wideL 5 l.rq.to, maskL l.rq.da.toNat, minL l.rq.mi, wideL 3 l.rq.se, wideL 1 l.rq.si, wideL 2 l.rq.no, dashL l.rq.te, dashL l.rq.li]
def lineL (l : Lnt) : List UInt8 := joined 32 (wordsL l)
theorem firstI_zero : ∀ l : List Int, firstI l = 0 ↔ ∀ x ∈ l, x = 0
  | [] => by simp [firstI]
  | x :: r => by
    simp only [firstI, List.mem_cons, forall_eq_or_imp]
    split
    · rename_i h; rw [firstI_zero r]; exact ⟨fun hr => ⟨h, hr⟩, fun hr => hr.2⟩
    · rename_i h; exact ⟨fun hr => absurd hr h, fun hr => absurd hr.1 h⟩
structure OkRq (q : Rqt) : Prop where
  nm : isNameB q.nm = true
  ca : isNameB q.ca = true
  pa : isNameB q.pa = true
  te : optB q.te = true
  li : optB q.li = true
  ki : kindB q.ki = true
  ne : q.li ≠ q.nm
  per : 0 ≤ q.fr ∧ q.fr ≤ q.to ∧ q.to ≤ 99999 ∧ q.to - q.fr ≤ 400 ∧ 1 ≤ q.da ∧ q.da ≤ 127
  mi : 0 ≤ q.mi ∧ q.mi ≤ 1439
  se : 0 ≤ q.se ∧ q.se ≤ 999
  si : 1 ≤ q.si ∧ q.si ≤ 9
  no : 0 ≤ q.no ∧ q.no ≤ 99
theorem nmE_zero {s : List UInt8} (h : nmE s = 0) : isNameB s = true := by
  unfold nmE at h
  cases hb : isNameB s with
  | true => rfl
  | false => rw [hb] at h; simp at h
theorem opE_zero {s : List UInt8} (h : opE s = 0) : optB s = true := by
  unfold opE at h
  cases hb : optB s with
  | true => rfl
  | false => rw [hb] at h; simp at h
theorem chkRq_ok {q : Rqt} (h : chkRq q = 0) : OkRq q := by
  unfold chkRq at h
  rw [firstI_zero] at h
  simp only [List.mem_cons, List.not_mem_nil, or_false, forall_eq_or_imp, forall_eq] at h
  obtain ⟨h1, h2, h3, h4, h5, h6, h7, h8, h9, h10, h11, h12⟩ := h
  refine ⟨nmE_zero h1, nmE_zero h2, nmE_zero h3, opE_zero h4, opE_zero h5, ?_, ?_, chkPer_zero.1 h8, rng_zero.1 h9, rng_zero.1 h10, rng_zero.1 h11, rng_zero.1 h12⟩
  · cases hb : kindB q.ki with
    | true => rfl
    | false => rw [hb] at h6; simp at h6
  · intro e; rw [if_pos e] at h7; cases h7
theorem chkLn_ok {l : Lnt} (h : chkLn l = 0) : actB l.ac = true ∧ OkRq l.rq := by
  rw [chkLn_eq] at h
  split at h
  · rename_i ha; exact ⟨ha, chkRq_ok h⟩
  · cases h
theorem name_len {s : List UInt8} (h : isNameB s = true) : s.length ≤ 24 := (of_decide_eq_true h).2.1
theorem opt_len {s : List UInt8} (h : optB s = true) : s.length ≤ 24 := by
  simp only [optB, Bool.or_eq_true, decide_eq_true_eq] at h
  rcases h with rfl | h
  · simp
  · exact name_len h
theorem kind_len {s : List UInt8} (h : kindB s = true) : s.length ≤ 24 := by
  simp only [kindB, Bool.or_eq_true, decide_eq_true_eq] at h
  rcases h with rfl | rfl <;> simp
theorem act_len {s : List UInt8} (h : actB s = true) : s.length ≤ 24 := by
  simp only [actB, asksB, repB, Bool.or_eq_true, decide_eq_true_eq, askL, repL, List.mem_cons, List.not_mem_nil, or_false] at h
  rcases h with (rfl | rfl | rfl | rfl | rfl) | rfl | rfl | rfl | rfl <;> simp
theorem dash_len {s : List UInt8} (h : optB s = true) : (dashL s).length ≤ 24 := by
  unfold dashL
  split
  · simp
  · exact opt_len h
theorem minL_length (m : Int) : (minL m).length = 4 := by simp [minL, wideL_length]
theorem maskL_length (m : Nat) : (maskL m).length = 7 := by simp [maskL]
theorem joined_len (b : UInt8) (n : Nat) : ∀ l : List (List UInt8), (∀ w ∈ l, w.length ≤ n) → (joined b l).length ≤ l.length * (n + 1)
  | [], _ => by simp [joined]
  | [x], h => by
    have := h x (by simp)
    simp only [joined, List.length_cons, List.length_nil]
    omega
  | x :: y :: r, h => by
    have h1 := h x (by simp)
    have h2 := joined_len b n (y :: r) fun w hw => h w (List.mem_cons_of_mem _ hw)
    rw [List.length_cons, Nat.succ_mul]
    simp only [joined, List.length_append, List.length_cons] at h2 ⊢
    omega
theorem words_len {l : Lnt} (ha : actB l.ac = true) (hq : OkRq l.rq) : ∀ w ∈ wordsL l, w.length ≤ 24 := by
  have h1 := act_len ha
  have h2 := name_len hq.ca
  have h3 := name_len hq.nm
  have h4 := name_len hq.pa
  have h5 := kind_len hq.ki
  have h6 := dash_len hq.te
  have h7 := dash_len hq.li
  simp only [wordsL, List.mem_cons, List.not_mem_nil, or_false, forall_eq_or_imp, forall_eq, wideL_length, minL_length, maskL_length]
  omega
theorem lineL_len {l : Lnt} (ha : actB l.ac = true) (hq : OkRq l.rq) : (lineL l).length ≤ 350 := by
  have := joined_len 32 24 (wordsL l) (words_len ha hq)
  have hw : (wordsL l).length = 14 := rfl
  rw [hw] at this
  exact Nat.le_trans this (by decide)
theorem joined_snoc (b : UInt8) (x : List UInt8) : ∀ l : List (List UInt8), l ≠ [] → joined b (l ++ [x]) = joined b l ++ b :: x
  | [], h => absurd rfl h
  | [y], _ => rfl
  | y :: z :: r, _ => by
    have := joined_snoc b x (z :: r) (by simp)
    simp only [List.cons_append] at this ⊢
    simp only [joined, this, List.append_assoc, List.cons_append]
theorem joined_mono (b : UInt8) (q : List (List UInt8)) : ∀ p : List (List UInt8), (joined b p).length ≤ (joined b (p ++ q)).length
  | [] => by simp [joined]
  | [y] => by
    cases q with
    | nil => simp
    | cons z r => simp [joined]
  | y :: z :: r => by
    have := joined_mono b q (z :: r)
    simp only [List.cons_append] at this ⊢
    simp only [joined, List.length_append, List.length_cons]
    omega
theorem joined_take (b : UInt8) (l : List (List UInt8)) (k : Nat) : (joined b (l.take k)).length ≤ (joined b l).length := by
  have := joined_mono b (l.drop k) (l.take k)
  rwa [List.take_append_drop] at this
theorem joined_step {b : UInt8} {l : List (List UInt8)} {k : Nat} (hk : k < l.length) : joined b (l.take (k + 1)) = if k = 0 then l[k] else joined b (l.take k) ++ b :: l[k] := by
  rw [List.take_add_one, List.getElem?_eq_getElem hk]
  simp only [Option.toList_some]
  split
  · rename_i h; subst h; rfl
  · exact joined_snoc b _ _ fun e => by
      have := congrArg List.length e
      rw [List.length_take, List.length_nil] at this
      omega
theorem strsOf_map : ∀ l : List (List UInt8), Evl.strsOf (l.map D.str) = some l
  | [] => rfl
  | x :: r => by simp only [List.map_cons, Evl.strsOf, strsOf_map r, Option.map_some]
section
variable {E : Oracle} (g : Good E)
include g
set_option maxRecDepth 100000
theorem s_Join (l : List (List UInt8)) (hn : l ≠ []) (hl : l.length ≤ 1000000) (hj : (joined 32 l).length ≤ 1000000) : Fc E n_strings_Join [.d (.list l.length (l.map D.str)), S [32]] (S (joined 32 l)) := by
  refine Fc.extern g.lim (x := joinX) rfl (v := S (joined 32 l)) (m' := []) ?_ rfl
  simp only [joinX, strsOf_map, join_joined]
  rw [if_pos ⟨trivial, by simpa using hn, hj, hl⟩]
end
end Go.Proofs.YtcephlgejkngiaaGreatDoor.Co
