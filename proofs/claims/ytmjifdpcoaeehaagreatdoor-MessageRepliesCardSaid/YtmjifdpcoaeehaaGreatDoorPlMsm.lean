
/-
  Messages: their check, their text and what a text says, in plain terms; there and back.
-/
import Derived.Test.YtmjifdpcoaeehaaGreatDoorMsMsg
import Derived.Test.YtmjifdpcoaeehaaGreatDoorPlMsl
namespace Go.Proofs.YtmjifdpcoaeehaaGreatDoor.Co
open Go Go.Evl
abbrev LL (ls : List Lnt) : V := .d (.list ls.length (ls.flatMap Lnt.cells))
def twinB (a b : Rqt) : Bool := decide (a.ca = b.ca) && decide (a.nm = b.nm)
def openO : Option Lnt → Bool
  | some y => decide (y.ac = [67])
  | none => false
def twinO (x : Lnt) : Option Lnt → Bool
  | some y => twinB y.rq x.rq
  | none => false
def lnE (kind : List UInt8) (p : Option Lnt) (x : Lnt) : Int :=
  firstI [chkLn x, if actK x.ac = kind then 0 else 18, if (openO p || decide (x.ac = [82])) && !(openO p && decide (x.ac = [82]) && twinO x p) then 11 else 0]
def chkLs (kind : List UInt8) : Option Lnt → Nat → List Lnt → Nat × Int
  | p, i, [] => if openO p then (i - 1, 11) else (0, 0)
  | p, i, x :: r => if lnE kind p x = 0 then chkLs kind (some x) (i + 1) r else (i, lnE kind p x)
theorem chkLs_zero {kind : List UInt8} : ∀ (ls : List Lnt) (p : Option Lnt) (i : Nat), (chkLs kind p i ls).2 = 0 → chkLs kind p i ls = (0, 0) ∧ ∀ x ∈ ls, chkLn x = 0
  | [], p, i, h => by
    simp only [chkLs] at h ⊢
    split at h
    · cases h
    · rename_i hn; rw [if_neg hn]; exact ⟨rfl, by simp⟩
  | x :: r, p, i, h => by
    simp only [chkLs] at h ⊢
    split at h
    · rename_i hz
      rw [if_pos hz]
      have ih := chkLs_zero r _ _ h
      refine ⟨ih.1, fun y hy => ?_⟩
      rcases List.mem_cons.1 hy with rfl | hy
      · exact (firstI_zero _).1 hz _ (by simp)
      · exact ih.2 y hy
    · rename_i hz; exact absurd h hz
structure Mst where
  (ki ai se : List UInt8)
  da : Int
  ls : List Lnt
def Mst.cells (m : Mst) : List D := [.str m.ki, .str m.ai, .str m.se, DI m.da, .list m.ls.length (m.ls.flatMap Lnt.cells)]
abbrev Msv (m : Mst) : V := .d (.agg m.cells)
def zeroM : Mst := ⟨[], [], [], 0, []⟩
def chkMs (m : Mst) : Int := firstI [if (!msgB m.ki) = true then 13 else 0, headE m.ai m.se m.da, if 64 < m.ls.length then 5 else 0, (chkLs m.ki none 0 m.ls).2]
structure OkMs (m : Mst) : Prop where
  ki : msgB m.ki = true
  hd : headE m.ai m.se m.da = 0
  ln : m.ls.length ≤ 64
  ok : (chkLs m.ki none 0 m.ls).2 = 0
theorem chkMs_ok {m : Mst} : chkMs m = 0 ↔ OkMs m := by
  unfold chkMs
  rw [firstI_zero]
  simp only [List.mem_cons, List.not_mem_nil, or_false, forall_eq_or_imp, forall_eq]
  constructor
  · rintro ⟨h1, h2, h3, h4⟩
    refine ⟨?_, h2, ?_, h4⟩
    · cases hb : msgB m.ki with
      | true => rfl
      | false => rw [hb] at h1; simp at h1
    · rcases Nat.lt_or_ge 64 m.ls.length with h | h
      · rw [if_pos h] at h3; cases h3
      · exact h
  · rintro ⟨h1, h2, h3, h4⟩
    exact ⟨by rw [h1]; rfl, h2, if_neg (by omega), h4⟩
abbrev SLOTS : List UInt8 := [83, 76, 79, 84, 83]
abbrev ENDW : List UInt8 := [69, 78, 68]
def headT (m : Mst) : List UInt8 := joined 32 [SLOTS, m.ki, m.ai, m.se, wideL 5 m.da]
def endT (n : Nat) : List UInt8 := joined 32 [ENDW, wideL 2 n]
def linesL (ls : List Lnt) : List UInt8 := ls.flatMap fun l => lineL l ++ [10]
def msgL (m : Mst) : List UInt8 := (headT m ++ [10]) ++ (linesL m.ls ++ (endT m.ls.length ++ [10]))
theorem head_parts {ai se : List UInt8} {da : Int} (h : headE ai se da = 0) : vis ai ∧ vis se ∧ ai.length ≤ 24 ∧ 1 ≤ ai.length ∧ se.length = 5 ∧ 0 ≤ da ∧ da ≤ 99999 := by
  unfold headE at h
  rw [firstI_zero] at h
  simp only [List.mem_cons, List.not_mem_nil, or_false, forall_eq_or_imp, forall_eq] at h
  obtain ⟨h1, h2, h3⟩ := h
  have hn := nmE_zero h1
  have hs : seasB se = true := by
    cases hb : seasB se with
    | true => rfl
    | false => rw [hb] at h2; simp at h2
  have hr := rng_zero.1 h3
  unfold seasB at hs
  simp only [Bool.and_eq_true, decide_eq_true_eq] at hs
  obtain ⟨⟨hl, hc⟩, hd⟩ := hs
  refine ⟨vis_name hn, ?_, name_len hn, (of_decide_eq_true hn).1, hl, hr.1, hr.2⟩
  match se, hl with
  | [a, b, c, d, e], _ =>
    have hd := (of_decide_eq_true hd).2
    simp only [win, List.length_cons, List.length_nil, List.drop_succ_cons, List.drop_zero] at hd
    have hw := vis_dg hd
    simp only [List.getD, List.getElem?_cons_zero, Option.getD_some] at hc
    intro x hx
    rcases List.mem_cons.1 hx with rfl | hx
    · omega
    · exact hw x hx
theorem vis_msg {s : List UInt8} (h : msgB s = true) : vis s ∧ s.length = 3 := by
  simp only [msgB, Bool.or_eq_true, decide_eq_true_eq] at h
  rcases h with rfl | rfl
  all_goals
    refine ⟨fun x hx => ?_, rfl⟩
    simp only [List.mem_cons, List.not_mem_nil, or_false] at hx
    rcases hx with rfl | rfl | rfl <;> decide
theorem vis_lit : vis SLOTS ∧ vis ENDW := by
  constructor
  all_goals
    intro x hx
    simp only [List.mem_cons, List.not_mem_nil, or_false] at hx
    rcases hx with rfl | rfl | rfl | rfl | rfl <;> decide
theorem headW_vis {m : Mst} (h : OkMs m) : ∀ w ∈ [SLOTS, m.ki, m.ai, m.se, wideL 5 m.da], vis w := by
  obtain ⟨h1, h2, _⟩ := head_parts h.hd
  simp only [List.mem_cons, List.not_mem_nil, or_false, forall_eq_or_imp, forall_eq]
  exact ⟨vis_lit.1, (vis_msg h.ki).1, h1, h2, vis_dg (wide_dg _ _)⟩
theorem joined_nolf {l : List (List UInt8)} (h : ∀ w ∈ l, vis w) : (10 : UInt8) ∉ joined 32 l := fun hm => by
  rcases joined_mem 32 _ _ hm with h | ⟨w, hw, h'⟩
  · exact absurd h (by decide)
  · exact (vis_no (h w hw)).2 h'
theorem endW_vis (n : Nat) : ∀ w ∈ [ENDW, wideL 2 n], vis w := by
  simp only [List.mem_cons, List.not_mem_nil, or_false, forall_eq_or_imp, forall_eq]
  exact ⟨vis_lit.2, vis_dg (wide_dg _ _)⟩
theorem line_len {l : Lnt} (h : chkLn l = 0) : (lineL l).length ≤ 208 := by
  obtain ⟨ha, hq⟩ := chkLn_ok h
  have h1 := act_len ha
  have h2 := name_len hq.ca
  have h3 := name_len hq.nm
  have h4 := name_len hq.pa
  have h5 := kind_len hq.ki
  have h6 := dash_len hq.te
  have h7 := dash_len hq.li
  simp only [lineL, wordsL, joined, List.length_append, List.length_cons, wideL_length, minL_length, maskL_length]
  omega
theorem linesL_len : ∀ ls : List Lnt, (∀ x ∈ ls, chkLn x = 0) → (linesL ls).length ≤ ls.length * 209
  | [], _ => by simp [linesL]
  | l :: ls, h => by
    have ih := linesL_len ls fun x hx => h x (List.mem_cons_of_mem _ hx)
    have hl := line_len (h l (by simp))
    simp only [linesL, List.flatMap_cons, List.length_append, List.length_cons, List.length_nil] at ih ⊢
    omega
theorem headT_len {m : Mst} (h : OkMs m) : 23 ≤ (headT m).length ∧ (headT m).length ≤ 46 := by
  obtain ⟨_, _, h3, h4, h5, _, _⟩ := head_parts h.hd
  have h6 := (vis_msg h.ki).2
  simp only [headT, joined, List.length_append, List.length_cons, List.length_nil, wideL_length]
  omega
theorem endT_len (n : Nat) : (endT n).length = 6 := by simp [endT, joined, wideL_length]
theorem msg_len {m : Mst} (h : OkMs m) : 24 ≤ (msgL m).length ∧ (msgL m).length ≤ m.ls.length * 209 + 54 := by
  have h1 := headT_len h
  have h2 := linesL_len m.ls (chkLs_zero _ _ _ h.ok).2
  have h3 := endT_len m.ls.length
  simp only [msgL, List.length_append, List.length_cons, List.length_nil]
  omega
def wholeB (p : List UInt8) : Bool := decide (p.getLast? = some 10)
def endW (p : List UInt8) : List UInt8 := if wholeB p then p.dropLast else p
theorem whole_lf (a : List UInt8) : wholeB (a ++ [10]) = true ∧ endW (a ++ [10]) = a := by
  have h : wholeB (a ++ [10]) = true := by simp [wholeB]
  refine ⟨h, ?_⟩
  unfold endW
  rw [if_pos h]
  simp
theorem whole_eq {p : List UInt8} (h : wholeB p = true) : p = endW p ++ [10] := by
  unfold endW
  rw [if_pos h]
  unfold wholeB at h
  have h := of_decide_eq_true h
  obtain ⟨ys, e⟩ := List.getLast?_eq_some_iff.1 h
  rw [e]; simp
def headP (p : List UInt8) : Option Mst :=
  match parts 32 (endW p) with
  | [w0, w1, w2, w3, w4] => if wholeB p = true ∧ w0 = SLOTS ∧ msgB w1 = true ∧ numB w4 5 = true ∧ headE w2 w3 (valA 0 w4) = 0 then some ⟨w1, w2, w3, valA 0 w4, []⟩ else none
  | _ => none
def parseG (m : Mst) (i : Nat) : List (List UInt8) → Mst × Nat × Int
  | [] => (zeroM, i, 28)
  | p :: r =>
    if wholeB p = false then (zeroM, i, 25)
    else if (parts 32 (endW p)).head? ≠ some ENDW then
      (if (lineP (endW p)).2 ≠ 0 then (zeroM, i, (lineP (endW p)).2)
      else if 64 ≤ m.ls.length then (zeroM, i, 5)
      else parseG { m with ls := m.ls ++ [(lineP (endW p)).1] } (i + 1) r)
    else
      match parts 32 (endW p) with
      | [_, x] =>
        if numB x 2 = false then (zeroM, i, 25)
        else if valA 0 x ≠ m.ls.length then (zeroM, i, 27)
        else if r ≠ [] then (zeroM, i + 1, 25)
        else if (chkLs m.ki none 0 m.ls).2 ≠ 0 then (zeroM, (chkLs m.ki none 0 m.ls).1 + 1, (chkLs m.ki none 0 m.ls).2)
        else (m, 0, 0)
      | _ => (zeroM, i, 25)
def parseM (s : List UInt8) : Mst × Nat × Int :=
  if 16384 < s.length then (zeroM, 0, 26) else
  match pcs s with
  | [] => (zeroM, 0, 28)
  | p :: r =>
    match headP p with
    | none => (zeroM, 0, 25)
    | some m => parseG m 1 r
theorem parseG_zero : ∀ (ps : List (List UInt8)) (m : Mst) (i : Nat), (parseG m i ps).2.2 ≠ 0 → (parseG m i ps).1 = zeroM
  | [], m, i, _ => rfl
  | p :: r, m, i, h => by
    unfold parseG at h ⊢
    split
    · rfl
    · rename_i h1
      rw [if_neg h1] at h
      split
      · rename_i h2
        rw [if_pos h2] at h
        split
        · rfl
        · rename_i h3
          rw [if_neg h3] at h
          split
          · rfl
          · rename_i h4
            rw [if_neg h4] at h
            exact parseG_zero r _ _ h
      · rename_i h2
        rw [if_neg h2] at h
        split
        · rename_i x he
          rw [he] at h
          simp only at h
          split
          · rfl
          · rename_i h3
            rw [if_neg h3] at h
            split
            · rfl
            · rename_i h4
              rw [if_neg h4] at h
              split
              · rfl
              · rename_i h5
                rw [if_neg h5] at h
                split
                · rfl
                · rename_i h6
                  rw [if_neg h6] at h
                  exact absurd rfl h
        · rfl
theorem parseM_zero (s : List UInt8) (h : (parseM s).2.2 ≠ 0) : (parseM s).1 = zeroM := by
  unfold parseM at h ⊢
  split
  · rfl
  · rename_i h1
    rw [if_neg h1] at h
    split
    · rfl
    · rename_i p r he
      rw [he] at h
      simp only at h
      split
      · rfl
      · rename_i m hm
        rw [hm] at h
        exact parseG_zero _ _ _ h
theorem pcs_lines (t : List UInt8) : ∀ ls : List Lnt, (∀ x ∈ ls, chkLn x = 0) → pcs (linesL ls ++ t) = (ls.map fun l => lineL l ++ [10]) ++ pcs t
  | [], _ => rfl
  | l :: ls, h => by
    have ih := pcs_lines t ls fun x hx => h x (List.mem_cons_of_mem _ hx)
    have e : linesL (l :: ls) ++ t = lineL l ++ 10 :: (linesL ls ++ t) := by simp [linesL]
    rw [e, pcs_lf _ _ (line_nolf (h l (by simp))), ih]
    rfl
theorem pcs_msg {m : Mst} (h : OkMs m) (t : List UInt8) : pcs (msgL m ++ t) = (headT m ++ [10]) :: ((m.ls.map fun l => lineL l ++ [10]) ++ ((endT m.ls.length ++ [10]) :: pcs t)) := by
  have e : msgL m ++ t = headT m ++ 10 :: (linesL m.ls ++ (endT m.ls.length ++ 10 :: t)) := by simp [msgL]
  have n1 : (10 : UInt8) ∉ headT m := joined_nolf (headW_vis h)
  have n2 : (10 : UInt8) ∉ endT m.ls.length := joined_nolf (endW_vis _)
  rw [e, pcs_lf _ _ n1, pcs_lines _ _ (chkLs_zero _ _ _ h.ok).2, pcs_lf _ _ n2]
theorem line_head {l : Lnt} (h : chkLn l = 0) : (parts 32 (lineL l)).head? = some l.ac ∧ l.ac ≠ ENDW := by
  rw [line_parts h]
  refine ⟨rfl, fun e => ?_⟩
  have := (chkLn_ok h).1
  rw [e] at this
  exact absurd this (by decide)
theorem parseG_lines (rest : List (List UInt8)) : ∀ (ls : List Lnt) (m : Mst) (i : Nat), (∀ x ∈ ls, chkLn x = 0) → m.ls.length + ls.length ≤ 64 → parseG m i ((ls.map fun l => lineL l ++ [10]) ++ rest) = parseG { m with ls := m.ls ++ ls } (i + ls.length) rest
  | [], m, i, _, _ => by simp
  | l :: ls, m, i, h, hn => by
    have hl := h l (by simp)
    have hh := line_head hl
    simp only [List.length_cons] at hn
    have ih := parseG_lines rest ls { m with ls := m.ls ++ [l] } (i + 1) (fun x hx => h x (List.mem_cons_of_mem _ hx)) (by simp; omega)
    simp only [List.map_cons, List.cons_append]
    rw [parseG, (whole_lf _).1, (whole_lf _).2, if_neg (by decide), if_pos (by rw [hh.1]; simpa using hh.2), lineP_back hl, if_neg (by simp), if_neg (by omega), ih]
    simp only [List.append_assoc, List.cons_append, List.nil_append, List.length_cons]
    rw [show i + 1 + ls.length = i + (ls.length + 1) by omega]
theorem head_back {m : Mst} (h : OkMs m) : headP (headT m ++ [10]) = some ⟨m.ki, m.ai, m.se, m.da, []⟩ := by
  obtain ⟨_, _, _, _, _, d1, d2⟩ := head_parts h.hd
  unfold headP
  rw [(whole_lf _).1, (whole_lf _).2, headT, parts_joined 32 _ (by simp) fun w hw => (vis_no (headW_vis h w hw)).1]
  have hv := val_wide 5 m.da d1 (by omega)
  simp only [hv, h.ki, numB_wide, h.hd, and_self, if_true]
theorem parse_back {m : Mst} (h : OkMs m) (hl : (msgL m).length ≤ 16384) : parseM (msgL m) = (m, 0, 0) := by
  have hp := pcs_msg h []
  rw [List.append_nil, pcs_nil] at hp
  have hz := chkLs_zero _ _ _ h.ok
  have hn := h.ln
  have he : parts 32 (endT m.ls.length) = [ENDW, wideL 2 m.ls.length] := parts_joined 32 _ (by simp) fun w hw => (vis_no (endW_vis _ w hw)).1
  have hv := val_wide 2 (m.ls.length : Int) (by omega) (by omega)
  unfold parseM
  rw [if_neg (by omega), hp]
  simp only [head_back h]
  rw [parseG_lines _ _ _ _ hz.2 (by simpa using hn)]
  simp only [List.nil_append]
  rw [parseG, (whole_lf _).1, (whole_lf _).2, if_neg (by decide), he, if_neg (by simp)]
  simp only [numB_wide, hv, hz.1]
  simp
theorem headP_strict {p : List UInt8} {m : Mst} (h : headP p = some m) : m.ls = [] ∧ msgB m.ki = true ∧ headE m.ai m.se m.da = 0 ∧ headT m ++ [10] = p := by
  unfold headP at h
  split at h
  · rename_i w0 w1 w2 w3 w4 he
    split at h
    · rename_i hc
      obtain ⟨c1, c2, c3, c4, c5⟩ := hc
      obtain rfl := Option.some.inj h
      refine ⟨rfl, c3, c5, ?_⟩
      have hb := of_decide_eq_true c4
      have hw := wide_back 5 w4 hb.1 hb.2
      have hj := joined_parts 32 (endW p)
      rw [he, c2] at hj
      unfold headT
      simp only [hw, hj]
      exact (whole_eq c1).symm
    · cases h
  · cases h
theorem linesL_snoc (a : List Lnt) (l : Lnt) : linesL (a ++ [l]) = linesL a ++ (lineL l ++ [10]) := by simp [linesL]
theorem parseG_strict : ∀ (ps : List (List UInt8)) (a m : Mst) (i j : Nat), a.ls.length ≤ 64 → parseG a i ps = (m, j, 0) →
    (m.ki = a.ki ∧ m.ai = a.ai ∧ m.se = a.se ∧ m.da = a.da) ∧ m.ls.length ≤ 64 ∧ (chkLs m.ki none 0 m.ls).2 = 0 ∧ linesL a.ls ++ ps.flatten = linesL m.ls ++ (endT m.ls.length ++ [10])
  | [], a, m, i, j, _, h => by
    have := congrArg (·.2.2) h
    exact absurd this (by simp [parseG])
  | p :: r, a, m, i, j, ha, h => by
    unfold parseG at h
    split at h
    · have := congrArg (·.2.2) h
      exact absurd this (by simp)
    · rename_i h1
      rw [Bool.not_eq_false] at h1
      have hw := whole_eq h1
      split at h
      · split at h
        · rename_i h3
          exact absurd (congrArg (·.2.2) h) h3
        · rename_i h3
          split at h
          · have := congrArg (·.2.2) h
            exact absurd this (by simp)
          · rename_i h4
            have h3 : (lineP (endW p)).2 = 0 := by simpa using h3
            have hs := lineP_strict (s := endW p) (l := (lineP (endW p)).1) (by rw [← h3])
            obtain ⟨k1, k2, k3, k4⟩ := parseG_strict r _ m _ j (by simp; omega) h
            refine ⟨k1, k2, k3, ?_⟩
            rw [← k4, linesL_snoc, hs.2, ← hw, List.flatten_cons, List.append_assoc]
      · rename_i h2
        simp only [ne_eq, Decidable.not_not] at h2
        split at h
        · rename_i w0 x he
          rw [he] at h2
          simp only [List.head?_cons, Option.some.injEq] at h2
          split at h
          · have := congrArg (·.2.2) h
            exact absurd this (by simp)
          · rename_i h3
            rw [Bool.not_eq_false] at h3
            split at h
            · have := congrArg (·.2.2) h
              exact absurd this (by simp)
            · rename_i h4
              simp only [ne_eq, Decidable.not_not] at h4
              split at h
              · have := congrArg (·.2.2) h
                exact absurd this (by simp)
              · rename_i h5
                simp only [ne_eq, Decidable.not_not] at h5
                split at h
                · rename_i h6
                  exact absurd (congrArg (·.2.2) h) h6
                · rename_i h6
                  simp only [ne_eq, Decidable.not_not] at h6
                  obtain rfl : a = m := congrArg (·.1) h
                  refine ⟨⟨rfl, rfl, rfl, rfl⟩, ha, h6, ?_⟩
                  have hb := of_decide_eq_true h3
                  have hx := wide_back 2 x hb.1 hb.2
                  rw [h4] at hx
                  have hj := joined_parts 32 (endW p)
                  rw [he, h2] at hj
                  rw [h5, hw]
                  unfold endT
                  rw [hx, hj]
                  simp
        · have := congrArg (·.2.2) h
          exact absurd this (by simp)
theorem parse_strict {s : List UInt8} (h : (parseM s).2.2 = 0) : OkMs (parseM s).1 ∧ msgL (parseM s).1 = s := by
  have key : ∀ m j, parseM s = (m, j, 0) → OkMs m ∧ msgL m = s := by
    intro m j h
    unfold parseM at h
    split at h
    · have := congrArg (·.2.2) h
      exact absurd this (by simp)
    · split at h
      · have := congrArg (·.2.2) h
        exact absurd this (by simp)
      · rename_i p r he
        split at h
        · have := congrArg (·.2.2) h
          exact absurd this (by simp)
        · rename_i a ha
          obtain ⟨a1, a2, a3, a4⟩ := headP_strict ha
          obtain ⟨⟨k1, k2, k3, k4⟩, k5, k6, k7⟩ := parseG_strict r a m 1 j (by rw [a1]; simp) h
          refine ⟨⟨by rw [k1]; exact a2, by rw [k2, k3, k4]; exact a3, k5, k6⟩, ?_⟩
          have hf := pcs_flat s
          rw [he, List.flatten_cons] at hf
          have ht : headT m = headT a := by unfold headT; rw [k1, k2, k3, k4]
          rw [a1] at k7
          simp only [linesL, List.flatMap_nil, List.nil_append] at k7
          unfold msgL linesL
          rw [← k7, ht, a4, hf]
  have e : parseM s = ((parseM s).1, (parseM s).2.1, 0) := by rw [← h]
  exact key _ _ e
theorem parse_cut {m : Mst} (h : OkMs m) {p t : List UInt8} (ht : t ≠ []) (e : msgL m = p ++ t) : (parseM p).2.2 ≠ 0 := by
  intro hz
  obtain ⟨h', hp⟩ := parse_strict hz
  generalize (parseM p).1 = m' at *
  have h1 := pcs_msg h []
  rw [List.append_nil, pcs_nil, e, ← hp, pcs_msg h' t] at h1
  have h1 := (List.cons.inj h1).2
  have hlen : m'.ls.length < m.ls.length := by
    have := congrArg List.length h1
    have hq : 0 < (pcs t).length := List.length_pos_iff.2 (pcs_ne ht)
    simp only [List.length_append, List.length_map, List.length_cons, List.length_nil] at this
    omega
  have h2 := congrArg (fun l => l[m'.ls.length]?) h1
  rw [List.getElem?_append_right (by simp), List.getElem?_append_left (by simpa using hlen)] at h2
  simp only [List.length_map, Nat.sub_self, List.getElem?_cons_zero, List.getElem?_map, List.getElem?_eq_getElem hlen, Option.map_some, Option.some.injEq] at h2
  have h3 := List.append_cancel_right h2
  have hl := (chkLs_zero _ _ _ h.ok).2 _ (List.getElem_mem hlen)
  have h4 := line_head hl
  rw [← h3, endT, parts_joined 32 _ (by simp) fun w hw => (vis_no (endW_vis _ w hw)).1] at h4
  exact h4.2 (Option.some.inj h4.1).symm
end Go.Proofs.YtmjifdpcoaeehaaGreatDoor.Co
