
/-
  Messages: ParseMessage, by the reference.
-/
import Derived.Test.YtgpgcadcpogcbaaGreatDoorMsPar
import Derived.Test.YtgpgcadcpogcbaaGreatDoorMsReaf
namespace Go.Proofs.YtgpgcadcpogcbaaGreatDoor.Co
open Go Go.Evl
theorem pcs_drop_end {s : List UInt8} {f : Nat} (h : (10 : UInt8) ∉ s.drop f) (hf : f < s.length) : pcs (s.drop f) = [s.drop f] :=
  pcs_end _ (fun e => by
    have := congrArg List.length e
    simp only [List.length_drop, List.length_nil] at this
    omega) h
theorem whole_last {p : List UInt8} (h : p ≠ []) : wholeB p = decide ((p.getD (p.length - 1) 0).toNat = 10) := by
  unfold wholeB
  apply decide_eq_decide.2
  have hl : p.length - 1 < p.length := by have := List.length_pos_iff.2 h; omega
  rw [List.getLast?_eq_getElem?, List.getElem?_eq_getElem hl]
  have e : p.getD (p.length - 1) 0 = p[p.length - 1] := by simp [List.getD, hl]
  rw [e, Option.some.injEq]
  constructor
  · intro h; rw [h]; rfl
  · intro h; exact UInt8.toNat_inj.1 h
theorem headE_neg (ai se : List UInt8) : headE ai se (-1) ≠ 0 := fun h => by
  have := (head_parts h).2.2.2.2.2.1
  omega
abbrev Mnl (m : Mst) : V := .d (.agg [.str m.ki, .str m.ai, .str m.se, DI m.da, .nil])
def Mrv (R : Mst × Nat × Int) : V := if R.2.2 = 0 ∧ R.1.ls = [] then Mnl R.1 else Msv R.1
theorem Mrv_bad {m : Mst} {i : Nat} {e : Int} (h : e ≠ 0) : Mrv (m, i, e) = Msv m := if_neg fun hn => h hn.1
section
variable {E : Oracle} (g : Good E)
include g
set_option maxRecDepth 100000
theorem r_ended (p : List UInt8) (hs : p.length ≤ 1000000) : Fc E n_ref02_ended [S p] (.tup [S (endW p), B (wholeB p)]) := by
  refine g.fn code_ref02_ended rfl ?_
  by_cases h0 : p = []
  · subst h0
    repeat' ((conv => whnf); first
    | refine Br.tt ?_
    | refine Br.ff ?_
    | refine Need.w ?_
    | refine Wr.w ?_
    | refine Cmp.t ?_
    | refine Cmp.f ?_
    | refine Rem.w ?_
    | refine Quo.w ?_
    | refine PickV.now rfl ?_
    | refine Pick.now rfl ?_
    | refine Chk.mk rfl ?_
    | refine PickW.w rfl ?_
      | (refine Ret.mk rfl))
  · have hw := whole_last h0
    have hl : p.length ≠ 0 := fun e => h0 (List.length_eq_zero_iff.1 e)
    have hb := toNat_u8 (p.getD (p.length - 1) 0)
    by_cases hc : (p.getD (p.length - 1) 0).toNat = 10
    · rw [decide_eq_true hc] at hw
      obtain ⟨_, e⟩ := endW_win hw
      rw [hw, e]
      repeat' ((conv => whnf); first
      | refine Br.tt ?_
      | refine Br.ff ?_
      | refine Need.w ?_
      | refine Wr.w ?_
      | refine Cmp.t ?_
      | refine Cmp.f ?_
      | refine Rem.w ?_
      | refine Quo.w ?_
      | refine PickV.now rfl ?_
      | refine Pick.now rfl ?_
      | refine Chk.mk rfl ?_
      | refine PickW.w rfl ?_
        | (refine PickB.at (p.length - 1) (by omega) (by omega) ?_)
        | (refine Bounds.at 0 (p.length - 1) (by omega) (by omega) (by omega) ?_)
        | (refine Ret.mk ?_))
      simp [win]
    · rw [decide_eq_false hc] at hw
      have e : endW p = p := by unfold endW; rw [hw]; rfl
      rw [hw, e]
      repeat' ((conv => whnf); first
      | refine Br.tt ?_
      | refine Br.ff ?_
      | refine Need.w ?_
      | refine Wr.w ?_
      | refine Cmp.t ?_
      | refine Cmp.f ?_
      | refine Rem.w ?_
      | refine Quo.w ?_
      | refine PickV.now rfl ?_
      | refine Pick.now rfl ?_
      | refine Chk.mk rfl ?_
      | refine PickW.w rfl ?_
        | (refine PickB.at (p.length - 1) (by omega) (by omega) ?_)
        | (refine Ret.mk rfl))
set_option maxHeartbeats 4000000 in
theorem r_pieces (s : List UInt8) (hs : s.length ≤ 1000000) : Fc E n_ref02_pieces [S s] (LS (pcs s)) := by
  refine g.fn code_ref02_pieces rfl ?_
  repeat' ((conv => whnf); first
  | refine Br.tt ?_
  | refine Br.ff ?_
  | refine Need.w ?_
  | refine Wr.w ?_
  | refine Cmp.t ?_
  | refine Cmp.f ?_
  | refine Rem.w ?_
  | refine Quo.w ?_
  | refine PickV.now rfl ?_
  | refine Pick.now rfl ?_
  | refine Chk.mk rfl ?_
  | refine PickW.w rfl ?_)
  refine LoopW.to (LoopW.by (σ := Nat × List (List UInt8) × Nat) g
    (fun x => x.1 ≤ s.length ∧ x.2.1.length ≤ x.1 ∧ x.2.2 ≤ x.1 ∧ pcs s = x.2.1 ++ pcs (s.drop x.2.2) ∧ ∀ j, x.2.2 ≤ j → j < x.1 → s.getD j 0 ≠ 10)
    (fun x => [(0, S s), (3, .ref ⟨0, 3, 0⟩ 0 x.2.1.length x.2.1.length), (4, I x.2.2), (5, I x.1)])
    (fun x => [(⟨0, 2, 0⟩, .row false ty_string 1 0 []), (⟨0, 3, 0⟩, .row false ty_string 1 x.2.1.length (x.2.1.map D.str))])
    (fun x => s.length - x.1) ?_ (0, [], 0) ⟨by simp, by simp, by simp, by simp, fun j _ h => absurd h (Nat.not_lt_zero _)⟩) rfl rfl
  rintro ⟨i, dn, f⟩ ⟨h1, h2, hf, hp, hn⟩ ih
  simp only at h1 h2 hf hp hn ih
  dsimp only
  have hml : (dn.map D.str).length = dn.length := List.length_map _
  have hnw : (10 : UInt8) ∉ win s f (i - f) := fun hm => by
    obtain ⟨j, j1, j2, _, j4⟩ := mem_win hm
    exact hn j j1 j2 j4
  have hd := drop_eq_win (s := s) hf
  by_cases hlt : i < s.length
  · have hb := toNat_u8 (s.getD i 0)
    by_cases hc : s.getD i 0 = 10
    · have hcons : s.drop i = 10 :: s.drop (i + 1) := by
        rw [List.drop_eq_getElem_cons hlt]
        have : s[i] = 10 := by simpa [List.getD, hlt] using hc
        rw [this]
      have hnext : pcs s = (dn ++ [win s f (i - f) ++ [10]]) ++ pcs (s.drop (i + 1)) := by
        rw [hp, hd, hcons, pcs_lf _ _ hnw]
        simp
      have hwn : win s f (i + 1 - f) = win s f (i - f) ++ [10] := by
        have hwl : (win s f (i - f)).length = i - f := by simp [win]; omega
        have e := hd
        rw [hcons] at e
        show (s.drop f).take (i + 1 - f) = _
        generalize win s f (i - f) = W at *
        rw [e, show i + 1 - f = W.length + 1 by omega, show W ++ 10 :: s.drop (i + 1) = (W ++ [10]) ++ s.drop (i + 1) by simp, List.take_left' (by simp)]
      have hc' : (s.getD i 0).toNat = 10 := by rw [hc]; rfl
      have ih := ih (i + 1, dn ++ [win s f (i - f) ++ [10]], i + 1) ⟨by simp only; omega, by simp only [List.length_append, List.length_cons, List.length_nil]; omega, Nat.le_refl _, hnext, fun j j1 j2 => by simp only at j1 j2; omega⟩ (by simp only; omega)
      simp only [List.length_append, List.length_cons, List.length_nil, List.map_append, List.map_cons, List.map_nil] at ih
      repeat' ((conv => whnf); first
      | refine Br.tt ?_
      | refine Br.ff ?_
      | refine Need.w ?_
      | refine Wr.w ?_
      | refine Cmp.t ?_
      | refine Cmp.f ?_
      | refine Rem.w ?_
      | refine Quo.w ?_
      | refine PickV.now rfl ?_
      | refine Pick.now rfl ?_
      | refine Chk.mk rfl ?_
      | refine PickW.w rfl ?_
        | (refine PickB.at i (by omega) hlt ?_)
        | (refine Bounds.at f (i + 1) (by omega) (by omega) (by omega) ?_ <;> (try dsimp only) <;> (rw [hwn]))
        | (refine Need.mk (by simp only [List.length_cons, List.length_nil]; omega) ?_)
        | (refine LoopW.to ih rfl rfl))
    · have hc' : (s.getD i 0).toNat ≠ 10 := fun e => hc (UInt8.toNat_inj.1 e)
      have ih := ih (i + 1, dn, f) ⟨by simp only; omega, by simp only; omega, by simp only; omega, hp, fun j j1 j2 => by
        simp only at j2
        by_cases e : j = i
        · subst e; exact hc
        · exact hn j j1 (by omega)⟩ (by simp only; omega)
      simp only at ih
      repeat' ((conv => whnf); first
      | refine Br.tt ?_
      | refine Br.ff ?_
      | refine Need.w ?_
      | refine Wr.w ?_
      | refine Cmp.t ?_
      | refine Cmp.f ?_
      | refine Rem.w ?_
      | refine Quo.w ?_
      | refine PickV.now rfl ?_
      | refine Pick.now rfl ?_
      | refine Chk.mk rfl ?_
      | refine PickW.w rfl ?_
        | (refine PickB.at i (by omega) hlt ?_)
        | (refine LoopW.to ih rfl rfl))
  · obtain rfl : i = s.length := by omega
    rw [List.drop_eq_nil_of_le (Nat.le_refl _), List.append_nil] at hd
    by_cases hfl : f < s.length
    · have he : pcs s = dn ++ [win s f (s.length - f)] := by
        rw [hp, pcs_drop_end (by rw [hd]; exact hnw) hfl, hd]
      rw [he]
      repeat' ((conv => whnf); first
      | refine Br.tt ?_
      | refine Br.ff ?_
      | refine Need.w ?_
      | refine Wr.w ?_
      | refine Cmp.t ?_
      | refine Cmp.f ?_
      | refine Rem.w ?_
      | refine Quo.w ?_
      | refine PickV.now rfl ?_
      | refine Pick.now rfl ?_
      | refine Chk.mk rfl ?_
      | refine PickW.w rfl ?_
        | (refine Bounds.at f s.length (by omega) (by omega) (by omega) ?_)
        | (refine Need.mk (by simp only [List.length_cons, List.length_nil]; omega) ?_)
        | (refine Ret.mk ?_))
      rw [if_pos ⟨rfl, rfl⟩]
      simp
    · obtain rfl : f = s.length := by omega
      rw [List.drop_eq_nil_of_le (Nat.le_refl _), pcs_nil, List.append_nil] at hp
      rw [hp]
      repeat' ((conv => whnf); first
      | refine Br.tt ?_
      | refine Br.ff ?_
      | refine Need.w ?_
      | refine Wr.w ?_
      | refine Cmp.t ?_
      | refine Cmp.f ?_
      | refine Rem.w ?_
      | refine Quo.w ?_
      | refine PickV.now rfl ?_
      | refine Pick.now rfl ?_
      | refine Chk.mk rfl ?_
      | refine PickW.w rfl ?_
        | (refine Ret.mk ?_))
      rw [if_pos ⟨rfl, rfl⟩]
theorem r_lineP (s : List UInt8) (hs : s.length ≤ 1000000) : ∃ i : Int, Fc E n_ref02_ParseLine [S s] (.tup [Lnv (lineP s).1, I i, I (lineP s).2]) := by
  unfold lineP
  cases hw : wList (parts 32 s) with
  | none => exact ⟨_, r_ParseLine_no g s hs (wList_none hw)⟩
  | some w =>
    have h := r_ParseLine14 g s hs w (wList_some hw)
    unfold resW resF at h
    simp only
    unfold lineW
    split at h
    · rename_i hf
      rw [if_pos hf]
      split at h
      · rename_i hc; rw [if_pos hc]; exact ⟨_, h⟩
      · rename_i hc; rw [if_neg hc]; exact ⟨_, h⟩
    · rename_i hf
      rw [if_neg hf]
      exact ⟨_, h⟩
omit g in
theorem parseG_endl {m : Mst} {i : Nat} {a x : List UInt8} {r : List (List UInt8)} (hp : parts 32 a = [ENDW, x]) : parseG m i ((a ++ [10]) :: r) = if numB x 2 = false then (zeroM, i, 25) else if valA 0 x ≠ m.ls.length then (zeroM, i, 27) else if r ≠ [] then (zeroM, i + 1, 25) else if (chkLs m.ki none 0 m.ls).2 ≠ 0 then (zeroM, (chkLs m.ki none 0 m.ls).1 + 1, (chkLs m.ki none 0 m.ls).2) else (m, 0, 0) := by
  rw [parseG, (whole_lf _).1, (whole_lf _).2, if_neg (by decide), hp, if_neg (by simp)]
def RhV (v : V) (h : Mst) (b : Bool) : Prop := v = .tup [Mnl h, B b]
def RhW (v : V) (m' : Mem) : Prop := v = .tup [.agg [S [], S [], S [], I 0, .ref ⟨0, 40, 0⟩ 0 0 0], B false] ∧ m' = [(⟨0, 2, 0⟩, .row false ty_turnroundref02_Line 14 0 []), (⟨0, 2, 1⟩, .cells ty_turnroundref02_Message [S [], S [], S [], I 0, .ref ⟨0, 40, 0⟩ 0 0 0]), (⟨0, 40, 0⟩, .row false ty_turnroundref02_Line 14 0 [])]
set_option maxHeartbeats 8000000 in
theorem r_head_none (p : List UInt8) (hs : p.length ≤ 1000000) (hn : headP p = none) : ∃ h : Mst, In E 0 n_ref02_head [S p] [] fun v m' => RhW v m' ∨ RhV v h false := by
  have hcut := r_ended g p hs
  have hsp := r_split g (endW p) (Nat.le_trans (endW_le p) hs)
  cases hw : wholeB p
  · rw [hw] at hcut
    refine ⟨zeroM, In.enter g.lim rfl code_ref02_head ?_⟩
    repeat' ((conv => whnf); first
    | refine Br.tt ?_
    | refine Br.ff ?_
    | refine Need.w ?_
    | refine Wr.w ?_
    | refine Cmp.t ?_
    | refine Cmp.f ?_
    | refine Rem.w ?_
    | refine Quo.w ?_
    | refine PickV.now rfl ?_
    | refine Pick.now rfl ?_
    | refine Chk.mk rfl ?_
    | refine PickW.w rfl ?_
      | (apply CallI.of; assumption)
      | (exact .inl ⟨rfl, rfl⟩))
  · rw [hw] at hcut
    by_cases hl : (parts 32 (endW p)).length = 5
    · obtain ⟨w0, w1, w2, w3, w4, he⟩ := list5 hl
      rw [headP_five he, hw] at hn
      rw [he] at hsp
      by_cases h0 : w0 = SLOTS
      · by_cases hm1 : w1 = REQ ∨ w1 = ANS
        · have hm : msgB w1 = true := by
            unfold msgB
            rcases hm1 with h | h <;> simp [h]
          have hnum := r_digits g w4 5 (by omega)
          have hz : ∀ d, d = (if numB w4 5 = true then valA 0 w4 else -1) → headE w2 w3 d ≠ 0 := fun d hd h => by
            rw [hd] at h
            cases hn1 : numB w4 5
            · rw [hn1] at h
              exact headE_neg _ _ h
            · rw [hn1, if_pos rfl] at h
              rw [if_pos ⟨rfl, h0, hm, hn1, h⟩] at hn
              cases hn
          have hz := hz _ rfl
          generalize (if numB w4 5 = true then valA 0 w4 else (-1 : Int)) = d at *
          have hd := r_CheckHead g w2 w3 d
          refine ⟨⟨w1, w2, w3, d, []⟩, In.enter g.lim rfl code_ref02_head ?_⟩
          rcases hm1 with rfl | rfl
          all_goals repeat' ((conv => whnf); first
          | refine Br.tt ?_
          | refine Br.ff ?_
          | refine Need.w ?_
          | refine Wr.w ?_
          | refine Cmp.t ?_
          | refine Cmp.f ?_
          | refine Rem.w ?_
          | refine Quo.w ?_
          | refine PickV.now rfl ?_
          | refine Pick.now rfl ?_
          | refine Chk.mk rfl ?_
          | refine PickW.w rfl ?_
            | (apply CallI.of; assumption)
            | (refine Cmp.tt (by simp only [List.length_cons, List.length_nil]; omega) ?_)
            | (refine Cmp.ff (by simp only [List.length_cons, List.length_nil]; omega) ?_)
            | (refine Cmp.tt h0 ?_)
            | (refine Cmp.ff hz ?_)
            | (exact .inr rfl))
        · rw [not_or] at hm1
          refine ⟨zeroM, In.enter g.lim rfl code_ref02_head ?_⟩
          repeat' ((conv => whnf); first
          | refine Br.tt ?_
          | refine Br.ff ?_
          | refine Need.w ?_
          | refine Wr.w ?_
          | refine Cmp.t ?_
          | refine Cmp.f ?_
          | refine Rem.w ?_
          | refine Quo.w ?_
          | refine PickV.now rfl ?_
          | refine Pick.now rfl ?_
          | refine Chk.mk rfl ?_
          | refine PickW.w rfl ?_
            | (apply CallI.of; assumption)
            | (refine Cmp.tt (by simp only [List.length_cons, List.length_nil]; omega) ?_)
            | (refine Cmp.ff (by simp only [List.length_cons, List.length_nil]; omega) ?_)
            | (refine Cmp.tt h0 ?_)
            | (refine Cmp.ff hm1.1 ?_)
            | (refine Cmp.ff hm1.2 ?_)
            | (exact .inl ⟨rfl, rfl⟩))
      · refine ⟨zeroM, In.enter g.lim rfl code_ref02_head ?_⟩
        repeat' ((conv => whnf); first
        | refine Br.tt ?_
        | refine Br.ff ?_
        | refine Need.w ?_
        | refine Wr.w ?_
        | refine Cmp.t ?_
        | refine Cmp.f ?_
        | refine Rem.w ?_
        | refine Quo.w ?_
        | refine PickV.now rfl ?_
        | refine Pick.now rfl ?_
        | refine Chk.mk rfl ?_
        | refine PickW.w rfl ?_
          | (apply CallI.of; assumption)
          | (refine Cmp.tt (by simp only [List.length_cons, List.length_nil]; omega) ?_)
          | (refine Cmp.ff (by simp only [List.length_cons, List.length_nil]; omega) ?_)
          | (refine Cmp.ff h0 ?_)
          | (exact .inl ⟨rfl, rfl⟩))
    · refine ⟨zeroM, In.enter g.lim rfl code_ref02_head ?_⟩
      repeat' ((conv => whnf); first
      | refine Br.tt ?_
      | refine Br.ff ?_
      | refine Need.w ?_
      | refine Wr.w ?_
      | refine Cmp.t ?_
      | refine Cmp.f ?_
      | refine Rem.w ?_
      | refine Quo.w ?_
      | refine PickV.now rfl ?_
      | refine Pick.now rfl ?_
      | refine Chk.mk rfl ?_
      | refine PickW.w rfl ?_
        | (apply CallI.of; assumption)
        | (exact .inl ⟨rfl, rfl⟩))
set_option maxHeartbeats 8000000 in
theorem r_head_some (p : List UInt8) (hs : p.length ≤ 1000000) (h : Mst) (hn : headP p = some h) : In E 0 n_ref02_head [S p] [] fun v _ => RhV v h true := by
  have hcut := r_ended g p hs
  have hsp := r_split g (endW p) (Nat.le_trans (endW_le p) hs)
  have hl : (parts 32 (endW p)).length = 5 := Decidable.byContradiction fun hc => by rw [headP_len hc] at hn; cases hn
  obtain ⟨w0, w1, w2, w3, w4, he⟩ := list5 hl
  rw [headP_five he] at hn
  split at hn
  · rename_i hc
    obtain ⟨hw, h0, hm1, hn1, hz⟩ := hc
    obtain rfl := Option.some.inj hn
    rw [hw] at hcut
    rw [he] at hsp
    have hnum := r_digits g w4 5 (by omega)
    rw [if_pos hn1] at hnum
    have hd := r_CheckHead g w2 w3 (valA 0 w4)
    simp only [msgB, Bool.or_eq_true, decide_eq_true_eq] at hm1
    refine In.enter g.lim rfl code_ref02_head ?_
    rcases hm1 with rfl | rfl
    all_goals repeat' ((conv => whnf); first
    | refine Br.tt ?_
    | refine Br.ff ?_
    | refine Need.w ?_
    | refine Wr.w ?_
    | refine Cmp.t ?_
    | refine Cmp.f ?_
    | refine Rem.w ?_
    | refine Quo.w ?_
    | refine PickV.now rfl ?_
    | refine Pick.now rfl ?_
    | refine Chk.mk rfl ?_
    | refine PickW.w rfl ?_
      | (apply CallI.of; assumption)
      | (refine Cmp.tt (by simp only [List.length_cons, List.length_nil]; omega) ?_)
      | (refine Cmp.ff (by simp only [List.length_cons, List.length_nil]; omega) ?_)
      | (refine Cmp.tt h0 ?_)
      | (refine Cmp.tt hz ?_))
    all_goals conv => whnf
    all_goals exact rfl
  · cases hn
theorem CallS.rhead_none {p : List UInt8} (hs : p.length ≤ 1000000) (hn : headP p = none) {cx : Cx} {slot : Nat} {m : Mem} {K : V → Mem → Prop} (hf : Go.Evl.freeK cx.lv slot m = 0) (k1 : ∀ h : Mst, K (.tup [Mnl h, B false]) (m ++ [])) (k2 : K (.tup [.agg [S [], S [], S [], I 0, .ref ⟨cx.lv, slot, 0⟩ 0 0 0], B false]) (m ++ [(⟨cx.lv, slot, 0⟩, .row false ty_turnroundref02_Line 14 0 [])])) : CallS E n_ref02_head [S p] cx slot m K := by
  obtain ⟨h, hh⟩ := r_head_none g p hs hn
  obtain ⟨v, m', h1, h2⟩ := hh.got
  rcases h2 with ⟨rfl, rfl⟩ | rfl
  · refine ⟨_, _, (.tup [.agg [S [], S [], S [], I 0, .ref ⟨cx.lv, slot, 0⟩ 0 0 0], B false], m ++ [(⟨cx.lv, slot, 0⟩, .row false ty_turnroundref02_Line 14 0 [])]), h1, ?_, k2⟩
    unfold Go.Evl.settle
    rw [hf]
    rfl
  · refine ⟨_, _, (.tup [Mnl h, B false], m ++ []), h1, ?_, k1 h⟩
    unfold Go.Evl.settle
    rw [hf]
    rfl
theorem CallS.rhead_some {p : List UInt8} (hs : p.length ≤ 1000000) {h : Mst} (hn : headP p = some h) {cx : Cx} {slot : Nat} {m : Mem} {K : V → Mem → Prop} (hf : Go.Evl.freeK cx.lv slot m = 0) (k : K (.tup [Mnl h, B true]) (m ++ [])) : CallS E n_ref02_head [S p] cx slot m K := by
  obtain ⟨v, m', h1, rfl⟩ := (r_head_some g p hs h hn).got
  refine ⟨_, _, (.tup [Mnl h, B true], m ++ []), h1, ?_, k⟩
  unfold Go.Evl.settle
  rw [hf]
  rfl
theorem r_CheckLines_nil (kind : List UInt8) : Fc E n_ref02_CheckLines [S kind, .d .nil] (.tup [I 0, I 0]) := by
  refine g.fn code_ref02_CheckLines rfl ?_
  repeat' ((conv => whnf); first
  | refine Br.tt ?_
  | refine Br.ff ?_
  | refine Need.w ?_
  | refine Wr.w ?_
  | refine Cmp.t ?_
  | refine Cmp.f ?_
  | refine Rem.w ?_
  | refine Quo.w ?_
  | refine PickV.now rfl ?_
  | refine Pick.now rfl ?_
  | refine Chk.mk rfl ?_
  | refine PickW.w rfl ?_
    | (refine LoopW.step g.lim ?_)
    | (refine Ret.mk rfl))
set_option maxHeartbeats 40000000 in
theorem r_ParseMessage (s0 : List UInt8) (hs0 : s0.length ≤ 1000000) : Fc E n_ref02_ParseMessage [S s0] (.tup [Mrv (parseM s0), I ((parseM s0).2.1 : Nat), I (parseM s0).2.2]) := by
  refine g.fn code_ref02_ParseMessage rfl ?_
  by_cases hl0 : 16384 < s0.length
  · have hp : parseM s0 = (zeroM, 0, 26) := by unfold parseM; rw [if_pos hl0]
    rw [hp, Mrv_bad (by decide)]
    repeat' ((conv => whnf); first
    | refine Br.tt ?_
    | refine Br.ff ?_
    | refine Need.w ?_
    | refine Wr.w ?_
    | refine Cmp.t ?_
    | refine Cmp.f ?_
    | refine Rem.w ?_
    | refine Quo.w ?_
    | refine PickV.now rfl ?_
    | refine Pick.now rfl ?_
    | refine Chk.mk rfl ?_
    | refine PickW.w rfl ?_
      | (refine Ret.mk rfl))
  · have hpc := r_pieces g s0 hs0
    have hpl := pcs_len s0
    have hml := pcs_mem_len s0
    have hpm : parseM s0 = match pcs s0 with | [] => (zeroM, 0, 28) | p :: r => match headP p with | none => (zeroM, 0, 25) | some m => parseG m 1 r := by
      unfold parseM; rw [if_neg hl0]; rfl
    generalize parseM s0 = R at *
    generalize pcs s0 = l at *
    cases l with
    | nil =>
      simp only at hpm
      rw [hpm, Mrv_bad (by decide)]
      repeat' ((conv => whnf); first
      | refine Br.tt ?_
      | refine Br.ff ?_
      | refine Need.w ?_
      | refine Wr.w ?_
      | refine Cmp.t ?_
      | refine Cmp.f ?_
      | refine Rem.w ?_
      | refine Quo.w ?_
      | refine PickV.now rfl ?_
      | refine Pick.now rfl ?_
      | refine Chk.mk rfl ?_
      | refine PickW.w rfl ?_
        | (refine CallI.of hpc ?_)
        | (refine Ret.mk rfl))
    | cons p0 r0 =>
      have hp0 : p0.length ≤ 1000000 := Nat.le_trans (hml p0 (by simp)) hs0
      have hcl : (p0 :: r0).length = r0.length + 1 := rfl
      cases hh : headP p0 with
      | none =>
        simp only [hh] at hpm
        rw [hpm, Mrv_bad (by decide)]
        repeat' ((conv => whnf); first
        | refine Br.tt ?_
        | refine Br.ff ?_
        | refine Need.w ?_
        | refine Wr.w ?_
        | refine Cmp.t ?_
        | refine Cmp.f ?_
        | refine Rem.w ?_
        | refine Quo.w ?_
        | refine PickV.now rfl ?_
        | refine Pick.now rfl ?_
        | refine Chk.mk rfl ?_
        | refine PickW.w rfl ?_
          | (refine CallI.of hpc ?_)
          | (refine Need.mk ⟨rfl, by simp⟩ ?_)
          | (refine CallS.rhead_none g hp0 hh rfl (fun _ => ?_) ?_)
          | (refine Ret.mk rfl))
      | some h =>
        simp only [hh] at hpm
        obtain ⟨hls, hki, _, _⟩ := headP_strict hh
        obtain ⟨ki, ai, se, da, ls⟩ := h
        simp only at hls hki
        subst hls
        have hkd : ki = REQ ∨ ki = ANS := by
          simpa only [msgB, Bool.or_eq_true, decide_eq_true_eq] using hki
        repeat' ((conv => whnf); first
        | refine Br.tt ?_
        | refine Br.ff ?_
        | refine Need.w ?_
        | refine Wr.w ?_
        | refine Cmp.t ?_
        | refine Cmp.f ?_
        | refine Rem.w ?_
        | refine Quo.w ?_
        | refine PickV.now rfl ?_
        | refine Pick.now rfl ?_
        | refine Chk.mk rfl ?_
        | refine PickW.w rfl ?_
          | (refine CallI.of hpc ?_)
          | (refine Need.mk ⟨rfl, by simp⟩ ?_)
          | (refine CallS.rhead_some g hp0 hh rfl ?_))
        refine LoopW.two (σ := Nat × List Lnt) g
          (fun x => x.2.length ≤ 64 ∧ x.2.length + 1 = x.1 ∧ 2 ≤ x.1 ∧ x.1 ≤ r0.length + 1 ∧ parseG ⟨ki, ai, se, da, x.2⟩ x.1 ((p0 :: r0).drop x.1) = R)
          (fun x => [(2, .ptr ⟨0, 2, 1⟩ 0 0), (5, LS (p0 :: r0)), (6, .ptr ⟨0, 6, 1⟩ 0 0), (8, I x.1)])
          (fun x => [(⟨0, 2, 0⟩, .row false ty_turnroundref02_Line 14 0 []), (⟨0, 2, 1⟩, .cells ty_turnroundref02_Message [S [], S [], S [], I 0, .ref ⟨0, 2, 0⟩ 0 0 0]), (⟨0, 6, 0⟩, .row false ty_turnroundref02_Line 14 0 []), (⟨0, 6, 1⟩, .cells ty_turnroundref02_Message [S ki, S ai, S se, I da, .ref ⟨0, 82, 0⟩ 0 x.2.length x.2.length]), (⟨0, 82, 0⟩, .row false ty_turnroundref02_Line 14 x.2.length (x.2.flatMap Lnt.cells))])
          (fun x => r0.length + 1 - x.1) ?_ ?_
        · rintro ⟨i, ls⟩ ⟨i1, i2, i3, i4, hres⟩ ih
          simp only at i1 i2 i3 i4 hres ih
          dsimp only
          by_cases hlt : i < (p0 :: r0).length
          · have hg : ((p0 :: r0).map D.str)[(((i : Nat) : Int)).toNat * 1]? = some (.str (p0 :: r0)[i]) := by
              rw [Int.toNat_natCast, Nat.mul_one, List.getElem?_map, List.getElem?_eq_getElem hlt]
              rfl
            have hdr : (p0 :: r0).drop i = (p0 :: r0)[i] :: (p0 :: r0).drop (i + 1) := List.drop_eq_getElem_cons hlt
            rw [hdr] at hres
            have hpn : (p0 :: r0)[i].length ≤ 1000000 := Nat.le_trans (hml _ (List.getElem_mem hlt)) hs0
            generalize (p0 :: r0)[i] = p at *
            have hen := r_ended g p hpn
            cases hw : wholeB p
            · rw [hw] at hen
              rw [parseG_open hw] at hres
              rw [← hres, Mrv_bad (by decide)]
              repeat' ((conv => whnf); first
              | refine Br.tt ?_
              | refine Br.ff ?_
              | refine Need.w ?_
              | refine Wr.w ?_
              | refine Cmp.t ?_
              | refine Cmp.f ?_
              | refine Rem.w ?_
              | refine Quo.w ?_
              | refine PickV.now rfl ?_
              | refine Pick.now rfl ?_
              | refine Chk.mk rfl ?_
              | refine PickW.w rfl ?_
                | (refine Need.mk ⟨rfl, by simp⟩ ?_)
                | (apply CallI.of; assumption)
                | (refine Pick.now hg ?_)
                | (refine Ret.mk rfl))
            · rw [hw] at hen
              have hpe := whole_eq hw
              have hal := endW_le p
              generalize endW p = a at *
              subst hpe
              have hsp := r_split g a (by omega)
              cases hpa : parts 32 a with
              | nil => exact absurd hpa (parts_ne 32 a)
              | cons w0 wr =>
                rw [hpa] at hsp
                by_cases h0 : w0 = ENDW
                · subst h0
                  by_cases hwr : wr.length = 1
                  · obtain ⟨x, rfl⟩ := List.length_eq_one_iff.1 hwr
                    have h2l : (([ENDW, x] : List (List UInt8)).length : Int) = 2 := rfl
                    rw [parseG_endl hpa] at hres
                    have hnum := r_digits g x 2 (by omega)
                    cases hnb : numB x 2
                    · rw [hnb] at hnum hres
                      rw [if_neg (by decide)] at hnum
                      rw [if_pos rfl] at hres
                      rw [← hres, Mrv_bad (by decide)]
                      repeat' ((conv => whnf); first
                      | refine Br.tt ?_
                      | refine Br.ff ?_
                      | refine Need.w ?_
                      | refine Wr.w ?_
                      | refine Cmp.t ?_
                      | refine Cmp.f ?_
                      | refine Rem.w ?_
                      | refine Quo.w ?_
                      | refine PickV.now rfl ?_
                      | refine Pick.now rfl ?_
                      | refine Chk.mk rfl ?_
                      | refine PickW.w rfl ?_
                        | (refine Need.mk ⟨rfl, by simp⟩ ?_)
                        | (apply CallI.of; assumption)
                        | (refine Pick.now hg ?_)
                        | (refine Pick.now rfl ?_)
                        | (refine Ret.mk rfl))
                    · have hvb := numB_val hnb
                      rw [hnb] at hnum hres
                      rw [if_pos rfl] at hnum
                      rw [if_neg (by decide)] at hres
                      by_cases hcn : valA 0 x = (ls : List Lnt).length
                      · rw [if_neg (by simpa using hcn)] at hres
                        have hcn2 : valA 0 x = i - 1 := by omega
                        by_cases hlast : i + 1 < (p0 :: r0).length
                        · rw [if_pos (by rw [List.drop_eq_getElem_cons hlast]; exact List.cons_ne_nil _ _)] at hres
                          rw [← hres, Mrv_bad (by decide)]
                          repeat' ((conv => whnf); first
                          | refine Br.tt ?_
                          | refine Br.ff ?_
                          | refine Need.w ?_
                          | refine Wr.w ?_
                          | refine Cmp.t ?_
                          | refine Cmp.f ?_
                          | refine Rem.w ?_
                          | refine Quo.w ?_
                          | refine PickV.now rfl ?_
                          | refine Pick.now rfl ?_
                          | refine Chk.mk rfl ?_
                          | refine PickW.w rfl ?_
                            | (refine Need.mk ⟨rfl, by simp⟩ ?_)
                            | (apply CallI.of; assumption)
                            | (refine Pick.now hg ?_)
                            | (refine Pick.now rfl ?_)
                            | (refine Ret.mk rfl))
                        · rw [if_neg (by rw [List.drop_eq_nil_of_le (by omega)]; simp)] at hres
                          have hcl : ∀ {n : Nat} {cs : List D}, n = ls.length → cs = ls.flatMap Lnt.cells → Fc E n_ref02_CheckLines [S ki, .d (.list n cs)] (.tup [I ((chkLs ki none 0 ls).1 : Nat), I (chkLs ki none 0 ls).2]) := by
                            rintro _ _ rfl rfl
                            exact r_CheckLines g ki hkd ls (by omega)
                          have hb := chkLs_le ki ls
                          generalize chkLs ki none 0 ls = c at *
                          by_cases hc : c.2 = 0
                          · rw [if_neg (by simp [hc])] at hres
                            have hM : Mrv R = Msv ⟨ki, ai, se, da, ls⟩ := by rw [← hres]; exact if_neg fun hn => by have := congrArg List.length hn.2; simp only [List.length_nil] at this; omega
                            rw [hM, ← hres]
                            repeat' ((conv => whnf); first
                            | refine Br.tt ?_
                            | refine Br.ff ?_
                            | refine Need.w ?_
                            | refine Wr.w ?_
                            | refine Cmp.t ?_
                            | refine Cmp.f ?_
                            | refine Rem.w ?_
                            | refine Quo.w ?_
                            | refine PickV.now rfl ?_
                            | refine Pick.now rfl ?_
                            | refine Chk.mk rfl ?_
                            | refine PickW.w rfl ?_
                              | (refine Need.mk ⟨rfl, by simp⟩ ?_)
                              | (apply CallI.of; assumption)
                              | (refine Pick.now hg ?_)
                              | (refine Pick.now rfl ?_)
                              | (refine CallI.of (hcl rfl (by simp)) ?_)
                              | (refine Cmp.tt hc ?_)
                              | (refine Ret.mk ?_))
                            rw [if_pos ⟨rfl, rfl⟩]
                            rfl
                          · rw [if_pos hc] at hres
                            rw [← hres, Mrv_bad hc]
                            repeat' ((conv => whnf); first
                            | refine Br.tt ?_
                            | refine Br.ff ?_
                            | refine Need.w ?_
                            | refine Wr.w ?_
                            | refine Cmp.t ?_
                            | refine Cmp.f ?_
                            | refine Rem.w ?_
                            | refine Quo.w ?_
                            | refine PickV.now rfl ?_
                            | refine Pick.now rfl ?_
                            | refine Chk.mk rfl ?_
                            | refine PickW.w rfl ?_
                              | (refine Need.mk ⟨rfl, by simp⟩ ?_)
                              | (apply CallI.of; assumption)
                              | (refine Pick.now hg ?_)
                              | (refine Pick.now rfl ?_)
                              | (refine CallI.of (hcl rfl (by simp)) ?_)
                              | (refine Cmp.ff hc ?_)
                              | (refine Ret.mk rfl))
                      · rw [if_pos (by simpa using hcn)] at hres
                        have hcn2 : valA 0 x ≠ i - 1 := by omega
                        rw [← hres, Mrv_bad (by decide)]
                        repeat' ((conv => whnf); first
                        | refine Br.tt ?_
                        | refine Br.ff ?_
                        | refine Need.w ?_
                        | refine Wr.w ?_
                        | refine Cmp.t ?_
                        | refine Cmp.f ?_
                        | refine Rem.w ?_
                        | refine Quo.w ?_
                        | refine PickV.now rfl ?_
                        | refine Pick.now rfl ?_
                        | refine Chk.mk rfl ?_
                        | refine PickW.w rfl ?_
                          | (refine Need.mk ⟨rfl, by simp⟩ ?_)
                          | (apply CallI.of; assumption)
                          | (refine Pick.now hg ?_)
                          | (refine Pick.now rfl ?_)
                          | (refine Ret.mk rfl))
                  · rw [parseG_bad hpa hwr] at hres
                    have hl2 : ¬ (((ENDW :: wr).length : Int) = 2) := by simp only [List.length_cons]; omega
                    have hl3 : (ENDW :: wr).length = wr.length + 1 := rfl
                    rw [← hres, Mrv_bad (by decide)]
                    repeat' ((conv => whnf); first
                    | refine Br.tt ?_
                    | refine Br.ff ?_
                    | refine Need.w ?_
                    | refine Wr.w ?_
                    | refine Cmp.t ?_
                    | refine Cmp.f ?_
                    | refine Rem.w ?_
                    | refine Quo.w ?_
                    | refine PickV.now rfl ?_
                    | refine Pick.now rfl ?_
                    | refine Chk.mk rfl ?_
                    | refine PickW.w rfl ?_
                      | (refine Need.mk ⟨rfl, by simp⟩ ?_)
                      | (apply CallI.of; assumption)
                      | (refine Pick.now hg ?_)
                      | (refine Pick.now rfl ?_)
                      | (refine Cmp.ff hl2 ?_)
                      | (refine Ret.mk rfl))
                · rw [parseG_line hpa h0] at hres
                  have hl3 : (w0 :: wr).length = wr.length + 1 := rfl
                  obtain ⟨j, hpl2⟩ := r_lineP g a (by omega)
                  generalize lineP a = q at *
                  obtain ⟨x, e⟩ := q
                  simp only at hpl2 hres
                  by_cases he : e = 0
                  · subst he
                    rw [if_neg (by simp)] at hres
                    by_cases h64 : 64 ≤ ls.length
                    · rw [if_pos h64] at hres
                      rw [← hres, Mrv_bad (by decide)]
                      repeat' ((conv => whnf); first
                      | refine Br.tt ?_
                      | refine Br.ff ?_
                      | refine Need.w ?_
                      | refine Wr.w ?_
                      | refine Cmp.t ?_
                      | refine Cmp.f ?_
                      | refine Rem.w ?_
                      | refine Quo.w ?_
                      | refine PickV.now rfl ?_
                      | refine Pick.now rfl ?_
                      | refine Chk.mk rfl ?_
                      | refine PickW.w rfl ?_
                        | (refine Need.mk ⟨rfl, by simp⟩ ?_)
                        | (apply CallI.of; assumption)
                        | (refine Pick.now hg ?_)
                        | (refine Pick.now rfl ?_)
                        | (refine Cmp.ff h0 ?_)
                        | (refine Ret.mk rfl))
                    · rw [if_neg h64] at hres
                      have ih := ih (i + 1, ls ++ [x]) ⟨by simp; omega, by simp; omega, by simp only; omega, by simp only [List.length_cons] at hlt ⊢; omega, hres⟩ (by simp only [List.length_cons] at hlt ⊢; omega)
                      have e1 : (ls ++ [x]).length = ls.length + 1 := by simp
                      have e2 : (ls ++ [x]).flatMap Lnt.cells = ls.flatMap Lnt.cells ++ x.cells := by simp
                      dsimp only at ih
                      rw [e1, e2] at ih
                      have hfl := flatR_length Lnt.cells 14 Lnt.cells_length ls
                      repeat' ((conv => whnf); first
                      | refine Br.tt ?_
                      | refine Br.ff ?_
                      | refine Need.w ?_
                      | refine Wr.w ?_
                      | refine Cmp.t ?_
                      | refine Cmp.f ?_
                      | refine Rem.w ?_
                      | refine Quo.w ?_
                      | refine PickV.now rfl ?_
                      | refine Pick.now rfl ?_
                      | refine Chk.mk rfl ?_
                      | refine PickW.w rfl ?_
                        | (refine Need.mk ⟨rfl, by simp⟩ ?_)
                        | (apply CallI.of; assumption)
                        | (refine Pick.now hg ?_)
                        | (refine Pick.now rfl ?_)
                        | (refine Cmp.ff h0 ?_)
                        | (refine Need.mk (by simp; omega) ?_)
                        | (refine LoopW.to ih rfl rfl))
                  · rw [if_pos he] at hres
                    rw [← hres, Mrv_bad he]
                    repeat' ((conv => whnf); first
                    | refine Br.tt ?_
                    | refine Br.ff ?_
                    | refine Need.w ?_
                    | refine Wr.w ?_
                    | refine Cmp.t ?_
                    | refine Cmp.f ?_
                    | refine Rem.w ?_
                    | refine Quo.w ?_
                    | refine PickV.now rfl ?_
                    | refine Pick.now rfl ?_
                    | refine Chk.mk rfl ?_
                    | refine PickW.w rfl ?_
                      | (refine Need.mk ⟨rfl, by simp⟩ ?_)
                      | (apply CallI.of; assumption)
                      | (refine Pick.now hg ?_)
                      | (refine Pick.now rfl ?_)
                      | (refine Cmp.ff h0 ?_)
                      | (refine Cmp.ff he ?_)
                      | (refine Ret.mk rfl))
          · have hend : (p0 :: r0).drop i = [] := List.drop_eq_nil_of_le (by omega)
            rw [hend, parseG] at hres
            obtain rfl : i = r0.length + 1 := by omega
            rw [← hres, Mrv_bad (by decide)]
            repeat' ((conv => whnf); first
            | refine Br.tt ?_
            | refine Br.ff ?_
            | refine Need.w ?_
            | refine Wr.w ?_
            | refine Cmp.t ?_
            | refine Cmp.f ?_
            | refine Rem.w ?_
            | refine Quo.w ?_
            | refine PickV.now rfl ?_
            | refine Pick.now rfl ?_
            | refine Chk.mk rfl ?_
            | refine PickW.w rfl ?_
              | (refine Need.mk ⟨rfl, by simp⟩ ?_)
              | (apply CallI.of; assumption)
              | (refine Ret.mk rfl))
        · intro main
          have hres : parseG ⟨ki, ai, se, da, []⟩ 1 ((p0 :: r0).drop 1) = R := hpm.symm
          clear hpm
          refine LoopW.step g.lim ?_
          by_cases hlt : 1 < (p0 :: r0).length
          · have hg : ((p0 :: r0).map D.str)[(((1 : Nat) : Int)).toNat * 1]? = some (.str (p0 :: r0)[1]) := by
              rw [Int.toNat_natCast, Nat.mul_one, List.getElem?_map, List.getElem?_eq_getElem hlt]
              rfl
            have hdr : (p0 :: r0).drop 1 = (p0 :: r0)[1] :: (p0 :: r0).drop (1 + 1) := List.drop_eq_getElem_cons hlt
            rw [hdr] at hres
            have hpn : (p0 :: r0)[1].length ≤ 1000000 := Nat.le_trans (hml _ (List.getElem_mem hlt)) hs0
            generalize (p0 :: r0)[1] = p at *
            have hen := r_ended g p hpn
            cases hw : wholeB p
            · rw [hw] at hen
              rw [parseG_open hw] at hres
              rw [← hres, Mrv_bad (by decide)]
              repeat' ((conv => whnf); first
              | refine Br.tt ?_
              | refine Br.ff ?_
              | refine Need.w ?_
              | refine Wr.w ?_
              | refine Cmp.t ?_
              | refine Cmp.f ?_
              | refine Rem.w ?_
              | refine Quo.w ?_
              | refine PickV.now rfl ?_
              | refine Pick.now rfl ?_
              | refine Chk.mk rfl ?_
              | refine PickW.w rfl ?_
                | (refine Need.mk ⟨rfl, by simp⟩ ?_)
                | (apply CallI.of; assumption)
                | (refine Pick.now hg ?_)
                | (refine Ret.mk rfl))
            · rw [hw] at hen
              have hpe := whole_eq hw
              have hal := endW_le p
              generalize endW p = a at *
              subst hpe
              have hsp := r_split g a (by omega)
              cases hpa : parts 32 a with
              | nil => exact absurd hpa (parts_ne 32 a)
              | cons w0 wr =>
                rw [hpa] at hsp
                by_cases h0 : w0 = ENDW
                · subst h0
                  by_cases hwr : wr.length = 1
                  · obtain ⟨x, rfl⟩ := List.length_eq_one_iff.1 hwr
                    have h2l : (([ENDW, x] : List (List UInt8)).length : Int) = 2 := rfl
                    rw [parseG_endl hpa] at hres
                    have hnum := r_digits g x 2 (by omega)
                    cases hnb : numB x 2
                    · rw [hnb] at hnum hres
                      rw [if_neg (by decide)] at hnum
                      rw [if_pos rfl] at hres
                      rw [← hres, Mrv_bad (by decide)]
                      repeat' ((conv => whnf); first
                      | refine Br.tt ?_
                      | refine Br.ff ?_
                      | refine Need.w ?_
                      | refine Wr.w ?_
                      | refine Cmp.t ?_
                      | refine Cmp.f ?_
                      | refine Rem.w ?_
                      | refine Quo.w ?_
                      | refine PickV.now rfl ?_
                      | refine Pick.now rfl ?_
                      | refine Chk.mk rfl ?_
                      | refine PickW.w rfl ?_
                        | (refine Need.mk ⟨rfl, by simp⟩ ?_)
                        | (apply CallI.of; assumption)
                        | (refine Pick.now hg ?_)
                        | (refine Pick.now rfl ?_)
                        | (refine Ret.mk rfl))
                    · have hvb := numB_val hnb
                      rw [hnb] at hnum hres
                      rw [if_pos rfl] at hnum
                      rw [if_neg (by decide)] at hres
                      by_cases hcn : valA 0 x = ([] : List Lnt).length
                      · rw [if_neg (by simpa using hcn)] at hres
                        have hcn2 : valA 0 x = 0 := hcn
                        by_cases hlast : 1 + 1 < (p0 :: r0).length
                        · rw [if_pos (by rw [List.drop_eq_getElem_cons hlast]; exact List.cons_ne_nil _ _)] at hres
                          rw [← hres, Mrv_bad (by decide)]
                          repeat' ((conv => whnf); first
                          | refine Br.tt ?_
                          | refine Br.ff ?_
                          | refine Need.w ?_
                          | refine Wr.w ?_
                          | refine Cmp.t ?_
                          | refine Cmp.f ?_
                          | refine Rem.w ?_
                          | refine Quo.w ?_
                          | refine PickV.now rfl ?_
                          | refine Pick.now rfl ?_
                          | refine Chk.mk rfl ?_
                          | refine PickW.w rfl ?_
                            | (refine Need.mk ⟨rfl, by simp⟩ ?_)
                            | (apply CallI.of; assumption)
                            | (refine Pick.now hg ?_)
                            | (refine Pick.now rfl ?_)
                            | (refine Ret.mk rfl))
                        · rw [if_neg (by rw [List.drop_eq_nil_of_le (by omega)]; simp)] at hres
                          have hchk : chkLs ki none 0 [] = (0, 0) := rfl
                          rw [hchk, if_neg (by simp)] at hres
                          have hcn0 := r_CheckLines_nil g ki
                          have hM : Mrv R = Mnl ⟨ki, ai, se, da, []⟩ := by rw [← hres]; exact if_pos ⟨rfl, rfl⟩
                          rw [hM, ← hres]
                          repeat' ((conv => whnf); first
                          | refine Br.tt ?_
                          | refine Br.ff ?_
                          | refine Need.w ?_
                          | refine Wr.w ?_
                          | refine Cmp.t ?_
                          | refine Cmp.f ?_
                          | refine Rem.w ?_
                          | refine Quo.w ?_
                          | refine PickV.now rfl ?_
                          | refine Pick.now rfl ?_
                          | refine Chk.mk rfl ?_
                          | refine PickW.w rfl ?_
                            | (refine Need.mk ⟨rfl, by simp⟩ ?_)
                            | (apply CallI.of; assumption)
                            | (refine Pick.now hg ?_)
                            | (refine Pick.now rfl ?_)
                            | (refine Ret.mk rfl))
                      · rw [if_pos (by simpa using hcn)] at hres
                        have hcn2 : valA 0 x ≠ 0 := hcn
                        rw [← hres, Mrv_bad (by decide)]
                        repeat' ((conv => whnf); first
                        | refine Br.tt ?_
                        | refine Br.ff ?_
                        | refine Need.w ?_
                        | refine Wr.w ?_
                        | refine Cmp.t ?_
                        | refine Cmp.f ?_
                        | refine Rem.w ?_
                        | refine Quo.w ?_
                        | refine PickV.now rfl ?_
                        | refine Pick.now rfl ?_
                        | refine Chk.mk rfl ?_
                        | refine PickW.w rfl ?_
                          | (refine Need.mk ⟨rfl, by simp⟩ ?_)
                          | (apply CallI.of; assumption)
                          | (refine Pick.now hg ?_)
                          | (refine Pick.now rfl ?_)
                          | (refine Ret.mk rfl))
                  · rw [parseG_bad hpa hwr] at hres
                    have hl2 : ¬ (((ENDW :: wr).length : Int) = 2) := by simp only [List.length_cons]; omega
                    have hl3 : (ENDW :: wr).length = wr.length + 1 := rfl
                    rw [← hres, Mrv_bad (by decide)]
                    repeat' ((conv => whnf); first
                    | refine Br.tt ?_
                    | refine Br.ff ?_
                    | refine Need.w ?_
                    | refine Wr.w ?_
                    | refine Cmp.t ?_
                    | refine Cmp.f ?_
                    | refine Rem.w ?_
                    | refine Quo.w ?_
                    | refine PickV.now rfl ?_
                    | refine Pick.now rfl ?_
                    | refine Chk.mk rfl ?_
                    | refine PickW.w rfl ?_
                      | (refine Need.mk ⟨rfl, by simp⟩ ?_)
                      | (apply CallI.of; assumption)
                      | (refine Pick.now hg ?_)
                      | (refine Pick.now rfl ?_)
                      | (refine Cmp.ff hl2 ?_)
                      | (refine Ret.mk rfl))
                · rw [parseG_line hpa h0] at hres
                  have hl3 : (w0 :: wr).length = wr.length + 1 := rfl
                  obtain ⟨j, hpl2⟩ := r_lineP g a (by omega)
                  generalize lineP a = q at *
                  obtain ⟨x, e⟩ := q
                  simp only at hpl2 hres
                  by_cases he : e = 0
                  · subst he
                    rw [if_neg (by simp)] at hres
                    rw [if_neg (by simp)] at hres
                    have ih := main (2, [x]) ⟨by simp, by simp, by simp, by simp only [List.length_cons] at hlt ⊢; omega, hres⟩
                    have hxl : x.cells.length = 14 := rfl
                    repeat' ((conv => whnf); first
                    | refine Br.tt ?_
                    | refine Br.ff ?_
                    | refine Need.w ?_
                    | refine Wr.w ?_
                    | refine Cmp.t ?_
                    | refine Cmp.f ?_
                    | refine Rem.w ?_
                    | refine Quo.w ?_
                    | refine PickV.now rfl ?_
                    | refine Pick.now rfl ?_
                    | refine Chk.mk rfl ?_
                    | refine PickW.w rfl ?_
                      | (refine Need.mk ⟨rfl, by simp⟩ ?_)
                      | (apply CallI.of; assumption)
                      | (refine Pick.now hg ?_)
                      | (refine Pick.now rfl ?_)
                      | (refine Cmp.ff h0 ?_)
                      | (refine Need.mk (by simp; omega) ?_)
                      | (refine LoopW.to ih rfl ?_))
                    simp only [List.flatMap_cons, List.flatMap_nil, List.append_nil]
                    rfl
                  · rw [if_pos he] at hres
                    rw [← hres, Mrv_bad he]
                    repeat' ((conv => whnf); first
                    | refine Br.tt ?_
                    | refine Br.ff ?_
                    | refine Need.w ?_
                    | refine Wr.w ?_
                    | refine Cmp.t ?_
                    | refine Cmp.f ?_
                    | refine Rem.w ?_
                    | refine Quo.w ?_
                    | refine PickV.now rfl ?_
                    | refine Pick.now rfl ?_
                    | refine Chk.mk rfl ?_
                    | refine PickW.w rfl ?_
                      | (refine Need.mk ⟨rfl, by simp⟩ ?_)
                      | (apply CallI.of; assumption)
                      | (refine Pick.now hg ?_)
                      | (refine Pick.now rfl ?_)
                      | (refine Cmp.ff h0 ?_)
                      | (refine Cmp.ff he ?_)
                      | (refine Ret.mk rfl))
          · have hend : (p0 :: r0).drop 1 = [] := List.drop_eq_nil_of_le (by omega)
            rw [hend, parseG] at hres
            have hr0 : r0.length = 0 := by simp only [List.length_cons] at hlt; omega
            rw [← hres, Mrv_bad (by decide)]
            repeat' ((conv => whnf); first
            | refine Br.tt ?_
            | refine Br.ff ?_
            | refine Need.w ?_
            | refine Wr.w ?_
            | refine Cmp.t ?_
            | refine Cmp.f ?_
            | refine Rem.w ?_
            | refine Quo.w ?_
            | refine PickV.now rfl ?_
            | refine Pick.now rfl ?_
            | refine Chk.mk rfl ?_
            | refine PickW.w rfl ?_
              | (refine Need.mk ⟨rfl, by simp⟩ ?_)
              | (apply CallI.of; assumption)
              | (refine Ret.mk (by simp only [hcl, hr0]; rfl)))
end
end Go.Proofs.YtgpgcadcpogcbaaGreatDoor.Co
