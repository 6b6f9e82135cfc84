
/-
  Messages: requests and lines, checked.
-/
import Derived.Test.YtcephlgejkngiaaGreatDoorMsNum
import Derived.Test.YtcephlgejkngiaaGreatDoorSpInm
namespace Go.Proofs.YtcephlgejkngiaaGreatDoor.Co
open Go Go.Evl
structure Rqt where
  (nm ca ki te pa li : List UInt8)
  (fr to da mi se si no : Int)
  deriving DecidableEq
def Rqt.cells (q : Rqt) : List D := [.str q.nm, .str q.ca, .str q.ki, .str q.te, .str q.pa, .str q.li, DI q.fr, DI q.to, DI q.da, DI q.mi, DI q.se, DI q.si, DI q.no]
structure Lnt where
  ac : List UInt8
  rq : Rqt
def Lnt.cells (l : Lnt) : List D := .str l.ac :: l.rq.cells
theorem Lnt.cells_length (l : Lnt) : l.cells.length = 14 := rfl
theorem Rqt.cells_length (q : Rqt) : q.cells.length = 13 := rfl
abbrev Rqv (q : Rqt) : V := .d (.agg q.cells)
abbrev Lnv (l : Lnt) : V := .d (.agg l.cells)
def nmE (s : List UInt8) : Int := if (!isNameB s) = true then 8 else 0
def optB (s : List UInt8) : Bool := decide (s = []) || isNameB s
def opE (s : List UInt8) : Int := if (!optB s) = true then 8 else 0
def kindB (s : List UInt8) : Bool := decide (s = [65]) || decide (s = [68])
def chkRq (q : Rqt) : Int := firstI [nmE q.nm, nmE q.ca, nmE q.pa, opE q.te, opE q.li, if (!kindB q.ki) = true then 13 else 0, if q.li = q.nm then 32 else 0, chkPer q.fr q.to q.da, rng q.mi 0 1439, rng q.se 0 999, rng q.si 1 9, rng q.no 0 99]
def askL : List (List UInt8) := [[78], [72], [67], [82], [68]]
def repL : List (List UInt8) := [[75], [79], [85], [88]]
def asksB (s : List UInt8) : Bool := decide (s ∈ askL)
def repB (s : List UInt8) : Bool := decide (s ∈ repL)
def actB (s : List UInt8) : Bool := asksB s || repB s
abbrev REQ : List UInt8 := [82, 69, 81]
abbrev ANS : List UInt8 := [65, 78, 83]
def actK (s : List UInt8) : List UInt8 := if asksB s then REQ else if repB s then ANS else []
def chkLn (l : Lnt) : Int := firstI [if (!actB l.ac) = true then 13 else 0, chkRq l.rq]
theorem chkLn_eq (l : Lnt) : chkLn l = if actB l.ac then chkRq l.rq else 13 := by
  unfold chkLn
  cases actB l.ac
  · simp [firstI]
  · simp only [firstI]; simp; intro h; exact h.symm
abbrev actM : List (D × V) := [(.str [78], S REQ), (.str [72], S REQ), (.str [67], S REQ), (.str [82], S REQ), (.str [68], S REQ), (.str [75], S ANS), (.str [79], S ANS), (.str [85], S ANS), (.str [88], S ANS)]
theorem act_cases (s : List UInt8) : s ∈ askL ++ repL ∨ findE (.str s) actM = some none ∧ asksB s = false ∧ repB s = false := by
  by_cases h : s ∈ askL ++ repL
  · exact .inl h
  · refine .inr ?_
    simp only [askL, repL, List.mem_append, List.mem_cons, List.not_mem_nil, or_false, not_or] at h
    have e : ∀ t, s ≠ t → (s == t) = false := fun t h => beq_eq_false_iff_ne.2 h
    refine ⟨?_, decide_eq_false (by simp [askL, h]), decide_eq_false (by simp [repL, h])⟩
    obtain ⟨⟨h1, h2, h3, h4, h5⟩, h6, h7, h8, h9⟩ := h
    simp only [findE, eqD, e _ h1, e _ h2, e _ h3, e _ h4, e _ h5, e _ h6, e _ h7, e _ h8, e _ h9]
section
variable {E : Oracle} (g : Good E)
include g
set_option maxRecDepth 100000
theorem s_mfirst (l : List Int) (hl : l.length ≤ 140737488355328) : Fc E n_message_first [LI l] (I (firstI l)) := by
  refine g.fn code_message_first rfl ?_
  conv => whnf
  refine LoopW.upP g (fun k => [(5, LI l), (6, I l.length), (7, I k)]) (fun _ => []) (fun k => firstI l = firstI (l.drop k)) l.length (fun k hk hp ih => ?_) 0 (Nat.zero_le _) (by simp)
  by_cases hlt : k < l.length
  · have hd := firstI_drop l k hlt
    repeat' ((conv => whnf); first
    | refine Br.tt ?_ | refine Br.ff ?_ | refine Need.w ?_ | refine Wr.w ?_ | refine Cmp.t ?_ | refine Cmp.f ?_ | refine Rem.w ?_ | refine Quo.w ?_ | refine PickV.now rfl ?_ | refine Pick.now rfl ?_ | refine Chk.mk rfl ?_ | refine PickW.w rfl ?_
      | (refine Pick.int (by omega) ?_)
      | (refine Cmp.mk (fun h => ?_) (fun h => ?_)) | (refine Rem.any (by omega) (fun r hr he => ?_)) | (refine Br.mk (fun h => ?_) (fun h => ?_))
      | (refine LoopW.to (ih hlt ?_) ?_ rfl)
      | (refine Ret.mk ?_))
    all_goals simp_all
  · have : l.drop k = [] := List.drop_eq_nil_of_le (by omega)
    repeat' ((conv => whnf); first
    | refine Br.tt ?_ | refine Br.ff ?_ | refine Need.w ?_ | refine Wr.w ?_ | refine Cmp.t ?_ | refine Cmp.f ?_ | refine Rem.w ?_ | refine Quo.w ?_ | refine PickV.now rfl ?_ | refine Pick.now rfl ?_ | refine Chk.mk rfl ?_ | refine PickW.w rfl ?_
      | (refine Ret.mk ?_))
    simp [hp, this, firstI]
theorem s_mfirst2 (a b : Int) : Fc E n_message_first [.d (.list 2 [DI a, DI b])] (I (firstI [a, b])) := s_mfirst g [a, b] (by simp)
theorem s_mfirst3 (a b c : Int) : Fc E n_message_first [.d (.list 3 [DI a, DI b, DI c])] (I (firstI [a, b, c])) := s_mfirst g [a, b, c] (by simp)
theorem s_mfirst4 (a b c d : Int) : Fc E n_message_first [.d (.list 4 [DI a, DI b, DI c, DI d])] (I (firstI [a, b, c, d])) := s_mfirst g [a, b, c, d] (by simp)
theorem s_mfirst12 (a b c d e f h i j k l m : Int) : Fc E n_message_first [.d (.list 12 [DI a, DI b, DI c, DI d, DI e, DI f, DI h, DI i, DI j, DI k, DI l, DI m])] (I (firstI [a, b, c, d, e, f, h, i, j, k, l, m])) := s_mfirst g [a, b, c, d, e, f, h, i, j, k, l, m] (by simp)
theorem r_First4 (a b c d : Int) : Fc E n_ref01_First [.d (.list 4 [DI a, DI b, DI c, DI d])] (I (firstI [a, b, c, d])) := r_First g [a, b, c, d] (by simp)
theorem r_First2 (a b : Int) : Fc E n_ref01_First [.d (.list 2 [DI a, DI b])] (I (firstI [a, b])) := r_First g [a, b] (by simp)
theorem s_named (s : List UInt8) : Fc E n_message_named [S s] (I (nmE s)) := by
  refine g.fn code_message_named rfl ?_
  have h := s_IsName g s
  repeat' ((conv => whnf); first
  | refine Br.tt ?_ | refine Br.ff ?_ | refine Need.w ?_ | refine Wr.w ?_ | refine Cmp.t ?_ | refine Cmp.f ?_ | refine Rem.w ?_ | refine Quo.w ?_ | refine PickV.now rfl ?_ | refine Pick.now rfl ?_ | refine Chk.mk rfl ?_ | refine PickW.w rfl ?_
    | (apply CallI.of; assumption)
    | (refine CallI.of (s_mwhen g _ _) ?_)
    | (refine Ret.mk rfl))
theorem s_moptional (s : List UInt8) : Fc E n_message_optional [S s] (I (opE s)) := by
  refine g.fn code_message_optional rfl ?_
  have h := s_IsName g s
  unfold opE optB
  by_cases he : s = []
  · subst he
    repeat' ((conv => whnf); first
    | refine Br.tt ?_ | refine Br.ff ?_ | refine Need.w ?_ | refine Wr.w ?_ | refine Cmp.t ?_ | refine Cmp.f ?_ | refine Rem.w ?_ | refine Quo.w ?_ | refine PickV.now rfl ?_ | refine Pick.now rfl ?_ | refine Chk.mk rfl ?_ | refine PickW.w rfl ?_
      | (refine CallI.of (s_mwhen g _ _) ?_)
      | (refine Ret.mk rfl))
  · rw [decide_eq_false he]
    repeat' ((conv => whnf); first
    | refine Br.tt ?_ | refine Br.ff ?_ | refine Need.w ?_ | refine Wr.w ?_ | refine Cmp.t ?_ | refine Cmp.f ?_ | refine Rem.w ?_ | refine Quo.w ?_ | refine PickV.now rfl ?_ | refine Pick.now rfl ?_ | refine Chk.mk rfl ?_ | refine PickW.w rfl ?_
      | (apply CallI.of; assumption)
      | (refine Cmp.ff he ?_)
      | (refine CallI.of (s_mwhen g _ _) ?_)
      | (refine Ret.mk rfl))
theorem r_optional (s : List UInt8) : Fc E n_ref02_optional [S s] (B (optB s)) := by
  refine g.fn code_ref02_optional rfl ?_
  have h := r_IsName g s
  unfold optB
  by_cases he : s = []
  · subst he
    repeat' ((conv => whnf); first
    | refine Br.tt ?_ | refine Br.ff ?_ | refine Need.w ?_ | refine Wr.w ?_ | refine Cmp.t ?_ | refine Cmp.f ?_ | refine Rem.w ?_ | refine Quo.w ?_ | refine PickV.now rfl ?_ | refine Pick.now rfl ?_ | refine Chk.mk rfl ?_ | refine PickW.w rfl ?_
      | (refine Ret.mk rfl))
  · rw [decide_eq_false he]
    repeat' ((conv => whnf); first
    | refine Br.tt ?_ | refine Br.ff ?_ | refine Need.w ?_ | refine Wr.w ?_ | refine Cmp.t ?_ | refine Cmp.f ?_ | refine Rem.w ?_ | refine Quo.w ?_ | refine PickV.now rfl ?_ | refine Pick.now rfl ?_ | refine Chk.mk rfl ?_ | refine PickW.w rfl ?_
      | (apply CallI.of; assumption)
      | (refine Cmp.ff he ?_)
      | (refine Ret.mk rfl))
theorem s_isKind (s : List UInt8) : Fc E n_message_isKind [S s] (B (kindB s)) := by
  refine g.fn code_message_isKind rfl ?_
  unfold kindB
  by_cases he : s = [65]
  · subst he
    repeat' ((conv => whnf); first
    | refine Br.tt ?_ | refine Br.ff ?_ | refine Need.w ?_ | refine Wr.w ?_ | refine Cmp.t ?_ | refine Cmp.f ?_ | refine Rem.w ?_ | refine Quo.w ?_ | refine PickV.now rfl ?_ | refine Pick.now rfl ?_ | refine Chk.mk rfl ?_ | refine PickW.w rfl ?_
      | (refine Ret.mk rfl))
  · rw [decide_eq_false he]
    by_cases hd : s = [68]
    · subst hd
      repeat' ((conv => whnf); first
      | refine Br.tt ?_ | refine Br.ff ?_ | refine Need.w ?_ | refine Wr.w ?_ | refine Cmp.t ?_ | refine Cmp.f ?_ | refine Rem.w ?_ | refine Quo.w ?_ | refine PickV.now rfl ?_ | refine Pick.now rfl ?_ | refine Chk.mk rfl ?_ | refine PickW.w rfl ?_
        | (refine Ret.mk rfl))
    · rw [decide_eq_false hd]
      repeat' ((conv => whnf); first
      | refine Br.tt ?_ | refine Br.ff ?_ | refine Need.w ?_ | refine Wr.w ?_ | refine Cmp.t ?_ | refine Cmp.f ?_ | refine Rem.w ?_ | refine Quo.w ?_ | refine PickV.now rfl ?_ | refine Pick.now rfl ?_ | refine Chk.mk rfl ?_ | refine PickW.w rfl ?_
        | (refine Cmp.ff he ?_)
        | (refine Cmp.ff hd ?_)
        | (refine Ret.mk rfl))
set_option maxHeartbeats 4000000 in
theorem s_CheckRequest (q : Rqt) : Fc E n_message_CheckRequest [Rqv q] (I (chkRq q)) := by
  refine g.fn code_message_CheckRequest rfl ?_
  have h1 := s_named g
  have h2 := s_moptional g
  have h3 := s_isKind g q.ki
  have h4 := s_CheckPeriod g q.fr q.to q.da
  have h5 := s_mwithin g
  have h6 := s_mwhen g
  unfold chkRq
  by_cases hl : q.li = q.nm
  all_goals first | rw [if_pos hl] | rw [if_neg hl]
  all_goals repeat' ((conv => whnf); first
  | refine Br.tt ?_ | refine Br.ff ?_ | refine Need.w ?_ | refine Wr.w ?_ | refine Cmp.t ?_ | refine Cmp.f ?_ | refine Rem.w ?_ | refine Quo.w ?_ | refine PickV.now rfl ?_ | refine Pick.now rfl ?_ | refine Chk.mk rfl ?_ | refine PickW.w rfl ?_
    | (refine CallI.of (h1 _) ?_)
    | (refine CallI.of (h2 _) ?_)
    | (refine CallI.of h3 ?_)
    | (refine CallI.of h4 ?_)
    | (refine CallI.of (h5 _ _ _) ?_)
    | (refine CallI.of (h6 _ _) ?_)
    | (refine Cmp.tt hl ?_)
    | (refine Cmp.ff hl ?_)
    | (refine CallI.of (s_mfirst12 g _ _ _ _ _ _ _ _ _ _ _ _) ?_)
    | (refine Ret.mk rfl))
set_option maxHeartbeats 8000000 in
theorem r_CheckRequest (q : Rqt) : Fc E n_ref02_CheckRequest [Rqv q] (I (chkRq q)) := by
  refine g.fn code_ref02_CheckRequest rfl ?_
  have n1 := r_IsName g q.nm
  have n2 := r_IsName g q.ca
  have n3 := r_IsName g q.pa
  have n4 := r_optional g q.te
  have n5 := r_optional g q.li
  have hp := r_CheckPeriod g q.fr q.to q.da
  have hr := r_CheckRange g
  unfold chkRq nmE opE
  generalize isNameB q.nm = b1 at *
  generalize isNameB q.ca = b2 at *
  generalize isNameB q.pa = b3 at *
  generalize optB q.te = b4 at *
  generalize optB q.li = b5 at *
  generalize chkPer q.fr q.to q.da = cp at *
  cases b1
  · repeat' ((conv => whnf); first
  | refine Br.tt ?_ | refine Br.ff ?_ | refine Need.w ?_ | refine Wr.w ?_ | refine Cmp.t ?_ | refine Cmp.f ?_ | refine Rem.w ?_ | refine Quo.w ?_ | refine PickV.now rfl ?_ | refine Pick.now rfl ?_ | refine Chk.mk rfl ?_ | refine PickW.w rfl ?_
      | (apply CallI.of; assumption)
      | (refine Cmp.tt (by assumption) ?_)
      | (refine Cmp.ff (by assumption) ?_)
      | (refine CallI.of (hr _ _ _) ?_)
      | (refine CallI.of (r_First4 g _ _ _ _) ?_)
      | (refine Ret.mk ?_))
    rfl
  ·
    cases b2
    · repeat' ((conv => whnf); first
    | refine Br.tt ?_ | refine Br.ff ?_ | refine Need.w ?_ | refine Wr.w ?_ | refine Cmp.t ?_ | refine Cmp.f ?_ | refine Rem.w ?_ | refine Quo.w ?_ | refine PickV.now rfl ?_ | refine Pick.now rfl ?_ | refine Chk.mk rfl ?_ | refine PickW.w rfl ?_
        | (apply CallI.of; assumption)
        | (refine Cmp.tt (by assumption) ?_)
        | (refine Cmp.ff (by assumption) ?_)
        | (refine CallI.of (hr _ _ _) ?_)
        | (refine CallI.of (r_First4 g _ _ _ _) ?_)
        | (refine Ret.mk ?_))
      rfl
    ·
      cases b3
      · repeat' ((conv => whnf); first
      | refine Br.tt ?_ | refine Br.ff ?_ | refine Need.w ?_ | refine Wr.w ?_ | refine Cmp.t ?_ | refine Cmp.f ?_ | refine Rem.w ?_ | refine Quo.w ?_ | refine PickV.now rfl ?_ | refine Pick.now rfl ?_ | refine Chk.mk rfl ?_ | refine PickW.w rfl ?_
          | (apply CallI.of; assumption)
          | (refine Cmp.tt (by assumption) ?_)
          | (refine Cmp.ff (by assumption) ?_)
          | (refine CallI.of (hr _ _ _) ?_)
          | (refine CallI.of (r_First4 g _ _ _ _) ?_)
          | (refine Ret.mk ?_))
        rfl
      ·
        cases b4
        · repeat' ((conv => whnf); first
        | refine Br.tt ?_ | refine Br.ff ?_ | refine Need.w ?_ | refine Wr.w ?_ | refine Cmp.t ?_ | refine Cmp.f ?_ | refine Rem.w ?_ | refine Quo.w ?_ | refine PickV.now rfl ?_ | refine Pick.now rfl ?_ | refine Chk.mk rfl ?_ | refine PickW.w rfl ?_
            | (apply CallI.of; assumption)
            | (refine Cmp.tt (by assumption) ?_)
            | (refine Cmp.ff (by assumption) ?_)
            | (refine CallI.of (hr _ _ _) ?_)
            | (refine CallI.of (r_First4 g _ _ _ _) ?_)
            | (refine Ret.mk ?_))
          rfl
        ·
          cases b5
          · repeat' ((conv => whnf); first
          | refine Br.tt ?_ | refine Br.ff ?_ | refine Need.w ?_ | refine Wr.w ?_ | refine Cmp.t ?_ | refine Cmp.f ?_ | refine Rem.w ?_ | refine Quo.w ?_ | refine PickV.now rfl ?_ | refine Pick.now rfl ?_ | refine Chk.mk rfl ?_ | refine PickW.w rfl ?_
              | (apply CallI.of; assumption)
              | (refine Cmp.tt (by assumption) ?_)
              | (refine Cmp.ff (by assumption) ?_)
              | (refine CallI.of (hr _ _ _) ?_)
              | (refine CallI.of (r_First4 g _ _ _ _) ?_)
              | (refine Ret.mk ?_))
            rfl
          ·
            unfold kindB
            by_cases ka : q.ki = [65]
            all_goals by_cases kd : q.ki = [68]
            all_goals by_cases hl : q.li = q.nm
            all_goals by_cases hc : cp = 0
            all_goals repeat' ((conv => whnf); first
            | refine Br.tt ?_ | refine Br.ff ?_ | refine Need.w ?_ | refine Wr.w ?_ | refine Cmp.t ?_ | refine Cmp.f ?_ | refine Rem.w ?_ | refine Quo.w ?_ | refine PickV.now rfl ?_ | refine Pick.now rfl ?_ | refine Chk.mk rfl ?_ | refine PickW.w rfl ?_
              | (apply CallI.of; assumption)
              | (refine Cmp.tt (by assumption) ?_)
              | (refine Cmp.ff (by assumption) ?_)
              | (refine CallI.of (hr _ _ _) ?_)
              | (refine CallI.of (r_First4 g _ _ _ _) ?_)
              | (refine Ret.mk ?_))
            all_goals simp_all [firstI]
theorem r_HasWord (l : List (List UInt8)) (s : List UInt8) (hl : l.length ≤ 140737488355328) : Fc E n_ref01_HasWord [.d (.list l.length (l.map D.str)), S s] (B (decide (s ∈ l))) := by
  refine g.fn code_ref01_HasWord rfl ?_
  conv => whnf
  refine LoopW.upP g (fun k => [(0, .d (.list l.length (l.map D.str))), (1, S s), (5, I k)]) (fun _ => []) (fun k => ∀ i, i < k → ∀ x, l[i]? = some x → x ≠ s) l.length (fun k hk hp ih => ?_) 0 (Nat.zero_le _) (fun i hi => absurd hi (Nat.not_lt_zero _))
  by_cases hlt : k < l.length
  · have hg : (l.map D.str)[((k : Int)).toNat * 1]? = some (.str l[k]) := by simp [hlt]
    by_cases he : l[k] = s
    · rw [decide_eq_true (by rw [← he]; exact List.getElem_mem hlt)]
      repeat' ((conv => whnf); first
      | refine Br.tt ?_ | refine Br.ff ?_ | refine Need.w ?_ | refine Wr.w ?_ | refine Cmp.t ?_ | refine Cmp.f ?_ | refine Rem.w ?_ | refine Quo.w ?_ | refine PickV.now rfl ?_ | refine Pick.now rfl ?_ | refine Chk.mk rfl ?_ | refine PickW.w rfl ?_
        | (refine Pick.now hg ?_)
        | (refine Cmp.tt he ?_)
        | (refine Ret.mk rfl))
    · have ih := ih hlt fun i hi x hx => by
        by_cases e : i = k
        · subst e
          rw [List.getElem?_eq_getElem hlt] at hx
          rw [← Option.some.inj hx]; exact he
        · exact hp i (by omega) x hx
      repeat' ((conv => whnf); first
      | refine Br.tt ?_ | refine Br.ff ?_ | refine Need.w ?_ | refine Wr.w ?_ | refine Cmp.t ?_ | refine Cmp.f ?_ | refine Rem.w ?_ | refine Quo.w ?_ | refine PickV.now rfl ?_ | refine Pick.now rfl ?_ | refine Chk.mk rfl ?_ | refine PickW.w rfl ?_
        | (refine Pick.now hg ?_)
        | (refine Cmp.ff he ?_)
        | (refine LoopW.to ih rfl rfl))
  · have hno : s ∉ l := fun hm => by
      obtain ⟨i, hi, e⟩ := List.getElem_of_mem hm
      exact hp i (by omega) s (by rw [List.getElem?_eq_getElem hi, e]) rfl
    rw [decide_eq_false hno]
    repeat' ((conv => whnf); first
    | refine Br.tt ?_ | refine Br.ff ?_ | refine Need.w ?_ | refine Wr.w ?_ | refine Cmp.t ?_ | refine Cmp.f ?_ | refine Rem.w ?_ | refine Quo.w ?_ | refine PickV.now rfl ?_ | refine Pick.now rfl ?_ | refine Chk.mk rfl ?_ | refine PickW.w rfl ?_
      | (refine Ret.mk rfl))
omit g in
theorem settle_actions {cx : Cx} {slot : Nat} {m : Mem} (hf : Go.Evl.freeK cx.lv slot m = 0) : Go.Evl.settle cx slot 0 m [(⟨0, 1, 0⟩, .map actM)] (.mp ⟨0, 1, 0⟩) = some (.mp ⟨cx.lv, slot, 0⟩, m ++ [(⟨cx.lv, slot, 0⟩, .map actM)]) := by
  unfold Go.Evl.settle
  rw [hf]
  rfl
end
end Go.Proofs.YtcephlgejkngiaaGreatDoor.Co
