
/-
  Messages: Changed, by the program and by the reference.
-/
import Derived.Test.YtgpgcadcpogcbaaGreatDoorMsRqs
import Derived.Test.YtgpgcadcpogcbaaGreatDoorMsRow
import Derived.Test.YtgpgcadcpogcbaaGreatDoorMsChz
namespace Go.Proofs.YtgpgcadcpogcbaaGreatDoor.Co
open Go Go.Evl
set_option maxRecDepth 100000
def zeroQ : Rqt := ⟨[], [], [], [], [], [], 0, 0, 0, 0, 0, 0, 0⟩
def twF (l : List Rqt) (q : Rqt) : Option Rqt := l.find? fun o => twinB o q
def dL (l : List Rqt) (q : Rqt) : List Lnt := match twF l q with | none => [⟨[68], q⟩] | some _ => []
def cL (l : List Rqt) (q : Rqt) : List Lnt := match twF l q with | none => [] | some o => if o = q then [] else [⟨[67], q⟩, ⟨[82], o⟩]
def nL (l : List Rqt) (q : Rqt) : List Lnt := match twF l q with | none => [⟨[78], q⟩] | some _ => []
def chgL (b a : List Rqt) : List Lnt := (b.flatMap (dL a) ++ b.flatMap (cL a)) ++ a.flatMap (nL b)
theorem fm_take (f : Rqt → List Lnt) (l : List Rqt) (k : Nat) (h : k < l.length) : (l.take (k + 1)).flatMap f = (l.take k).flatMap f ++ f l[k] := by
  rw [List.take_add_one, List.getElem?_eq_getElem h, List.flatMap_append]
  simp only [Option.toList_some, List.flatMap_cons, List.flatMap_nil, List.append_nil]
theorem twF_at {l : List Rqt} {q : Rqt} {k : Nat} (hk : k < l.length) (h0 : ∀ j (h : j < l.length), j < k → twinB l[j] q = false) (h1 : twinB l[k] q = true) : twF l q = some l[k] := by
  unfold twF
  rw [List.find?_eq_some_iff_getElem]
  exact ⟨h1, k, hk, rfl, fun j hj => by rw [h0 j (by omega) hj]; rfl⟩
theorem twF_no {l : List Rqt} {q : Rqt} (h0 : ∀ j (h : j < l.length), twinB l[j] q = false) : twF l q = none := by
  unfold twF
  rw [List.find?_eq_none]
  intro x hx
  obtain ⟨j, hj, rfl⟩ := List.getElem_of_mem hx
  rw [h0 j hj]
  decide
theorem one_len {f : Rqt → List Lnt} (w : Nat) (h : ∀ q, (f q).length ≤ w) : ∀ l : List Rqt, (l.flatMap f).length ≤ l.length * w
  | [] => by simp
  | x :: r => by
    have ih := one_len w h r
    have hx := h x
    rw [List.flatMap_cons, List.length_append, List.length_cons, Nat.succ_mul]
    omega
theorem dL_len (l : List Rqt) (q : Rqt) : (dL l q).length ≤ 1 := by unfold dL; split <;> simp
theorem nL_len (l : List Rqt) (q : Rqt) : (nL l q).length ≤ 1 := by unfold nL; split <;> simp
theorem cL_len (l : List Rqt) (q : Rqt) : (cL l q).length ≤ 2 := by unfold cL; split <;> (try split) <;> simp
theorem nm_at {l : List Rqt} (hu : (nmsQ l).Nodup) {i j : Nat} (hi : i < l.length) (hj : j < l.length) (h : l[i].nm = l[j].nm) : i = j := by
  have hp := List.pairwise_iff_getElem.1 hu
  have hn : (nmsQ l).length = l.length := List.length_map ..
  rcases Nat.lt_trichotomy i j with h' | h' | h'
  · exact absurd (by simpa [nmsQ] using h) (hp i j (by omega) (by omega) h')
  · exact h'
  · exact absurd (by simpa [nmsQ] using h.symm) (hp j i (by omega) (by omega) h')
theorem rq_ext {a b : Rqt} (h : a.nm = b.nm ∧ a.ca = b.ca ∧ a.ki = b.ki ∧ a.te = b.te ∧ a.pa = b.pa ∧ a.li = b.li ∧ a.fr = b.fr ∧ a.to = b.to ∧ a.da = b.da ∧ a.mi = b.mi ∧ a.se = b.se ∧ a.si = b.si ∧ a.no = b.no) : a = b := by
  obtain ⟨h1, h2, h3, h4, h5, h6, h7, h8, h9, h10, h11, h12, h13⟩ := h
  cases a
  cases b
  simp only at h1 h2 h3 h4 h5 h6 h7 h8 h9 h10 h11 h12 h13
  simp only [h1, h2, h3, h4, h5, h6, h7, h8, h9, h10, h11, h12, h13]
def catR (x : List Lnt) : List Lnt → List Lnt
  | [] => x
  | y :: r => x ++ (y :: r)
theorem catR_eq (x : List Lnt) : ∀ y, catR x y = x ++ y
  | [] => (List.append_nil x).symm
  | _ :: _ => rfl
theorem catR_succ (x : List Lnt) (f : Rqt → List Lnt) {l : List Rqt} {k : Nat} (h : k < l.length) : catR x ((l.take (k + 1)).flatMap f) = catR x ((l.take k).flatMap f) ++ f l[k] := by
  rw [catR_eq, catR_eq, fm_take f l k h, List.append_assoc]
theorem take_len {f : Rqt → List Lnt} {w : Nat} (h : ∀ q, (f q).length ≤ w) (l : List Rqt) (k : Nat) : ((l.take k).flatMap f).length ≤ l.length * w :=
  Nat.le_trans (one_len w h _) (Nat.mul_le_mul_right _ (by rw [List.length_take]; omega))
section
variable {E : Oracle} (g : Good E)
include g
set_option maxHeartbeats 4000000 in
theorem s_twin (l : List Rqt) (q : Rqt) (hl : l.length ≤ 1000000) : (twF l q = none → Fc E n_message_Changed_1 [LQ l, Rqv q] (.tup [Rqv zeroQ, B false])) ∧ ∀ o, twF l q = some o → Fc E n_message_Changed_1 [LQ l, Rqv q] (.tup [Rqv o, B true]) := by
  have main : ∀ R : V, (twF l q = none → .tup [Rqv zeroQ, B false] = R) → (∀ o, twF l q = some o → .tup [Rqv o, B true] = R) → Fc E n_message_Changed_1 [LQ l, Rqv q] R := by
    intro R r1 r2
    refine g.fn code_message_Changed_1 rfl ?_
    repeat' ((conv => whnf); first
    | refine Br.tt ?_
    | refine Br.ff ?_
    | refine Need.w ?_
    | refine Wr.w ?_
    | refine Cmp.t ?_
    | refine Cmp.f ?_
    | refine Rem.w ?_
    | refine Quo.w ?_
    | refine PickV.now rfl ?_
    | refine Pick.now rfl ?_
    | refine Chk.mk rfl ?_
    | refine PickW.w rfl ?_
      | (refine In.enter g.lim rfl code_slices_IndexFunc_Lapi_Request_api_Request ?_))
    refine LoopW.to (LoopW.upP g (fun k => [(0, LQ l), (1, .fn n_message_Changed_1_1 [] [.ptr ⟨0, 3, 0⟩ 0 0]), (7, I l.length), (8, I k)]) (fun _ => _) (fun k => ∀ j (h : j < l.length), j < k → twinB l[j] q = false) l.length (fun k hk h0 ih => ?_) 0 (Nat.zero_le _) (fun j _ hj => absurd hj (Nat.not_lt_zero _))) rfl rfl
    by_cases hlt : k < l.length
    · have ht := s_twins g l[k] q
      cases hb : twinB l[k] q
      · rw [hb] at ht
        have ih := ih hlt fun j h hj => by
          by_cases e : j = k
          · subst e; exact hb
          · exact h0 j h (by omega)
        clear r1 r2 h0
        repeat' ((conv => whnf); first
        | refine Br.tt ?_
        | refine Br.ff ?_
        | refine Need.w ?_
        | refine Wr.w ?_
        | refine Cmp.t ?_
        | refine Cmp.f ?_
        | refine Rem.w ?_
        | refine Quo.w ?_
        | refine PickV.now rfl ?_
        | refine Pick.now rfl ?_
        | refine Chk.mk rfl ?_
        | refine PickW.w rfl ?_
          | (refine PickW.rec Rqt.cells_length k rfl hlt ?_)
          | (refine In.enter g.lim rfl code_message_Changed_1_1 ?_)
          | (refine CallI.of ht ?_)
          | (refine LoopW.to ih rfl rfl))
      · rw [hb] at ht
        rw [← r2 _ (twF_at hlt h0 hb)]
        clear r1 r2 h0 ih
        repeat' ((conv => whnf); first
        | refine Br.tt ?_
        | refine Br.ff ?_
        | refine Need.w ?_
        | refine Wr.w ?_
        | refine Cmp.t ?_
        | refine Cmp.f ?_
        | refine Rem.w ?_
        | refine Quo.w ?_
        | refine PickV.now rfl ?_
        | refine Pick.now rfl ?_
        | refine Chk.mk rfl ?_
        | refine PickW.w rfl ?_
          | (refine PickW.rec Rqt.cells_length k rfl hlt ?_)
          | (refine In.enter g.lim rfl code_message_Changed_1_1 ?_)
          | (refine CallI.of ht ?_)
          | (refine Ret.mk rfl))
    · rw [← r1 (twF_no fun j h => h0 j h (by omega))]
      clear r1 r2 h0 ih
      repeat' ((conv => whnf); first
      | refine Br.tt ?_
      | refine Br.ff ?_
      | refine Need.w ?_
      | refine Wr.w ?_
      | refine Cmp.t ?_
      | refine Cmp.f ?_
      | refine Rem.w ?_
      | refine Quo.w ?_
      | refine PickV.now rfl ?_
      | refine Pick.now rfl ?_
      | refine Chk.mk rfl ?_
      | refine PickW.w rfl ?_
        | (refine Ret.mk rfl))
  exact ⟨fun h => main _ (fun _ => rfl) (fun o ho => by rw [h] at ho; cases ho), fun o h => main _ (fun hn => by rw [h] at hn; cases hn) (fun o' ho => by rw [h] at ho; cases ho; rfl)⟩
set_option maxHeartbeats 4000000 in
theorem r_twin (l : List Rqt) (q : Rqt) (hl : l.length ≤ 1000000) (hu : (nmsQ l).Nodup) : ∃ i : Int, Fc E n_ref02_twin [LQ l, Rqv q] (I i) ∧ ((i < 0 ∧ twF l q = none) ∨ ∃ (k : Nat) (h : k < l.length), i = k ∧ twF l q = some l[k]) := by
  have ha := r_At g l q.nm hl
  rcases atG_spec q.nm l 0 with ⟨h1, h2⟩ | ⟨k, hk, h1, h2, h3⟩
  · refine ⟨-1, ?_, .inl ⟨by decide, twF_no fun j h => ?_⟩⟩
    · rw [h1] at ha
      refine g.fn code_ref02_twin rfl ?_
      repeat' ((conv => whnf); first
      | refine Br.tt ?_
      | refine Br.ff ?_
      | refine Need.w ?_
      | refine Wr.w ?_
      | refine Cmp.t ?_
      | refine Cmp.f ?_
      | refine Rem.w ?_
      | refine Quo.w ?_
      | refine PickV.now rfl ?_
      | refine Pick.now rfl ?_
      | refine Chk.mk rfl ?_
      | refine PickW.w rfl ?_
        | (refine CallI.of ha ?_)
        | (refine Ret.mk rfl))
    · unfold twinB
      rw [decide_eq_false (p := l[j].nm = q.nm) fun e => h2 (by
        unfold nmsQ
        rw [List.mem_map]
        exact ⟨_, List.getElem_mem h, e⟩), Bool.and_false]
  · rw [h1, Nat.zero_add] at ha
    clear h1
    by_cases hc : l[k].ca = q.ca
    · refine ⟨k, ?_, .inr ⟨k, hk, rfl, twF_at hk (fun j h hj => ?_) ?_⟩⟩
      · clear h3
        refine g.fn code_ref02_twin rfl ?_
        repeat' ((conv => whnf); first
        | refine Br.tt ?_
        | refine Br.ff ?_
        | refine Need.w ?_
        | refine Wr.w ?_
        | refine Cmp.t ?_
        | refine Cmp.f ?_
        | refine Rem.w ?_
        | refine Quo.w ?_
        | refine PickV.now rfl ?_
        | refine Pick.now rfl ?_
        | refine Chk.mk rfl ?_
        | refine PickW.w rfl ?_
          | (refine CallI.of ha ?_)
          | (refine Pick.rec Rqt.cells_length k rfl hk rfl ?_)
          | (refine Cmp.tt hc ?_)
          | (refine Ret.mk rfl))
      · unfold twinB
        rw [decide_eq_false (h3 j hj), Bool.and_false]
      · unfold twinB
        rw [decide_eq_true hc, decide_eq_true h2]
        rfl
    · refine ⟨-1, ?_, .inl ⟨by decide, twF_no fun j h => ?_⟩⟩
      · clear h3
        refine g.fn code_ref02_twin rfl ?_
        repeat' ((conv => whnf); first
        | refine Br.tt ?_
        | refine Br.ff ?_
        | refine Need.w ?_
        | refine Wr.w ?_
        | refine Cmp.t ?_
        | refine Cmp.f ?_
        | refine Rem.w ?_
        | refine Quo.w ?_
        | refine PickV.now rfl ?_
        | refine Pick.now rfl ?_
        | refine Chk.mk rfl ?_
        | refine PickW.w rfl ?_
          | (refine CallI.of ha ?_)
          | (refine Pick.rec Rqt.cells_length k rfl hk rfl ?_)
          | (refine Cmp.ff hc ?_)
          | (refine Ret.mk rfl))
      · unfold twinB
        by_cases e : l[j].nm = q.nm
        · obtain rfl := nm_at hu h hk (e.trans h2.symm)
          rw [decide_eq_false hc, Bool.false_and]
        · rw [decide_eq_false e, Bool.and_false]
end
end Go.Proofs.YtgpgcadcpogcbaaGreatDoor.Co
