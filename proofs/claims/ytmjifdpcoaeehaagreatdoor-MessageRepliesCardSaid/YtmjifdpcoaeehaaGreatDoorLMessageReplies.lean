
/-
  MessageReplies returns true, for all requests and results.
-/
import Derived.Test.YtmjifdpcoaeehaaGreatDoorMsAnd
import Derived.Test.YtmjifdpcoaeehaaGreatDoorMsFiy
import Derived.Test.YtmjifdpcoaeehaaGreatDoorMsPar
import Derived.Test.YtmjifdpcoaeehaaGreatDoorMsPrt
import Derived.Test.YtmjifdpcoaeehaaGreatDoorAwM
namespace Go.Proofs.YtmjifdpcoaeehaaGreatDoor.Co
open Go Go.Evl
set_option maxRecDepth 100000
abbrev repM (l : List Rqt) (rs : List Rst) : Mst := ⟨ANS, [104, 101, 114, 101], [83, 50, 48, 51, 49], 5, ansL l rs⟩
theorem grL_at {l : List Rqt} {rs : List Rst} {k : Nat} (hn : l.length = rs.length) (h1 : k < l.length) (h2 : k < rs.length) (hg : rs[k].gr = true) :
    ∃ h : (grL (l.take k) (rs.take k)).length < (grL l rs).length, (grL l rs)[(grL (l.take k) (rs.take k)).length] = movQ l[k] rs[k].mi := by
  have e : grL l rs = grL (l.take k) (rs.take k) ++ (movQ l[k] rs[k].mi :: grL (l.drop (k + 1)) (rs.drop (k + 1))) := by
    have e1 : grL (l.drop k) (rs.drop k) = movQ l[k] rs[k].mi :: grL (l.drop (k + 1)) (rs.drop (k + 1)) := by
      rw [List.drop_eq_getElem_cons h1, List.drop_eq_getElem_cons h2, grL, if_pos hg]
    rw [← e1, ← grL_app _ _ _ _ (by simp; omega), List.take_append_drop, List.take_append_drop]
  have hl : (grL (l.take k) (rs.take k)).length < (grL l rs).length := by
    rw [e, List.length_append, List.length_cons]
    omega
  refine ⟨hl, ?_⟩
  have h3 : (grL l rs)[(grL (l.take k) (rs.take k)).length]? = some (movQ l[k] rs[k].mi) := by
    rw [e, List.getElem?_append_right (Nat.le_refl _), Nat.sub_self]
    rfl
  rw [List.getElem?_eq_getElem hl] at h3
  exact Option.some.inj h3
section
variable {E : Oracle} (g : Good E)
include g
set_option maxHeartbeats 16000000 in
theorem w_MessageReplies (l : List Rqt) (rs : List Rst) : Fc E n_law02_MessageReplies [LQ l, LR rs] (B true) := by
  have aw := s_awake g
  by_cases hl : l.length ≤ 6
  · have k2 := r_CheckBoth g l rs (by omega)
    by_cases hz : chkBo l rs = 0
    · have hb := chkBo_zero hz
      have hn := hb.ln
      have hr : rs.length ≤ 1000000 := by omega
      have cl := w_copied g l (by omega)
      have cr := w_results g rs hr
      have hh : headE [104, 101, 114, 101] [83, 50, 48, 51, 49] 5 = 0 := by decide
      have ok : OkMs (repM l rs) := ans_msg hb hh
      have hm := chkMs_ok.2 ok
      have hA : (ansL l rs).length = l.length := ansL_len hn
      have p1 := s_Answers g [104, 101, 114, 101] [83, 50, 48, 51, 49] 5 l rs (by omega) hr
      rw [hz, hh, if_pos (by decide)] at p1
      have p2 := s_PrintMessage g (repM l rs) (by show (ansL l rs).length ≤ _; omega)
      rw [hm, if_pos rfl] at p2
      have hlen : (msgL (repM l rs)).length ≤ 16384 := by
        have := (msg_len ok).2
        simp only at this
        omega
      have p3 := s_ParseMessage g (msgL (repM l rs)) (by omega)
      rw [parse_back ok hlen] at p3
      have p4 := (s_Results g (repM l rs) (by show (ansL l rs).length ≤ _; omega)).2.2 (by unfold chkRs; rw [hm]; rfl) (ans_once hb)
      rw [show (repM l rs).ls.map resOf = rs from ans_res l rs hn hb.nm (chkRss_zero hb.hr).2] at p4
      have p5 := s_Granted g l rs (by omega) hr
      rw [if_pos hz] at p5
      have o1 := w_ownResults g rs hr
      have o2 := r_SameResults g rs hr
      rw [hz] at k2
      have hLn : ((repM l rs).ls.length : Int) = rs.length := by
        show ((ansL l rs).length : Int) = _
        omega
      clear hz hh hm hlen
      generalize msgL (repM l rs) = txt at *
      refine g.fn code_law02_MessageReplies rfl ?_
      repeat' ((conv => whnf); first
      | refine Br.tt ?_
      | refine Br.ff ?_
      | refine Need.w ?_
      | refine Wr.w ?_
      | refine Cmp.t ?_
      | refine Cmp.f ?_
      | refine Rem.w ?_
      | refine Quo.w ?_
      | refine PickV.now rfl ?_
      | refine Pick.now rfl ?_
      | refine Chk.mk rfl ?_
      | refine PickW.w rfl ?_
        | (apply CallI.of; first | exact k2 | exact cl | exact cr | exact p1 | exact p2 | exact p3 | exact p4 | exact p5 | exact o1 | exact o2)
        | (refine Cmp.tt rfl ?_)
        | (refine Cmp.tt hLn ?_))
      clear k2 cl cr p1 p2 p3 p4 p5 o1 o2
      refine LoopW.to (LoopW.up g (fun k => [(1, LR rs), (5, .ptr ⟨0, 5, 0⟩ 0 0), (14, LQ (grL l rs)), (16, I (grL (l.take k) (rs.take k)).length), (95, LQ l), (96, I l.length), (97, I k)]) (fun _ => _) l.length (fun k hk ih => ?_) 0 (Nat.zero_le _)) rfl rfl
      by_cases hlt : k < l.length
      · have hlt' : k < rs.length := by omega
        have ih := ih hlt
        rw [grL_succ hlt hlt'] at ih
        have hkA : k < (ansL l rs).length := by omega
        have hA : (ansL l rs)[k] = ansLn l[k] rs[k] := List.getElem_zipWith ..
        have hX := grL_len (l.take k) (rs.take k)
        rw [List.length_take] at hX
        by_cases hb : rs[k].gr = true
        · obtain ⟨hc, hG⟩ := grL_at hn hlt hlt' hb
          rw [if_pos hb, List.length_append] at ih
          generalize (grL (l.take k) (rs.take k)).length = c at *
          have hp : (grL l rs)[c].nm = l[k].nm ∧ (grL l rs)[c].ca = l[k].ca ∧ (grL l rs)[c].ki = l[k].ki ∧ (grL l rs)[c].te = l[k].te ∧ (grL l rs)[c].pa = l[k].pa ∧ (grL l rs)[c].li = l[k].li ∧ (grL l rs)[c].fr = l[k].fr ∧ (grL l rs)[c].to = l[k].to ∧ (grL l rs)[c].da = l[k].da ∧ (grL l rs)[c].mi = rs[k].mi ∧ (grL l rs)[c].se = l[k].se ∧ (grL l rs)[c].si = l[k].si ∧ (grL l rs)[c].no = l[k].no := by
            rw [hG]
            exact ⟨rfl, rfl, rfl, rfl, rfl, rfl, rfl, rfl, rfl, rfl, rfl, rfl, rfl⟩
          by_cases hm : rs[k].mi = l[k].mi
          · rw [show ansLn l[k] rs[k] = ⟨[75], l[k]⟩ by unfold ansLn; rw [if_pos hb, if_pos hm]] at hA
            repeat' ((conv => whnf); first
            | refine Br.tt ?_
            | refine Br.ff ?_
            | refine Need.w ?_
            | refine Wr.w ?_
            | refine Cmp.t ?_
            | refine Cmp.f ?_
            | refine Rem.w ?_
            | refine Quo.w ?_
            | refine PickV.now rfl ?_
            | refine Pick.now rfl ?_
            | refine Chk.mk rfl ?_
            | refine PickW.w rfl ?_
            | (refine Pick.rec Lnt.cells_length k rfl hkA (d := .str [75]) (by rw [hA]; rfl) ?_)
            | (refine Pick.rec Rst.cells_length k rfl hlt' rfl ?_)
            | (refine PickW.rec Rqt.cells_length k rfl hlt ?_)
            | (rw [hb])
            | (refine PickW.rec Rqt.cells_length c rfl hc ?_)
            | (refine Cmp.tt hm ?_)
            | (refine Cmp.tt hp ?_)
            | (refine LoopW.to ih rfl rfl))
          · rw [show ansLn l[k] rs[k] = ⟨[79], movQ l[k] rs[k].mi⟩ by unfold ansLn; rw [if_pos hb, if_neg hm]] at hA
            repeat' ((conv => whnf); first
            | refine Br.tt ?_
            | refine Br.ff ?_
            | refine Need.w ?_
            | refine Wr.w ?_
            | refine Cmp.t ?_
            | refine Cmp.f ?_
            | refine Rem.w ?_
            | refine Quo.w ?_
            | refine PickV.now rfl ?_
            | refine Pick.now rfl ?_
            | refine Chk.mk rfl ?_
            | refine PickW.w rfl ?_
            | (refine Pick.rec Lnt.cells_length k rfl hkA (d := .str [79]) (by rw [hA]; rfl) ?_)
            | (refine Pick.rec Rst.cells_length k rfl hlt' rfl ?_)
            | (refine PickW.rec Rqt.cells_length k rfl hlt ?_)
            | (rw [hb])
            | (refine PickW.rec Rqt.cells_length c rfl hc ?_)
            | (refine Cmp.ff hm ?_)
            | (refine Cmp.tt hp ?_)
            | (refine LoopW.to ih rfl rfl))
        · rw [if_neg hb, List.append_nil] at ih
          generalize (grL (l.take k) (rs.take k)).length = c at *
          rw [show ansLn l[k] rs[k] = ⟨[85], l[k]⟩ by unfold ansLn; rw [if_neg hb]] at hA
          rw [Bool.not_eq_true] at hb
          repeat' ((conv => whnf); first
          | refine Br.tt ?_
          | refine Br.ff ?_
          | refine Need.w ?_
          | refine Wr.w ?_
          | refine Cmp.t ?_
          | refine Cmp.f ?_
          | refine Rem.w ?_
          | refine Quo.w ?_
          | refine PickV.now rfl ?_
          | refine Pick.now rfl ?_
          | refine Chk.mk rfl ?_
          | refine PickW.w rfl ?_
            | (refine Pick.rec Lnt.cells_length k rfl hkA (d := .str [85]) (by rw [hA]; rfl) ?_)
            | (refine Pick.rec Rst.cells_length k rfl hlt' rfl ?_)
            | (refine PickW.rec Rqt.cells_length k rfl hlt ?_)
            | (rw [hb])
            | (refine LoopW.to ih rfl rfl))
      · obtain rfl : k = l.length := by omega
        clear ih
        rw [List.take_length, hn, List.take_length]
        repeat' ((conv => whnf); first
        | refine Br.tt ?_
        | refine Br.ff ?_
        | refine Need.w ?_
        | refine Wr.w ?_
        | refine Cmp.t ?_
        | refine Cmp.f ?_
        | refine Rem.w ?_
        | refine Quo.w ?_
        | refine PickV.now rfl ?_
        | refine Pick.now rfl ?_
        | refine Chk.mk rfl ?_
        | refine PickW.w rfl ?_
          | (apply CallI.of; assumption)
          | (refine Ret.mk rfl))
    · refine g.fn code_law02_MessageReplies rfl ?_
      repeat' ((conv => whnf); first
      | refine Br.tt ?_
      | refine Br.ff ?_
      | refine Need.w ?_
      | refine Wr.w ?_
      | refine Cmp.t ?_
      | refine Cmp.f ?_
      | refine Rem.w ?_
      | refine Quo.w ?_
      | refine PickV.now rfl ?_
      | refine Pick.now rfl ?_
      | refine Chk.mk rfl ?_
      | refine PickW.w rfl ?_
        | (apply CallI.of; assumption)
        | (refine Cmp.ff hz ?_)
        | (refine Ret.mk rfl))
  · refine g.fn code_law02_MessageReplies rfl ?_
    repeat' ((conv => whnf); first
    | refine Br.tt ?_
    | refine Br.ff ?_
    | refine Need.w ?_
    | refine Wr.w ?_
    | refine Cmp.t ?_
    | refine Cmp.f ?_
    | refine Rem.w ?_
    | refine Quo.w ?_
    | refine PickV.now rfl ?_
    | refine Pick.now rfl ?_
    | refine Chk.mk rfl ?_
    | refine PickW.w rfl ?_
      | (apply CallI.of; assumption)
      | (refine Ret.mk rfl))
end
theorem s_MessageReplies {E : Oracle} (g : Good E) {xs : List D} (h : fitArgs Tryz.prog [38, 59] xs) : Fc E n_law02_MessageReplies (asV xs) (B true) := by
  obtain ⟨y, z, rfl, h2, h3⟩ := args2 h
  obtain ⟨l, rfl⟩ := arg_Requests h2
  obtain ⟨rs, rfl⟩ := arg_Results h3
  exact w_MessageReplies g l rs
end Go.Proofs.YtmjifdpcoaeehaaGreatDoor.Co
