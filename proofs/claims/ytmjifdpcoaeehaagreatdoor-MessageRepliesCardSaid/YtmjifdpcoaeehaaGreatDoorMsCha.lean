
/-
  Messages: a round of the reference's checkLines, for requests.
-/
import Derived.Test.YtmjifdpcoaeehaaGreatDoorMsChk
namespace Go.Proofs.YtmjifdpcoaeehaaGreatDoor.Co
open Go Go.Evl
theorem chkLs_step {kind : List UInt8} {ls : List Lnt} {k : Nat} (h : k < ls.length) : chkLs kind (prevO ls k) k (ls.drop k) = if lnE kind (prevO ls k) ls[k] = 0 then chkLs kind (prevO ls (k + 1)) (k + 1) (ls.drop (k + 1)) else (k, lnE kind (prevO ls k) ls[k]) := by
  rw [List.drop_eq_getElem_cons h, chkLs, prevO_succ h]
theorem chkLs_end {kind : List UInt8} {ls : List Lnt} : chkLs kind (prevO ls ls.length) ls.length (ls.drop ls.length) = if openO (prevO ls ls.length) then (ls.length - 1, 11) else (0, 0) := by
  rw [List.drop_length, chkLs]
theorem act_asks {s : List UInt8} (h : actB s = true) (kind : List UInt8) (hk : kind = REQ ∨ kind = ANS) : actK s = kind ↔ asksB s = decide (kind = REQ) := by
  unfold actK
  unfold actB at h
  cases ha : asksB s with
  | true =>
    rcases hk with rfl | rfl
    · simp
    · simp
  | false =>
    rw [ha, Bool.false_or] at h
    rw [h]
    rcases hk with rfl | rfl
    · simp
    · simp
theorem Pick.rec2 {α : Type} {cell : α → List D} {w : Nat} (hw : ∀ a, (cell a).length = w) {l : List α} {i : Int} {a b : Nat} {K : D → Prop} {d : D} (k : Nat) (hi : i = k) (h : k < l.length) (hj : (cell l[k])[a + b]? = some d) (hk : K d) : Pick (l.flatMap cell) (i.toNat * w + a + b) K := by
  rw [Nat.add_assoc]
  exact Pick.rec hw k hi h hj hk
theorem Pick.gate2 {cs : List D} {x a b : Nat} {K : D → Prop} (h : Pick cs (x + a + b) K) : Pick cs (x + a + b) K := h
open Go Go.Evl
section
variable {E : Oracle} (g : Good E)
include g
set_option maxRecDepth 100000
set_option maxHeartbeats 16000000 in
theorem rnd_refA (kind : List UInt8) (hkd : kind = REQ ∨ kind = ANS) (ls : List Lnt) (k : Nat) (hlt : k < ls.length) {K : Ex → Env → Mem → Prop} {R : V} (hl : ls.length ≤ 1000000) (hK : ∀ e m, K .ret e m = resultsW m e [.tmp 4, .tmp 5] fun v => thawW m v fun d => Ret d R)
    (hc : chkLn ls[k] = 0) (hk : kind = REQ)
    (hF : lnE kind (prevO ls k) ls[k] ≠ 0 → .tup [I k, I (lnE kind (prevO ls k) ls[k])] = R)
    (ih : lnE kind (prevO ls k) ls[k] = 0 → LoopW E ⟨0, 1⟩ [0, 1, 6] [] b_ref02_CheckLines_1 [(0, S kind), (1, LL ls), (6, I (k + 1 : Nat))] [] K) :
    wpC E ⟨0, 1⟩ b_ref02_CheckLines_1 [(0, S kind), (1, LL ls), (6, I k)] [] (againK E ⟨0, 1⟩ [0, 1, 6] [] b_ref02_CheckLines_1 K) := by
  have hcl := r_CheckLine g ls[k]
  have has := r_Asks g ls[k].ac
  have hlp : k - 1 < ls.length := by omega
  have hact := (chkLn_ok hc).1
  have hiff := act_asks hact kind hkd
  have fin : ∀ x, lnE kind (prevO ls k) ls[k] = x → x ≠ 0 → .tup [I k, I x] = R := fun x h hx => by
    rw [← h] at hx ⊢
    exact hF hx
  generalize asksB ls[k].ac = a at *
  rw [decide_eq_true hk] at hiff
  cases a
  · have hm : actK ls[k].ac ≠ kind := fun h => absurd (hiff.1 h) (by decide)
    have he : lnE kind (prevO ls k) ls[k] = 18 := by
      unfold lnE
      rw [if_neg hm, hc]
      simp [firstI]
    by_cases h0 : k = 0
    all_goals repeat' ((conv => whnf); first
    | refine Br.tt ?_
    | refine Br.ff ?_
    | refine Cmp.tt (by assumption) ?_
    | refine Cmp.ff (by assumption) ?_
    | refine Need.w ?_
    | refine Wr.w ?_
    | refine Cmp.t ?_
    | refine Cmp.f ?_
    | refine Rem.w ?_
    | refine Quo.w ?_
    | refine PickV.now rfl ?_
    | refine Pick.now rfl ?_
    | refine Chk.mk rfl ?_
    | refine PickW.w rfl ?_
      | ((with_reducible refine Pick.gate2 ?_); first | refine Pick.rec2 Lnt.cells_length k (by with_reducible rfl) hlt rfl ?_ | refine Pick.rec2 Lnt.cells_length (k - 1) (by omega) hlp rfl ?_)
      | (refine PickW.rec Lnt.cells_length k rfl hlt ?_)
      | (refine CallI.of hcl ?_)
      | (refine CallI.of has ?_)
      | (refine Pick.rec Lnt.cells_length k rfl hlt rfl ?_)
      | (refine Pick.rec Lnt.cells_length (k - 1) (by omega) hlp rfl ?_)
      | (refine Cmp.mk (fun _ => ?_) (fun _ => ?_))
      | (refine (hK _ _).mpr ?_)
      | (refine Ret.mk (fin _ he (by decide))))
  · have hm : actK ls[k].ac = kind := hiff.2 rfl
    by_cases h0 : k = 0
    · have hp : prevO ls k = none := if_pos h0
      by_cases hR : ls[k].ac = [82]
      · have he : lnE kind (prevO ls k) ls[k] = 11 := by
          unfold lnE
          rw [hp, if_pos hm, hc]
          simp [hR, openO, twinO, firstI]
        repeat' ((conv => whnf); first
        | refine Br.tt ?_
        | refine Br.ff ?_
        | refine Cmp.tt (by assumption) ?_
        | refine Cmp.ff (by assumption) ?_
        | refine Need.w ?_
        | refine Wr.w ?_
        | refine Cmp.t ?_
        | refine Cmp.f ?_
        | refine Rem.w ?_
        | refine Quo.w ?_
        | refine PickV.now rfl ?_
        | refine Pick.now rfl ?_
        | refine Chk.mk rfl ?_
        | refine PickW.w rfl ?_
          | ((with_reducible refine Pick.gate2 ?_); first | refine Pick.rec2 Lnt.cells_length k (by with_reducible rfl) hlt rfl ?_ | refine Pick.rec2 Lnt.cells_length (k - 1) (by omega) hlp rfl ?_)
          | (refine PickW.rec Lnt.cells_length k rfl hlt ?_)
          | (refine CallI.of hcl ?_)
          | (refine CallI.of has ?_)
          | (refine Pick.rec Lnt.cells_length k rfl hlt rfl ?_)
          | (refine Pick.rec Lnt.cells_length (k - 1) (by omega) hlp rfl ?_)
          | (refine (hK _ _).mpr ?_)
          | (refine Ret.mk (fin _ he (by decide))))
      · have he : lnE kind (prevO ls k) ls[k] = 0 := by
          unfold lnE
          rw [hp, if_pos hm, hc]
          simp [hR, openO, twinO, firstI]
        repeat' ((conv => whnf); first
        | refine Br.tt ?_
        | refine Br.ff ?_
        | refine Cmp.tt (by assumption) ?_
        | refine Cmp.ff (by assumption) ?_
        | refine Need.w ?_
        | refine Wr.w ?_
        | refine Cmp.t ?_
        | refine Cmp.f ?_
        | refine Rem.w ?_
        | refine Quo.w ?_
        | refine PickV.now rfl ?_
        | refine Pick.now rfl ?_
        | refine Chk.mk rfl ?_
        | refine PickW.w rfl ?_
          | ((with_reducible refine Pick.gate2 ?_); first | refine Pick.rec2 Lnt.cells_length k (by with_reducible rfl) hlt rfl ?_ | refine Pick.rec2 Lnt.cells_length (k - 1) (by omega) hlp rfl ?_)
          | (refine PickW.rec Lnt.cells_length k rfl hlt ?_)
          | (refine CallI.of hcl ?_)
          | (refine CallI.of has ?_)
          | (refine Pick.rec Lnt.cells_length k rfl hlt rfl ?_)
          | (refine Pick.rec Lnt.cells_length (k - 1) (by omega) hlp rfl ?_)
          | (refine (hK _ _).mpr ?_)
          | (refine LoopW.to (ih he) rfl rfl))
    · have hp : prevO ls k = some ls[k - 1] := by simp [prevO, h0, hlp]
      by_cases hC : ls[k - 1].ac = [67]
      · by_cases hR : ls[k].ac = [82]
        · by_cases hca : ls[k].rq.ca = ls[k - 1].rq.ca
          · by_cases hnm : ls[k].rq.nm = ls[k - 1].rq.nm
            · have he : lnE kind (prevO ls k) ls[k] = 0 := by
                unfold lnE
                rw [hp, if_pos hm, hc]
                simp [hR, hC, openO, twinO, firstI, twinB, hca, hnm]
              repeat' ((conv => whnf); first
              | refine Br.tt ?_
              | refine Br.ff ?_
              | refine Cmp.tt (by assumption) ?_
              | refine Cmp.ff (by assumption) ?_
              | refine Need.w ?_
              | refine Wr.w ?_
              | refine Cmp.t ?_
              | refine Cmp.f ?_
              | refine Rem.w ?_
              | refine Quo.w ?_
              | refine PickV.now rfl ?_
              | refine Pick.now rfl ?_
              | refine Chk.mk rfl ?_
              | refine PickW.w rfl ?_
                | ((with_reducible refine Pick.gate2 ?_); first | refine Pick.rec2 Lnt.cells_length k (by with_reducible rfl) hlt rfl ?_ | refine Pick.rec2 Lnt.cells_length (k - 1) (by omega) hlp rfl ?_)
                | (refine PickW.rec Lnt.cells_length k rfl hlt ?_)
                | (refine CallI.of hcl ?_)
                | (refine CallI.of has ?_)
                | (refine Pick.rec Lnt.cells_length k rfl hlt rfl ?_)
                | (refine Pick.rec Lnt.cells_length (k - 1) (by omega) hlp rfl ?_)
                | (refine (hK _ _).mpr ?_)
                | (refine LoopW.to (ih he) rfl rfl))
            · have hnm' : ¬ ls[k - 1].rq.nm = ls[k].rq.nm := fun e => hnm e.symm
              have he : lnE kind (prevO ls k) ls[k] = 11 := by
                unfold lnE
                rw [hp, if_pos hm, hc]
                simp [hR, hC, openO, twinO, firstI, twinB, hnm']
              repeat' ((conv => whnf); first
              | refine Br.tt ?_
              | refine Br.ff ?_
              | refine Cmp.tt (by assumption) ?_
              | refine Cmp.ff (by assumption) ?_
              | refine Need.w ?_
              | refine Wr.w ?_
              | refine Cmp.t ?_
              | refine Cmp.f ?_
              | refine Rem.w ?_
              | refine Quo.w ?_
              | refine PickV.now rfl ?_
              | refine Pick.now rfl ?_
              | refine Chk.mk rfl ?_
              | refine PickW.w rfl ?_
                | ((with_reducible refine Pick.gate2 ?_); first | refine Pick.rec2 Lnt.cells_length k (by with_reducible rfl) hlt rfl ?_ | refine Pick.rec2 Lnt.cells_length (k - 1) (by omega) hlp rfl ?_)
                | (refine PickW.rec Lnt.cells_length k rfl hlt ?_)
                | (refine CallI.of hcl ?_)
                | (refine CallI.of has ?_)
                | (refine Pick.rec Lnt.cells_length k rfl hlt rfl ?_)
                | (refine Pick.rec Lnt.cells_length (k - 1) (by omega) hlp rfl ?_)
                | (refine (hK _ _).mpr ?_)
                | (refine Ret.mk (fin _ he (by decide))))
          · have hca' : ¬ ls[k - 1].rq.ca = ls[k].rq.ca := fun e => hca e.symm
            have he : lnE kind (prevO ls k) ls[k] = 11 := by
              unfold lnE
              rw [hp, if_pos hm, hc]
              simp [hR, hC, openO, twinO, firstI, twinB, hca']
            repeat' ((conv => whnf); first
            | refine Br.tt ?_
            | refine Br.ff ?_
            | refine Cmp.tt (by assumption) ?_
            | refine Cmp.ff (by assumption) ?_
            | refine Need.w ?_
            | refine Wr.w ?_
            | refine Cmp.t ?_
            | refine Cmp.f ?_
            | refine Rem.w ?_
            | refine Quo.w ?_
            | refine PickV.now rfl ?_
            | refine Pick.now rfl ?_
            | refine Chk.mk rfl ?_
            | refine PickW.w rfl ?_
              | ((with_reducible refine Pick.gate2 ?_); first | refine Pick.rec2 Lnt.cells_length k (by with_reducible rfl) hlt rfl ?_ | refine Pick.rec2 Lnt.cells_length (k - 1) (by omega) hlp rfl ?_)
              | (refine PickW.rec Lnt.cells_length k rfl hlt ?_)
              | (refine CallI.of hcl ?_)
              | (refine CallI.of has ?_)
              | (refine Pick.rec Lnt.cells_length k rfl hlt rfl ?_)
              | (refine Pick.rec Lnt.cells_length (k - 1) (by omega) hlp rfl ?_)
              | (refine (hK _ _).mpr ?_)
              | (refine Ret.mk (fin _ he (by decide))))
        · have he : lnE kind (prevO ls k) ls[k] = 11 := by
            unfold lnE
            rw [hp, if_pos hm, hc]
            simp [hR, hC, openO, twinO, firstI]
          repeat' ((conv => whnf); first
          | refine Br.tt ?_
          | refine Br.ff ?_
          | refine Cmp.tt (by assumption) ?_
          | refine Cmp.ff (by assumption) ?_
          | refine Need.w ?_
          | refine Wr.w ?_
          | refine Cmp.t ?_
          | refine Cmp.f ?_
          | refine Rem.w ?_
          | refine Quo.w ?_
          | refine PickV.now rfl ?_
          | refine Pick.now rfl ?_
          | refine Chk.mk rfl ?_
          | refine PickW.w rfl ?_
            | ((with_reducible refine Pick.gate2 ?_); first | refine Pick.rec2 Lnt.cells_length k (by with_reducible rfl) hlt rfl ?_ | refine Pick.rec2 Lnt.cells_length (k - 1) (by omega) hlp rfl ?_)
            | (refine PickW.rec Lnt.cells_length k rfl hlt ?_)
            | (refine CallI.of hcl ?_)
            | (refine CallI.of has ?_)
            | (refine Pick.rec Lnt.cells_length k rfl hlt rfl ?_)
            | (refine Pick.rec Lnt.cells_length (k - 1) (by omega) hlp rfl ?_)
            | (refine (hK _ _).mpr ?_)
            | (refine Ret.mk (fin _ he (by decide))))
      · by_cases hR : ls[k].ac = [82]
        · have he : lnE kind (prevO ls k) ls[k] = 11 := by
            unfold lnE
            rw [hp, if_pos hm, hc]
            simp [hR, hC, openO, twinO, firstI]
          repeat' ((conv => whnf); first
          | refine Br.tt ?_
          | refine Br.ff ?_
          | refine Cmp.tt (by assumption) ?_
          | refine Cmp.ff (by assumption) ?_
          | refine Need.w ?_
          | refine Wr.w ?_
          | refine Cmp.t ?_
          | refine Cmp.f ?_
          | refine Rem.w ?_
          | refine Quo.w ?_
          | refine PickV.now rfl ?_
          | refine Pick.now rfl ?_
          | refine Chk.mk rfl ?_
          | refine PickW.w rfl ?_
            | ((with_reducible refine Pick.gate2 ?_); first | refine Pick.rec2 Lnt.cells_length k (by with_reducible rfl) hlt rfl ?_ | refine Pick.rec2 Lnt.cells_length (k - 1) (by omega) hlp rfl ?_)
            | (refine PickW.rec Lnt.cells_length k rfl hlt ?_)
            | (refine CallI.of hcl ?_)
            | (refine CallI.of has ?_)
            | (refine Pick.rec Lnt.cells_length k rfl hlt rfl ?_)
            | (refine Pick.rec Lnt.cells_length (k - 1) (by omega) hlp rfl ?_)
            | (refine (hK _ _).mpr ?_)
            | (refine Ret.mk (fin _ he (by decide))))
        · have he : lnE kind (prevO ls k) ls[k] = 0 := by
            unfold lnE
            rw [hp, if_pos hm, hc]
            simp [hR, hC, openO, twinO, firstI]
          repeat' ((conv => whnf); first
          | refine Br.tt ?_
          | refine Br.ff ?_
          | refine Cmp.tt (by assumption) ?_
          | refine Cmp.ff (by assumption) ?_
          | refine Need.w ?_
          | refine Wr.w ?_
          | refine Cmp.t ?_
          | refine Cmp.f ?_
          | refine Rem.w ?_
          | refine Quo.w ?_
          | refine PickV.now rfl ?_
          | refine Pick.now rfl ?_
          | refine Chk.mk rfl ?_
          | refine PickW.w rfl ?_
            | ((with_reducible refine Pick.gate2 ?_); first | refine Pick.rec2 Lnt.cells_length k (by with_reducible rfl) hlt rfl ?_ | refine Pick.rec2 Lnt.cells_length (k - 1) (by omega) hlp rfl ?_)
            | (refine PickW.rec Lnt.cells_length k rfl hlt ?_)
            | (refine CallI.of hcl ?_)
            | (refine CallI.of has ?_)
            | (refine Pick.rec Lnt.cells_length k rfl hlt rfl ?_)
            | (refine Pick.rec Lnt.cells_length (k - 1) (by omega) hlp rfl ?_)
            | (refine (hK _ _).mpr ?_)
            | (refine LoopW.to (ih he) rfl rfl))
end
open Go Go.Evl
section
variable {E : Oracle} (g : Good E)
include g
set_option maxRecDepth 100000
set_option maxHeartbeats 16000000 in
theorem rnd_refB (kind : List UInt8) (hkd : kind = REQ ∨ kind = ANS) (ls : List Lnt) (k : Nat) (hlt : k < ls.length) {K : Ex → Env → Mem → Prop} {R : V} (hl : ls.length ≤ 1000000) (hK : ∀ e m, K .ret e m = resultsW m e [.tmp 4, .tmp 5] fun v => thawW m v fun d => Ret d R)
    (hc : chkLn ls[k] = 0) (hk : ¬ kind = REQ)
    (hF : lnE kind (prevO ls k) ls[k] ≠ 0 → .tup [I k, I (lnE kind (prevO ls k) ls[k])] = R)
    (ih : lnE kind (prevO ls k) ls[k] = 0 → LoopW E ⟨0, 1⟩ [0, 1, 6] [] b_ref02_CheckLines_1 [(0, S kind), (1, LL ls), (6, I (k + 1 : Nat))] [] K) :
    wpC E ⟨0, 1⟩ b_ref02_CheckLines_1 [(0, S kind), (1, LL ls), (6, I k)] [] (againK E ⟨0, 1⟩ [0, 1, 6] [] b_ref02_CheckLines_1 K) := by
  have hcl := r_CheckLine g ls[k]
  have has := r_Asks g ls[k].ac
  have hlp : k - 1 < ls.length := by omega
  have hact := (chkLn_ok hc).1
  have hiff := act_asks hact kind hkd
  have fin : ∀ x, lnE kind (prevO ls k) ls[k] = x → x ≠ 0 → .tup [I k, I x] = R := fun x h hx => by
    rw [← h] at hx ⊢
    exact hF hx
  generalize asksB ls[k].ac = a at *
  rw [decide_eq_false hk] at hiff
  cases a
  · have hm : actK ls[k].ac = kind := hiff.2 rfl
    by_cases h0 : k = 0
    · have hp : prevO ls k = none := if_pos h0
      by_cases hR : ls[k].ac = [82]
      · have he : lnE kind (prevO ls k) ls[k] = 11 := by
          unfold lnE
          rw [hp, if_pos hm, hc]
          simp [hR, openO, twinO, firstI]
        repeat' ((conv => whnf); first
        | refine Br.tt ?_
        | refine Br.ff ?_
        | refine Cmp.tt (by assumption) ?_
        | refine Cmp.ff (by assumption) ?_
        | refine Need.w ?_
        | refine Wr.w ?_
        | refine Cmp.t ?_
        | refine Cmp.f ?_
        | refine Rem.w ?_
        | refine Quo.w ?_
        | refine PickV.now rfl ?_
        | refine Pick.now rfl ?_
        | refine Chk.mk rfl ?_
        | refine PickW.w rfl ?_
          | ((with_reducible refine Pick.gate2 ?_); first | refine Pick.rec2 Lnt.cells_length k (by with_reducible rfl) hlt rfl ?_ | refine Pick.rec2 Lnt.cells_length (k - 1) (by omega) hlp rfl ?_)
          | (refine PickW.rec Lnt.cells_length k rfl hlt ?_)
          | (refine CallI.of hcl ?_)
          | (refine CallI.of has ?_)
          | (refine Pick.rec Lnt.cells_length k rfl hlt rfl ?_)
          | (refine Pick.rec Lnt.cells_length (k - 1) (by omega) hlp rfl ?_)
          | (refine (hK _ _).mpr ?_)
          | (refine Ret.mk (fin _ he (by decide))))
      · have he : lnE kind (prevO ls k) ls[k] = 0 := by
          unfold lnE
          rw [hp, if_pos hm, hc]
          simp [hR, openO, twinO, firstI]
        repeat' ((conv => whnf); first
        | refine Br.tt ?_
        | refine Br.ff ?_
        | refine Cmp.tt (by assumption) ?_
        | refine Cmp.ff (by assumption) ?_
        | refine Need.w ?_
        | refine Wr.w ?_
        | refine Cmp.t ?_
        | refine Cmp.f ?_
        | refine Rem.w ?_
        | refine Quo.w ?_
        | refine PickV.now rfl ?_
        | refine Pick.now rfl ?_
        | refine Chk.mk rfl ?_
        | refine PickW.w rfl ?_
          | ((with_reducible refine Pick.gate2 ?_); first | refine Pick.rec2 Lnt.cells_length k (by with_reducible rfl) hlt rfl ?_ | refine Pick.rec2 Lnt.cells_length (k - 1) (by omega) hlp rfl ?_)
          | (refine PickW.rec Lnt.cells_length k rfl hlt ?_)
          | (refine CallI.of hcl ?_)
          | (refine CallI.of has ?_)
          | (refine Pick.rec Lnt.cells_length k rfl hlt rfl ?_)
          | (refine Pick.rec Lnt.cells_length (k - 1) (by omega) hlp rfl ?_)
          | (refine (hK _ _).mpr ?_)
          | (refine LoopW.to (ih he) rfl rfl))
    · have hp : prevO ls k = some ls[k - 1] := by simp [prevO, h0, hlp]
      by_cases hC : ls[k - 1].ac = [67]
      · by_cases hR : ls[k].ac = [82]
        · by_cases hca : ls[k].rq.ca = ls[k - 1].rq.ca
          · by_cases hnm : ls[k].rq.nm = ls[k - 1].rq.nm
            · have he : lnE kind (prevO ls k) ls[k] = 0 := by
                unfold lnE
                rw [hp, if_pos hm, hc]
                simp [hR, hC, openO, twinO, firstI, twinB, hca, hnm]
              repeat' ((conv => whnf); first
              | refine Br.tt ?_
              | refine Br.ff ?_
              | refine Cmp.tt (by assumption) ?_
              | refine Cmp.ff (by assumption) ?_
              | refine Need.w ?_
              | refine Wr.w ?_
              | refine Cmp.t ?_
              | refine Cmp.f ?_
              | refine Rem.w ?_
              | refine Quo.w ?_
              | refine PickV.now rfl ?_
              | refine Pick.now rfl ?_
              | refine Chk.mk rfl ?_
              | refine PickW.w rfl ?_
                | ((with_reducible refine Pick.gate2 ?_); first | refine Pick.rec2 Lnt.cells_length k (by with_reducible rfl) hlt rfl ?_ | refine Pick.rec2 Lnt.cells_length (k - 1) (by omega) hlp rfl ?_)
                | (refine PickW.rec Lnt.cells_length k rfl hlt ?_)
                | (refine CallI.of hcl ?_)
                | (refine CallI.of has ?_)
                | (refine Pick.rec Lnt.cells_length k rfl hlt rfl ?_)
                | (refine Pick.rec Lnt.cells_length (k - 1) (by omega) hlp rfl ?_)
                | (refine (hK _ _).mpr ?_)
                | (refine LoopW.to (ih he) rfl rfl))
            · have hnm' : ¬ ls[k - 1].rq.nm = ls[k].rq.nm := fun e => hnm e.symm
              have he : lnE kind (prevO ls k) ls[k] = 11 := by
                unfold lnE
                rw [hp, if_pos hm, hc]
                simp [hR, hC, openO, twinO, firstI, twinB, hnm']
              repeat' ((conv => whnf); first
              | refine Br.tt ?_
              | refine Br.ff ?_
              | refine Cmp.tt (by assumption) ?_
              | refine Cmp.ff (by assumption) ?_
              | refine Need.w ?_
              | refine Wr.w ?_
              | refine Cmp.t ?_
              | refine Cmp.f ?_
              | refine Rem.w ?_
              | refine Quo.w ?_
              | refine PickV.now rfl ?_
              | refine Pick.now rfl ?_
              | refine Chk.mk rfl ?_
              | refine PickW.w rfl ?_
                | ((with_reducible refine Pick.gate2 ?_); first | refine Pick.rec2 Lnt.cells_length k (by with_reducible rfl) hlt rfl ?_ | refine Pick.rec2 Lnt.cells_length (k - 1) (by omega) hlp rfl ?_)
                | (refine PickW.rec Lnt.cells_length k rfl hlt ?_)
                | (refine CallI.of hcl ?_)
                | (refine CallI.of has ?_)
                | (refine Pick.rec Lnt.cells_length k rfl hlt rfl ?_)
                | (refine Pick.rec Lnt.cells_length (k - 1) (by omega) hlp rfl ?_)
                | (refine (hK _ _).mpr ?_)
                | (refine Ret.mk (fin _ he (by decide))))
          · have hca' : ¬ ls[k - 1].rq.ca = ls[k].rq.ca := fun e => hca e.symm
            have he : lnE kind (prevO ls k) ls[k] = 11 := by
              unfold lnE
              rw [hp, if_pos hm, hc]
              simp [hR, hC, openO, twinO, firstI, twinB, hca']
            repeat' ((conv => whnf); first
            | refine Br.tt ?_
            | refine Br.ff ?_
            | refine Cmp.tt (by assumption) ?_
            | refine Cmp.ff (by assumption) ?_
            | refine Need.w ?_
            | refine Wr.w ?_
            | refine Cmp.t ?_
            | refine Cmp.f ?_
            | refine Rem.w ?_
            | refine Quo.w ?_
            | refine PickV.now rfl ?_
            | refine Pick.now rfl ?_
            | refine Chk.mk rfl ?_
            | refine PickW.w rfl ?_
              | ((with_reducible refine Pick.gate2 ?_); first | refine Pick.rec2 Lnt.cells_length k (by with_reducible rfl) hlt rfl ?_ | refine Pick.rec2 Lnt.cells_length (k - 1) (by omega) hlp rfl ?_)
              | (refine PickW.rec Lnt.cells_length k rfl hlt ?_)
              | (refine CallI.of hcl ?_)
              | (refine CallI.of has ?_)
              | (refine Pick.rec Lnt.cells_length k rfl hlt rfl ?_)
              | (refine Pick.rec Lnt.cells_length (k - 1) (by omega) hlp rfl ?_)
              | (refine (hK _ _).mpr ?_)
              | (refine Ret.mk (fin _ he (by decide))))
        · have he : lnE kind (prevO ls k) ls[k] = 11 := by
            unfold lnE
            rw [hp, if_pos hm, hc]
            simp [hR, hC, openO, twinO, firstI]
          repeat' ((conv => whnf); first
          | refine Br.tt ?_
          | refine Br.ff ?_
          | refine Cmp.tt (by assumption) ?_
          | refine Cmp.ff (by assumption) ?_
          | refine Need.w ?_
          | refine Wr.w ?_
          | refine Cmp.t ?_
          | refine Cmp.f ?_
          | refine Rem.w ?_
          | refine Quo.w ?_
          | refine PickV.now rfl ?_
          | refine Pick.now rfl ?_
          | refine Chk.mk rfl ?_
          | refine PickW.w rfl ?_
            | ((with_reducible refine Pick.gate2 ?_); first | refine Pick.rec2 Lnt.cells_length k (by with_reducible rfl) hlt rfl ?_ | refine Pick.rec2 Lnt.cells_length (k - 1) (by omega) hlp rfl ?_)
            | (refine PickW.rec Lnt.cells_length k rfl hlt ?_)
            | (refine CallI.of hcl ?_)
            | (refine CallI.of has ?_)
            | (refine Pick.rec Lnt.cells_length k rfl hlt rfl ?_)
            | (refine Pick.rec Lnt.cells_length (k - 1) (by omega) hlp rfl ?_)
            | (refine (hK _ _).mpr ?_)
            | (refine Ret.mk (fin _ he (by decide))))
      · by_cases hR : ls[k].ac = [82]
        · have he : lnE kind (prevO ls k) ls[k] = 11 := by
            unfold lnE
            rw [hp, if_pos hm, hc]
            simp [hR, hC, openO, twinO, firstI]
          repeat' ((conv => whnf); first
          | refine Br.tt ?_
          | refine Br.ff ?_
          | refine Cmp.tt (by assumption) ?_
          | refine Cmp.ff (by assumption) ?_
          | refine Need.w ?_
          | refine Wr.w ?_
          | refine Cmp.t ?_
          | refine Cmp.f ?_
          | refine Rem.w ?_
          | refine Quo.w ?_
          | refine PickV.now rfl ?_
          | refine Pick.now rfl ?_
          | refine Chk.mk rfl ?_
          | refine PickW.w rfl ?_
            | ((with_reducible refine Pick.gate2 ?_); first | refine Pick.rec2 Lnt.cells_length k (by with_reducible rfl) hlt rfl ?_ | refine Pick.rec2 Lnt.cells_length (k - 1) (by omega) hlp rfl ?_)
            | (refine PickW.rec Lnt.cells_length k rfl hlt ?_)
            | (refine CallI.of hcl ?_)
            | (refine CallI.of has ?_)
            | (refine Pick.rec Lnt.cells_length k rfl hlt rfl ?_)
            | (refine Pick.rec Lnt.cells_length (k - 1) (by omega) hlp rfl ?_)
            | (refine (hK _ _).mpr ?_)
            | (refine Ret.mk (fin _ he (by decide))))
        · have he : lnE kind (prevO ls k) ls[k] = 0 := by
            unfold lnE
            rw [hp, if_pos hm, hc]
            simp [hR, hC, openO, twinO, firstI]
          repeat' ((conv => whnf); first
          | refine Br.tt ?_
          | refine Br.ff ?_
          | refine Cmp.tt (by assumption) ?_
          | refine Cmp.ff (by assumption) ?_
          | refine Need.w ?_
          | refine Wr.w ?_
          | refine Cmp.t ?_
          | refine Cmp.f ?_
          | refine Rem.w ?_
          | refine Quo.w ?_
          | refine PickV.now rfl ?_
          | refine Pick.now rfl ?_
          | refine Chk.mk rfl ?_
          | refine PickW.w rfl ?_
            | ((with_reducible refine Pick.gate2 ?_); first | refine Pick.rec2 Lnt.cells_length k (by with_reducible rfl) hlt rfl ?_ | refine Pick.rec2 Lnt.cells_length (k - 1) (by omega) hlp rfl ?_)
            | (refine PickW.rec Lnt.cells_length k rfl hlt ?_)
            | (refine CallI.of hcl ?_)
            | (refine CallI.of has ?_)
            | (refine Pick.rec Lnt.cells_length k rfl hlt rfl ?_)
            | (refine Pick.rec Lnt.cells_length (k - 1) (by omega) hlp rfl ?_)
            | (refine (hK _ _).mpr ?_)
            | (refine LoopW.to (ih he) rfl rfl))
  · have hm : actK ls[k].ac ≠ kind := fun h => absurd (hiff.1 h) (by decide)
    have he : lnE kind (prevO ls k) ls[k] = 18 := by
      unfold lnE
      rw [if_neg hm, hc]
      simp [firstI]
    by_cases h0 : k = 0
    all_goals repeat' ((conv => whnf); first
    | refine Br.tt ?_
    | refine Br.ff ?_
    | refine Cmp.tt (by assumption) ?_
    | refine Cmp.ff (by assumption) ?_
    | refine Need.w ?_
    | refine Wr.w ?_
    | refine Cmp.t ?_
    | refine Cmp.f ?_
    | refine Rem.w ?_
    | refine Quo.w ?_
    | refine PickV.now rfl ?_
    | refine Pick.now rfl ?_
    | refine Chk.mk rfl ?_
    | refine PickW.w rfl ?_
      | ((with_reducible refine Pick.gate2 ?_); first | refine Pick.rec2 Lnt.cells_length k (by with_reducible rfl) hlt rfl ?_ | refine Pick.rec2 Lnt.cells_length (k - 1) (by omega) hlp rfl ?_)
      | (refine PickW.rec Lnt.cells_length k rfl hlt ?_)
      | (refine CallI.of hcl ?_)
      | (refine CallI.of has ?_)
      | (refine Pick.rec Lnt.cells_length k rfl hlt rfl ?_)
      | (refine Pick.rec Lnt.cells_length (k - 1) (by omega) hlp rfl ?_)
      | (refine Cmp.mk (fun _ => ?_) (fun _ => ?_))
      | (refine (hK _ _).mpr ?_)
      | (refine Ret.mk (fin _ he (by decide))))
end
end Go.Proofs.YtmjifdpcoaeehaaGreatDoor.Co
