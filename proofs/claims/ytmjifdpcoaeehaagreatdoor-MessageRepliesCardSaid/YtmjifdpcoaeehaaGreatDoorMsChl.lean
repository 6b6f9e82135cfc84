
/-
  Messages: checkLines and CheckMessage, by the program and by the reference.
-/
import Derived.Test.YtmjifdpcoaeehaaGreatDoorMsCha
namespace Go.Proofs.YtmjifdpcoaeehaaGreatDoor.Co
open Go Go.Evl
section
variable {E : Oracle} (g : Good E)
include g
set_option maxRecDepth 100000
set_option maxHeartbeats 4000000 in
theorem s_checkLines (kind : List UInt8) (ls : List Lnt) (hl : ls.length ≤ 1000000) : Fc E n_message_checkLines [S kind, LL ls] (.tup [I ((chkLs kind none 0 ls).1 : Nat), I (chkLs kind none 0 ls).2]) := by
  refine g.fn code_message_checkLines rfl ?_
  repeat' ((conv => whnf); first
  | refine Br.tt ?_
  | refine Br.ff ?_
  | refine Need.w ?_
  | refine Wr.w ?_
  | refine Cmp.t ?_
  | refine Cmp.f ?_
  | refine Rem.w ?_
  | refine Quo.w ?_
  | refine PickV.now rfl ?_
  | refine Pick.now rfl ?_
  | refine Chk.mk rfl ?_
  | refine PickW.w rfl ?_)
  refine LoopW.to (LoopW.upP g (fun k => [(0, S kind), (1, LL ls), (12, LL ls), (13, I ls.length), (14, I k)]) (fun _ => []) (fun k => chkLs kind (prevO ls k) k (ls.drop k) = chkLs kind none 0 ls) ls.length (fun k hk hp ih => ?_) 0 (Nat.zero_le _) rfl) rfl rfl
  by_cases hlt : k < ls.length
  · have hs := chkLs_step (kind := kind) hlt
    refine rnd_checkLines g kind ls k hlt hl (fun _ _ => rfl) (fun hz => ?_) (fun hz => ?_)
    · rw [if_neg hz, hp] at hs
      rw [hs]
    · rw [if_pos hz, hp] at hs
      exact ih hlt hs.symm
  · obtain rfl : k = ls.length := by omega
    rw [← hp, chkLs_end]
    by_cases h0 : ls.length = 0
    · have hz : prevO ls ls.length = none := if_pos h0
      rw [hz]
      repeat' ((conv => whnf); first
      | refine Br.tt ?_
      | refine Br.ff ?_
      | refine Need.w ?_
      | refine Wr.w ?_
      | refine Cmp.t ?_
      | refine Cmp.f ?_
      | refine Rem.w ?_
      | refine Quo.w ?_
      | refine PickV.now rfl ?_
      | refine Pick.now rfl ?_
      | refine Chk.mk rfl ?_
      | refine PickW.w rfl ?_
        | (refine Ret.mk rfl))
    · have hlp : ls.length - 1 < ls.length := by omega
      have hz : prevO ls ls.length = some ls[ls.length - 1] := by simp [prevO, h0, hlp]
      rw [hz]
      by_cases hC : ls[ls.length - 1].ac = [67]
      · have ho : openO (some ls[ls.length - 1]) = true := decide_eq_true hC
        rw [ho]
        repeat' ((conv => whnf); first
        | refine Br.tt ?_
        | refine Br.ff ?_
        | refine Need.w ?_
        | refine Wr.w ?_
        | refine Cmp.t ?_
        | refine Cmp.f ?_
        | refine Rem.w ?_
        | refine Quo.w ?_
        | refine PickV.now rfl ?_
        | refine Pick.now rfl ?_
        | refine Chk.mk rfl ?_
        | refine PickW.w rfl ?_
          | (refine Pick.rec Lnt.cells_length (ls.length - 1) (by omega) hlp rfl ?_)
          | (refine Cmp.tt hC ?_)
          | (refine Ret.mk ?_))
        rw [if_pos rfl, show ((ls.length : Int) - 1) = ((ls.length - 1 : Nat) : Int) by omega]
      · have ho : openO (some ls[ls.length - 1]) = false := decide_eq_false hC
        rw [ho]
        repeat' ((conv => whnf); first
        | refine Br.tt ?_
        | refine Br.ff ?_
        | refine Need.w ?_
        | refine Wr.w ?_
        | refine Cmp.t ?_
        | refine Cmp.f ?_
        | refine Rem.w ?_
        | refine Quo.w ?_
        | refine PickV.now rfl ?_
        | refine Pick.now rfl ?_
        | refine Chk.mk rfl ?_
        | refine PickW.w rfl ?_
          | (refine Pick.rec Lnt.cells_length (ls.length - 1) (by omega) hlp rfl ?_)
          | (refine Cmp.ff hC ?_)
          | (refine Ret.mk rfl))
set_option maxHeartbeats 16000000 in
theorem rnd_refCheckLines (kind : List UInt8) (hkd : kind = REQ ∨ kind = ANS) (ls : List Lnt) (k : Nat) (hlt : k < ls.length) {K : Ex → Env → Mem → Prop} {R : V} (hl : ls.length ≤ 1000000) (hK : ∀ e m, K .ret e m = resultsW m e [.tmp 4, .tmp 5] fun v => thawW m v fun d => Ret d R)
    (hF : lnE kind (prevO ls k) ls[k] ≠ 0 → .tup [I k, I (lnE kind (prevO ls k) ls[k])] = R)
    (ih : lnE kind (prevO ls k) ls[k] = 0 → LoopW E ⟨0, 1⟩ [0, 1, 6] [] b_ref02_CheckLines_1 [(0, S kind), (1, LL ls), (6, I (k + 1 : Nat))] [] K) :
    wpC E ⟨0, 1⟩ b_ref02_CheckLines_1 [(0, S kind), (1, LL ls), (6, I k)] [] (againK E ⟨0, 1⟩ [0, 1, 6] [] b_ref02_CheckLines_1 K) := by
  have hcl := r_CheckLine g ls[k]
  have has := r_Asks g ls[k].ac
  have hlp : k - 1 < ls.length := by omega
  by_cases hc : chkLn ls[k] = 0
  · by_cases hk : kind = REQ
    · exact rnd_refA g kind hkd ls k hlt hl hK hc hk hF ih
    · exact rnd_refB g kind hkd ls k hlt hl hK hc hk hF ih
  · have he : lnE kind (prevO ls k) ls[k] = chkLn ls[k] := by
      unfold lnE
      simp [firstI, hc]
    have fin : .tup [I k, I (chkLn ls[k])] = R := by
      rw [he] at hF
      exact hF hc
    by_cases h0 : k = 0
    all_goals repeat' ((conv => whnf); first
    | refine Br.tt ?_
    | refine Br.ff ?_
    | refine Cmp.tt (by assumption) ?_
    | refine Cmp.ff (by assumption) ?_
    | refine Need.w ?_
    | refine Wr.w ?_
    | refine Cmp.t ?_
    | refine Cmp.f ?_
    | refine Rem.w ?_
    | refine Quo.w ?_
    | refine PickV.now rfl ?_
    | refine Pick.now rfl ?_
    | refine Chk.mk rfl ?_
    | refine PickW.w rfl ?_
      | ((with_reducible refine Pick.gate2 ?_); first | refine Pick.rec2 Lnt.cells_length k (by with_reducible rfl) hlt rfl ?_ | refine Pick.rec2 Lnt.cells_length (k - 1) (by omega) hlp rfl ?_)
      | (refine PickW.rec Lnt.cells_length k rfl hlt ?_)
      | (refine CallI.of hcl ?_)
      | (refine CallI.of has ?_)
      | (refine Pick.rec Lnt.cells_length k rfl hlt rfl ?_)
      | (refine Pick.rec Lnt.cells_length (k - 1) (by omega) hlp rfl ?_)
      | (refine Cmp.mk (fun _ => ?_) (fun _ => ?_))
      | (refine (hK _ _).mpr ?_)
      | (refine Ret.mk fin))
set_option maxHeartbeats 4000000 in
theorem r_CheckLines (kind : List UInt8) (hkd : kind = REQ ∨ kind = ANS) (ls : List Lnt) (hl : ls.length ≤ 1000000) : Fc E n_ref02_CheckLines [S kind, LL ls] (.tup [I ((chkLs kind none 0 ls).1 : Nat), I (chkLs kind none 0 ls).2]) := by
  refine g.fn code_ref02_CheckLines rfl ?_
  repeat' ((conv => whnf); first
  | refine Br.tt ?_
  | refine Br.ff ?_
  | refine Need.w ?_
  | refine Wr.w ?_
  | refine Cmp.t ?_
  | refine Cmp.f ?_
  | refine Rem.w ?_
  | refine Quo.w ?_
  | refine PickV.now rfl ?_
  | refine Pick.now rfl ?_
  | refine Chk.mk rfl ?_
  | refine PickW.w rfl ?_)
  refine LoopW.to (LoopW.upP g (fun k => [(0, S kind), (1, LL ls), (6, I k)]) (fun _ => []) (fun k => chkLs kind (prevO ls k) k (ls.drop k) = chkLs kind none 0 ls) ls.length (fun k hk hp ih => ?_) 0 (Nat.zero_le _) rfl) rfl rfl
  by_cases hlt : k < ls.length
  · have hs := chkLs_step (kind := kind) hlt
    refine rnd_refCheckLines g kind hkd ls k hlt hl (fun _ _ => rfl) (fun hz => ?_) (fun hz => ?_)
    · rw [if_neg hz, hp] at hs
      rw [hs]
    · rw [if_pos hz, hp] at hs
      exact ih hlt hs.symm
  · obtain rfl : k = ls.length := by omega
    rw [← hp, chkLs_end]
    by_cases h0 : ls.length = 0
    · have hz : prevO ls ls.length = none := if_pos h0
      rw [hz]
      repeat' ((conv => whnf); first
      | refine Br.tt ?_
      | refine Br.ff ?_
      | refine Need.w ?_
      | refine Wr.w ?_
      | refine Cmp.t ?_
      | refine Cmp.f ?_
      | refine Rem.w ?_
      | refine Quo.w ?_
      | refine PickV.now rfl ?_
      | refine Pick.now rfl ?_
      | refine Chk.mk rfl ?_
      | refine PickW.w rfl ?_
        | (refine Ret.mk rfl))
    · have hlp : ls.length - 1 < ls.length := by omega
      have hz : prevO ls ls.length = some ls[ls.length - 1] := by simp [prevO, h0, hlp]
      rw [hz]
      by_cases hC : ls[ls.length - 1].ac = [67]
      · have ho : openO (some ls[ls.length - 1]) = true := decide_eq_true hC
        rw [ho]
        repeat' ((conv => whnf); first
        | refine Br.tt ?_
        | refine Br.ff ?_
        | refine Need.w ?_
        | refine Wr.w ?_
        | refine Cmp.t ?_
        | refine Cmp.f ?_
        | refine Rem.w ?_
        | refine Quo.w ?_
        | refine PickV.now rfl ?_
        | refine Pick.now rfl ?_
        | refine Chk.mk rfl ?_
        | refine PickW.w rfl ?_
          | (refine Pick.rec Lnt.cells_length (ls.length - 1) (by omega) hlp rfl ?_)
          | (refine Cmp.tt hC ?_)
          | (refine Ret.mk ?_))
        rw [if_pos rfl, show ((ls.length : Int) - 1) = ((ls.length - 1 : Nat) : Int) by omega]
      · have ho : openO (some ls[ls.length - 1]) = false := decide_eq_false hC
        rw [ho]
        repeat' ((conv => whnf); first
        | refine Br.tt ?_
        | refine Br.ff ?_
        | refine Need.w ?_
        | refine Wr.w ?_
        | refine Cmp.t ?_
        | refine Cmp.f ?_
        | refine Rem.w ?_
        | refine Quo.w ?_
        | refine PickV.now rfl ?_
        | refine Pick.now rfl ?_
        | refine Chk.mk rfl ?_
        | refine PickW.w rfl ?_
          | (refine Pick.rec Lnt.cells_length (ls.length - 1) (by omega) hlp rfl ?_)
          | (refine Cmp.ff hC ?_)
          | (refine Ret.mk rfl))
omit g in
theorem chkMs_eq (m : Mst) : chkMs m = if firstI [if (!msgB m.ki) = true then 13 else 0, headE m.ai m.se m.da, if 64 < m.ls.length then 5 else 0] = 0 then (chkLs m.ki none 0 m.ls).2 else firstI [if (!msgB m.ki) = true then 13 else 0, headE m.ai m.se m.da, if 64 < m.ls.length then 5 else 0] := by
  unfold chkMs
  generalize (if (!msgB m.ki) = true then (13 : Int) else 0) = a
  generalize headE m.ai m.se m.da = b
  generalize (if 64 < m.ls.length then (5 : Int) else 0) = c
  generalize (chkLs m.ki none 0 m.ls).2 = d
  by_cases ha : a = 0 <;> by_cases hb : b = 0 <;> by_cases hc : c = 0 <;> by_cases hd : d = 0 <;> simp [firstI, ha, hb, hc, hd]
set_option maxHeartbeats 4000000 in
theorem s_CheckMessage (m : Mst) (hl : m.ls.length ≤ 1000000) : Fc E n_message_CheckMessage [Msv m] (I (chkMs m)) := by
  refine g.fn code_message_CheckMessage rfl ?_
  have h1 := s_isMessage g m.ki
  have h2 := s_checkHead g m.ai m.se m.da
  have h3 := s_checkLines g m.ki m.ls hl
  rw [chkMs_eq]
  generalize headE m.ai m.se m.da = b at *
  generalize msgB m.ki = a at *
  by_cases hn : 64 < m.ls.length
  · rw [if_pos hn]
    by_cases hz : firstI [if (!a) = true then 13 else 0, b, 5] = 0
    · rw [if_pos hz]
      repeat' ((conv => whnf); first
      | refine Br.tt ?_
      | refine Br.ff ?_
      | refine Need.w ?_
      | refine Wr.w ?_
      | refine Cmp.t ?_
      | refine Cmp.f ?_
      | refine Rem.w ?_
      | refine Quo.w ?_
      | refine PickV.now rfl ?_
      | refine Pick.now rfl ?_
      | refine Chk.mk rfl ?_
      | refine PickW.w rfl ?_
        | (apply CallI.of; assumption)
        | (refine CallI.of (s_mwhen g _ _) ?_)
        | (refine CallI.of (s_mfirst3 g _ _ _) ?_)
        | (refine Cmp.tt hz ?_)
        | (refine Ret.mk rfl))
    · rw [if_neg hz]
      repeat' ((conv => whnf); first
      | refine Br.tt ?_
      | refine Br.ff ?_
      | refine Need.w ?_
      | refine Wr.w ?_
      | refine Cmp.t ?_
      | refine Cmp.f ?_
      | refine Rem.w ?_
      | refine Quo.w ?_
      | refine PickV.now rfl ?_
      | refine Pick.now rfl ?_
      | refine Chk.mk rfl ?_
      | refine PickW.w rfl ?_
        | (apply CallI.of; assumption)
        | (refine CallI.of (s_mwhen g _ _) ?_)
        | (refine CallI.of (s_mfirst3 g _ _ _) ?_)
        | (refine Cmp.ff hz ?_)
        | (refine Ret.mk rfl))
  · rw [if_neg hn]
    by_cases hz : firstI [if (!a) = true then 13 else 0, b, 0] = 0
    · rw [if_pos hz]
      repeat' ((conv => whnf); first
      | refine Br.tt ?_
      | refine Br.ff ?_
      | refine Need.w ?_
      | refine Wr.w ?_
      | refine Cmp.t ?_
      | refine Cmp.f ?_
      | refine Rem.w ?_
      | refine Quo.w ?_
      | refine PickV.now rfl ?_
      | refine Pick.now rfl ?_
      | refine Chk.mk rfl ?_
      | refine PickW.w rfl ?_
        | (apply CallI.of; assumption)
        | (refine CallI.of (s_mwhen g _ _) ?_)
        | (refine CallI.of (s_mfirst3 g _ _ _) ?_)
        | (refine Cmp.tt hz ?_)
        | (refine Ret.mk rfl))
    · rw [if_neg hz]
      repeat' ((conv => whnf); first
      | refine Br.tt ?_
      | refine Br.ff ?_
      | refine Need.w ?_
      | refine Wr.w ?_
      | refine Cmp.t ?_
      | refine Cmp.f ?_
      | refine Rem.w ?_
      | refine Quo.w ?_
      | refine PickV.now rfl ?_
      | refine Pick.now rfl ?_
      | refine Chk.mk rfl ?_
      | refine PickW.w rfl ?_
        | (apply CallI.of; assumption)
        | (refine CallI.of (s_mwhen g _ _) ?_)
        | (refine CallI.of (s_mfirst3 g _ _ _) ?_)
        | (refine Cmp.ff hz ?_)
        | (refine Ret.mk rfl))
set_option maxHeartbeats 4000000 in
theorem r_CheckMessage (m : Mst) (hl : m.ls.length ≤ 1000000) : Fc E n_ref02_CheckMessage [Msv m] (I (chkMs m)) := by
  refine g.fn code_ref02_CheckMessage rfl ?_
  have h2 := r_CheckHead g m.ai m.se m.da
  rw [chkMs_eq]
  by_cases hk : m.ki = REQ ∨ m.ki = ANS
  · have h3 := r_CheckLines g m.ki hk m.ls hl
    have hm : msgB m.ki = true := by
      unfold msgB
      rcases hk with hk | hk <;> simp [hk]
    rw [hm]
    generalize headE m.ai m.se m.da = b at *
    generalize chkLs m.ki none 0 m.ls = c at *
    by_cases hb : b = 0
    · subst hb
      by_cases hn : 64 < m.ls.length
      · rw [if_pos hn]
        rcases hk with hk | hk
        · repeat' ((conv => whnf); first
        | refine Br.tt ?_
        | refine Br.ff ?_
        | refine Need.w ?_
        | refine Wr.w ?_
        | refine Cmp.t ?_
        | refine Cmp.f ?_
        | refine Rem.w ?_
        | refine Quo.w ?_
        | refine PickV.now rfl ?_
        | refine Pick.now rfl ?_
        | refine Chk.mk rfl ?_
        | refine PickW.w rfl ?_
            | (apply CallI.of; assumption)
            | (refine Cmp.tt hk ?_)
            | (refine Cmp.ff (by rw [hk]; decide) ?_)
            | (refine Ret.mk rfl))
        · repeat' ((conv => whnf); first
        | refine Br.tt ?_
        | refine Br.ff ?_
        | refine Need.w ?_
        | refine Wr.w ?_
        | refine Cmp.t ?_
        | refine Cmp.f ?_
        | refine Rem.w ?_
        | refine Quo.w ?_
        | refine PickV.now rfl ?_
        | refine Pick.now rfl ?_
        | refine Chk.mk rfl ?_
        | refine PickW.w rfl ?_
            | (apply CallI.of; assumption)
            | (refine Cmp.tt hk ?_)
            | (refine Cmp.ff (by rw [hk]; decide) ?_)
            | (refine Ret.mk rfl))
      · rw [if_neg hn]
        rcases hk with hk | hk
        · repeat' ((conv => whnf); first
        | refine Br.tt ?_
        | refine Br.ff ?_
        | refine Need.w ?_
        | refine Wr.w ?_
        | refine Cmp.t ?_
        | refine Cmp.f ?_
        | refine Rem.w ?_
        | refine Quo.w ?_
        | refine PickV.now rfl ?_
        | refine Pick.now rfl ?_
        | refine Chk.mk rfl ?_
        | refine PickW.w rfl ?_
            | (apply CallI.of; assumption)
            | (refine Cmp.tt hk ?_)
            | (refine Cmp.ff (by rw [hk]; decide) ?_)
            | (refine Ret.mk rfl))
        · repeat' ((conv => whnf); first
        | refine Br.tt ?_
        | refine Br.ff ?_
        | refine Need.w ?_
        | refine Wr.w ?_
        | refine Cmp.t ?_
        | refine Cmp.f ?_
        | refine Rem.w ?_
        | refine Quo.w ?_
        | refine PickV.now rfl ?_
        | refine Pick.now rfl ?_
        | refine Chk.mk rfl ?_
        | refine PickW.w rfl ?_
            | (apply CallI.of; assumption)
            | (refine Cmp.tt hk ?_)
            | (refine Cmp.ff (by rw [hk]; decide) ?_)
            | (refine Ret.mk rfl))
    · have e : ∀ x, firstI [if (!true) = true then 13 else 0, b, x] = b := fun x => by simp [firstI, hb]
      rw [e, if_neg hb]
      rcases hk with hk | hk
      · repeat' ((conv => whnf); first
      | refine Br.tt ?_
      | refine Br.ff ?_
      | refine Need.w ?_
      | refine Wr.w ?_
      | refine Cmp.t ?_
      | refine Cmp.f ?_
      | refine Rem.w ?_
      | refine Quo.w ?_
      | refine PickV.now rfl ?_
      | refine Pick.now rfl ?_
      | refine Chk.mk rfl ?_
      | refine PickW.w rfl ?_
          | (apply CallI.of; assumption)
          | (refine Cmp.tt hk ?_)
          | (refine Cmp.ff (by assumption) ?_)
          | (refine Cmp.ff (by rw [hk]; decide) ?_)
          | (refine Ret.mk rfl))
      · repeat' ((conv => whnf); first
      | refine Br.tt ?_
      | refine Br.ff ?_
      | refine Need.w ?_
      | refine Wr.w ?_
      | refine Cmp.t ?_
      | refine Cmp.f ?_
      | refine Rem.w ?_
      | refine Quo.w ?_
      | refine PickV.now rfl ?_
      | refine Pick.now rfl ?_
      | refine Chk.mk rfl ?_
      | refine PickW.w rfl ?_
          | (apply CallI.of; assumption)
          | (refine Cmp.tt hk ?_)
          | (refine Cmp.ff (by assumption) ?_)
          | (refine Cmp.ff (by rw [hk]; decide) ?_)
          | (refine Ret.mk rfl))
  · rw [not_or] at hk
    have hm : msgB m.ki = false := by
      unfold msgB
      simp [hk.1, hk.2]
    rw [hm]
    repeat' ((conv => whnf); first
    | refine Br.tt ?_
    | refine Br.ff ?_
    | refine Need.w ?_
    | refine Wr.w ?_
    | refine Cmp.t ?_
    | refine Cmp.f ?_
    | refine Rem.w ?_
    | refine Quo.w ?_
    | refine PickV.now rfl ?_
    | refine Pick.now rfl ?_
    | refine Chk.mk rfl ?_
    | refine PickW.w rfl ?_
      | (refine Cmp.ff hk.1 ?_)
      | (refine Cmp.ff hk.2 ?_)
      | (refine Ret.mk rfl))
end
end Go.Proofs.YtmjifdpcoaeehaaGreatDoor.Co
