
/-
  Priority: short programs.
-/
import Derived.Test.YtcephlgejkngiaaGreatDoorPcCon
namespace Go.Proofs.YtcephlgejkngiaaGreatDoor.Co
open Go Go.Evl
set_option maxRecDepth 100000
def shortT (t : Tst) : Bool := decide (t.fa.length ≤ 40 ∧ t.op.length ≤ 40)
def shortK (k : Kyt) : Bool := decide (k.fa.length ≤ 40)
def headC (c : Cls) : Bool := decide (c.nm.length ≤ 40 ∧ (c.wh.length ≤ 4 ∨ c.wh.length = 9) ∧ (c.ky.length ≤ 4 ∨ c.ky.length = 9))
def shortC (c : Cls) : Bool := headC c && (c.wh.all shortT && c.ky.all shortK)
def shortP (p : Prg) : Bool := decide (p.cl.length ≤ 5 ∨ p.cl.length = 17) && p.cl.all shortC
def BigP (p : Prg) : Prop := p.cl.length ≤ 9223372036854775807 ∧ ∀ c ∈ p.cl, c.wh.length ≤ 9223372036854775807 ∧ c.ky.length ≤ 9223372036854775807
theorem shortP_small {p : Prg} (h : shortP p = true) : SmallP p := by
  simp only [shortP, shortC, headC, Bool.and_eq_true, decide_eq_true_eq, List.all_eq_true] at h
  refine ⟨by omega, fun c hc => ?_⟩
  have := (h.2 c hc).1
  exact ⟨by omega, by omega⟩
section
variable {E : Oracle} (g : Good E)
include g
set_option maxHeartbeats 8000000 in
theorem r_ShortP (p : Prg) (hs : BigP p) : Fc E n_ref05_Short [Pgv p] (B (shortP p)) := by
  refine g.fn code_ref05_Short rfl ?_
  obtain ⟨l1, l2⟩ := hs
  unfold shortP
  by_cases hl : p.cl.length ≤ 5 ∨ p.cl.length = 17
  · rw [decide_eq_true hl, Bool.true_and]
    generalize hR : p.cl.all shortC = R
    repeat' ((conv => whnf); first
    | refine Br.tt ?_ | refine Br.ff ?_ | refine Need.w ?_ | refine Wr.w ?_ | refine Cmp.t ?_ | refine Cmp.f ?_ | refine Rem.w ?_ | refine Quo.w ?_ | refine PickV.now rfl ?_ | refine Pick.now rfl ?_ | refine Chk.mk rfl ?_ | refine PickW.w rfl ?_
      | (refine Cmp.mk (fun h => ?_) (fun h => ?_)) | (refine Rem.any (by omega) (fun r hr he => ?_)) | (refine Br.mk (fun h => ?_) (fun h => ?_))
      | (exfalso; omega))
    all_goals
      refine LoopW.to (LoopW.upP g (fun k => [(1, .ptr ⟨0, 1, 0⟩ 0 0), (3, I k)]) (fun _ => _) (fun k => (p.cl.drop k).all shortC = R) p.cl.length (fun k hk h0 ih => ?_) 0 (Nat.zero_le _) hR) rfl rfl
      by_cases hlt : k < p.cl.length
      · rw [List.drop_eq_getElem_cons hlt, List.all_cons] at h0
        have ih := ih hlt
        have l3 := l2 _ (List.getElem_mem hlt)
        generalize hx : p.cl[k] = x at *
        obtain ⟨l4, l5⟩ := l3
        unfold shortC at h0
        by_cases hh : x.nm.length ≤ 40 ∧ (x.wh.length ≤ 4 ∨ x.wh.length = 9) ∧ (x.ky.length ≤ 4 ∨ x.ky.length = 9)
        · have hd : headC x = true := decide_eq_true hh
          rw [hd, Bool.true_and] at h0
          generalize hA : x.wh.all shortT = A at h0
          generalize hB : x.ky.all shortK = B' at h0
          repeat' ((conv => whnf); first
          | refine Br.tt ?_ | refine Br.ff ?_ | refine Need.w ?_ | refine Wr.w ?_ | refine Cmp.t ?_ | refine Cmp.f ?_ | refine Rem.w ?_ | refine Quo.w ?_ | refine PickV.now rfl ?_ | refine Pick.now rfl ?_ | refine Chk.mk rfl ?_ | refine PickW.w rfl ?_
            | (refine PickW.rec Cls.cells_length k rfl hlt ?_; rw [hx])
            | (refine Cmp.mk (fun h => ?_) (fun h => ?_)) | (refine Rem.any (by omega) (fun r hr he => ?_)) | (refine Br.mk (fun h => ?_) (fun h => ?_))
            | (exfalso; omega))
          all_goals
            refine LoopW.to (LoopW.upP g (fun j => [(1, .ptr ⟨0, 1, 0⟩ 0 0), (3, I k), (4, .ptr ⟨0, 4, 0⟩ 0 0), (5, I j)]) (fun _ => _) (fun j => (x.wh.drop j).all shortT = A) x.wh.length (fun j hj h1 jh => ?_) 0 (Nat.zero_le _) hA) rfl rfl
            by_cases hjl : j < x.wh.length
            · rw [List.drop_eq_getElem_cons hjl, List.all_cons] at h1
              have jh := jh hjl
              by_cases ht : x.wh[j].fa.length ≤ 40 ∧ x.wh[j].op.length ≤ 40
              · have hd : shortT x.wh[j] = true := decide_eq_true ht
                rw [hd, Bool.true_and] at h1
                have jh := jh h1
                repeat' ((conv => whnf); first
                | refine Br.tt ?_ | refine Br.ff ?_ | refine Need.w ?_ | refine Wr.w ?_ | refine Cmp.t ?_ | refine Cmp.f ?_ | refine Rem.w ?_ | refine Quo.w ?_ | refine PickV.now rfl ?_ | refine Pick.now rfl ?_ | refine Chk.mk rfl ?_ | refine PickW.w rfl ?_
                  | (refine Pick.rec Tst.cells_length j rfl hjl rfl ?_)
                  | (refine LoopW.to jh rfl rfl))
              · have hd : shortT x.wh[j] = false := decide_eq_false ht
                rw [hd, Bool.false_and] at h1
                rw [← h1, Bool.false_and, Bool.false_and] at h0
                rw [← h0]
                repeat' ((conv => whnf); first
                | refine Br.tt ?_ | refine Br.ff ?_ | refine Need.w ?_ | refine Wr.w ?_ | refine Cmp.t ?_ | refine Cmp.f ?_ | refine Rem.w ?_ | refine Quo.w ?_ | refine PickV.now rfl ?_ | refine Pick.now rfl ?_ | refine Chk.mk rfl ?_ | refine PickW.w rfl ?_
                  | (refine Pick.rec Tst.cells_length j rfl hjl rfl ?_)
                  | (refine Cmp.mk (fun h => ?_) (fun h => ?_)) | (refine Rem.any (by omega) (fun r hr he => ?_)) | (refine Br.mk (fun h => ?_) (fun h => ?_))
                  | (refine Ret.mk rfl)
                  | (exfalso; omega))
            · rw [List.drop_eq_nil_of_le (by omega), List.all_nil] at h1
              rw [← h1, Bool.true_and] at h0
              repeat' ((conv => whnf); first
              | refine Br.tt ?_ | refine Br.ff ?_ | refine Need.w ?_ | refine Wr.w ?_ | refine Cmp.t ?_ | refine Cmp.f ?_ | refine Rem.w ?_ | refine Quo.w ?_ | refine PickV.now rfl ?_ | refine Pick.now rfl ?_ | refine Chk.mk rfl ?_ | refine PickW.w rfl ?_)
              refine LoopW.to (LoopW.upP g (fun i => [(1, .ptr ⟨0, 1, 0⟩ 0 0), (3, I k), (4, .ptr ⟨0, 4, 0⟩ 0 0), (6, I i)]) (fun _ => _) (fun i => (x.ky.drop i).all shortK = B') x.ky.length (fun i hi h2 ik => ?_) 0 (Nat.zero_le _) hB) rfl rfl
              by_cases hil : i < x.ky.length
              · rw [List.drop_eq_getElem_cons hil, List.all_cons] at h2
                have ik := ik hil
                by_cases ht : x.ky[i].fa.length ≤ 40
                · have hd : shortK x.ky[i] = true := decide_eq_true ht
                  rw [hd, Bool.true_and] at h2
                  have ik := ik h2
                  repeat' ((conv => whnf); first
                  | refine Br.tt ?_ | refine Br.ff ?_ | refine Need.w ?_ | refine Wr.w ?_ | refine Cmp.t ?_ | refine Cmp.f ?_ | refine Rem.w ?_ | refine Quo.w ?_ | refine PickV.now rfl ?_ | refine Pick.now rfl ?_ | refine Chk.mk rfl ?_ | refine PickW.w rfl ?_
                    | (refine Pick.rec Kyt.cells_length i rfl hil rfl ?_)
                    | (refine LoopW.to ik rfl rfl))
                · have hd : shortK x.ky[i] = false := decide_eq_false ht
                  rw [hd, Bool.false_and] at h2
                  rw [← h2, Bool.false_and] at h0
                  rw [← h0]
                  repeat' ((conv => whnf); first
                  | refine Br.tt ?_ | refine Br.ff ?_ | refine Need.w ?_ | refine Wr.w ?_ | refine Cmp.t ?_ | refine Cmp.f ?_ | refine Rem.w ?_ | refine Quo.w ?_ | refine PickV.now rfl ?_ | refine Pick.now rfl ?_ | refine Chk.mk rfl ?_ | refine PickW.w rfl ?_
                    | (refine Pick.rec Kyt.cells_length i rfl hil rfl ?_)
                    | (refine Ret.mk rfl))
              · rw [List.drop_eq_nil_of_le (by omega), List.all_nil] at h2
                rw [← h2, Bool.true_and] at h0
                have ih := ih h0
                repeat' ((conv => whnf); first
                | refine Br.tt ?_ | refine Br.ff ?_ | refine Need.w ?_ | refine Wr.w ?_ | refine Cmp.t ?_ | refine Cmp.f ?_ | refine Rem.w ?_ | refine Quo.w ?_ | refine PickV.now rfl ?_ | refine Pick.now rfl ?_ | refine Chk.mk rfl ?_ | refine PickW.w rfl ?_
                  | (refine LoopW.to ih rfl rfl))
        · have hd : headC x = false := decide_eq_false hh
          rw [hd, Bool.false_and, Bool.false_and] at h0
          rw [← h0]
          repeat' ((conv => whnf); first
          | refine Br.tt ?_ | refine Br.ff ?_ | refine Need.w ?_ | refine Wr.w ?_ | refine Cmp.t ?_ | refine Cmp.f ?_ | refine Rem.w ?_ | refine Quo.w ?_ | refine PickV.now rfl ?_ | refine Pick.now rfl ?_ | refine Chk.mk rfl ?_ | refine PickW.w rfl ?_
            | (refine PickW.rec Cls.cells_length k rfl hlt ?_; rw [hx])
            | (refine Cmp.mk (fun h => ?_) (fun h => ?_)) | (refine Rem.any (by omega) (fun r hr he => ?_)) | (refine Br.mk (fun h => ?_) (fun h => ?_))
            | (refine Ret.mk rfl)
            | (exfalso; omega))
      · rw [List.drop_eq_nil_of_le (by omega), List.all_nil] at h0
        rw [← h0]
        repeat' ((conv => whnf); first
        | refine Br.tt ?_ | refine Br.ff ?_ | refine Need.w ?_ | refine Wr.w ?_ | refine Cmp.t ?_ | refine Cmp.f ?_ | refine Rem.w ?_ | refine Quo.w ?_ | refine PickV.now rfl ?_ | refine Pick.now rfl ?_ | refine Chk.mk rfl ?_ | refine PickW.w rfl ?_
          | (refine Ret.mk rfl))
  · rw [decide_eq_false hl, Bool.false_and]
    repeat' ((conv => whnf); first
    | refine Br.tt ?_ | refine Br.ff ?_ | refine Need.w ?_ | refine Wr.w ?_ | refine Cmp.t ?_ | refine Cmp.f ?_ | refine Rem.w ?_ | refine Quo.w ?_ | refine PickV.now rfl ?_ | refine Pick.now rfl ?_ | refine Chk.mk rfl ?_ | refine PickW.w rfl ?_
      | (refine Cmp.mk (fun h => ?_) (fun h => ?_)) | (refine Rem.any (by omega) (fun r hr he => ?_)) | (refine Br.mk (fun h => ?_) (fun h => ?_))
      | (refine Ret.mk rfl)
      | (exfalso; omega))
end
end Go.Proofs.YtcephlgejkngiaaGreatDoor.Co
