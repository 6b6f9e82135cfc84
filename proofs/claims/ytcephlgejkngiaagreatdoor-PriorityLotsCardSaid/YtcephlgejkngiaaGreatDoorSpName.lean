
/-
  Names: what both IsName give.
-/
import Derived.Test.YtcephlgejkngiaaGreatDoorSpOne
import Derived.Laws.RangeAny
namespace Go.Proofs.YtcephlgejkngiaaGreatDoor.Co
open Go Go.Evl
theorem PickB.at {s : List UInt8} {i : Nat} {K : UInt8 → Prop} (k : Nat) (hi : i = k) (h : k < s.length) (hk : K (s.getD k 0)) : PickB s i K := by
  subst hi
  exact ⟨⟨_, by simp [List.getD, h], hk⟩⟩
theorem NextW.asc {s : List UInt8} {k : Nat} {a : Int → Nat → Prop} {b : Prop} (h : k < s.length) (ha : (s.getD k 0).toNat < 128) (hk : a (s.getD k 0).toNat 1) : NextW s k a b := by
  refine ⟨fun _ => ?_, fun hn => absurd h hn⟩
  have e : (s.getD k 0) = s[k] := by simp [List.getD, h]
  have hd := decode_ascii ⟨s.toArray⟩ k (by simpa [ByteArray.size] using h) (by rw [e] at ha; exact ha)
  rw [hd]
  rw [e] at hk
  exact hk
theorem NextW.high {s : List UInt8} {k : Nat} {a : Int → Nat → Prop} {b : Prop} (h : k < s.length) (ha : 128 ≤ (s.getD k 0).toNat) (hk : ∀ (c : Int) (w : Nat), 128 ≤ c → 1 ≤ w → a c w) : NextW s k a b := by
  refine ⟨fun _ => ?_, fun hn => absurd h hn⟩
  have e : (s.getD k 0) = s[k] := by simp [List.getD, h]
  have hd := decode_high ⟨s.toArray⟩ k (by simpa [ByteArray.size] using h) (by rw [e] at ha; exact ha)
  exact hk _ _ (by omega) hd.2
theorem NextW.end' {s : List UInt8} {k : Nat} {a : Int → Nat → Prop} {b : Prop} (h : s.length ≤ k) (hk : b) : NextW s k a b := ⟨fun hn => absurd hn (by omega), fun _ => hk⟩
def okCh (k : Nat) (b : UInt8) : Prop := (65 ≤ b.toNat ∧ b.toNat ≤ 90) ∨ (97 ≤ b.toNat ∧ b.toNat ≤ 122) ∨ (0 < k ∧ (b.toNat = 95 ∨ (48 ≤ b.toNat ∧ b.toNat ≤ 57)))
instance (k : Nat) (b : UInt8) : Decidable (okCh k b) := by unfold okCh; infer_instance
def nameP (s : List UInt8) : Prop := 0 < s.length ∧ s.length ≤ 24 ∧ ∀ i, i < s.length → okCh i (s.getD i 0)
instance (s : List UInt8) : Decidable (nameP s) := by unfold nameP; infer_instance
def isNameB (s : List UInt8) : Bool := decide (nameP s)
theorem isName_no {s : List UInt8} {k : Nat} (hk : k < s.length) (h : ¬ okCh k (s.getD k 0)) : isNameB s = false := decide_eq_false fun hn => h (hn.2.2 k hk)
section
variable {E : Oracle} (g : Good E)
include g
theorem s_IsName (s : List UInt8) : Fc E n_calendar_IsName [S s] (B (isNameB s)) := by
  refine g.fn code_calendar_IsName rfl ?_
  by_cases h0 : 0 < s.length ∧ s.length ≤ 24
  · repeat' ((conv => whnf); first
  | refine Br.tt ?_ | refine Br.ff ?_ | refine Need.w ?_ | refine Wr.w ?_ | refine Cmp.t ?_ | refine Cmp.f ?_ | refine Rem.w ?_ | refine Quo.w ?_ | refine PickV.now rfl ?_ | refine Pick.now rfl ?_ | refine Chk.mk rfl ?_ | refine PickW.w rfl ?_)
    refine LoopW.to (LoopW.upP g (fun _ => [(15, .it ⟨0, 15, 0⟩)]) (fun k => [(⟨0, 15, 0⟩, .iter s k)]) (fun k => ∀ i, i < k → okCh i (s.getD i 0)) s.length (fun k hk hp ih => ?_) 0 (Nat.zero_le _) (fun i hi => by omega)) rfl rfl
    by_cases hlt : k < s.length
    · by_cases ha : (s.getD k 0).toNat < 128
      · by_cases hok : okCh k (s.getD k 0)
        · have hp' : ∀ i, i < k + 1 → okCh i (s.getD i 0) := fun i hi => by
            by_cases e : i = k
            · subst e; exact hok
            · exact hp i (by omega)
          have ih := ih hlt hp'
          unfold okCh at hok
          repeat' ((conv => whnf); first
          | refine Br.tt ?_ | refine Br.ff ?_ | refine Need.w ?_ | refine Wr.w ?_ | refine Cmp.t ?_ | refine Cmp.f ?_ | refine Rem.w ?_ | refine Quo.w ?_ | refine PickV.now rfl ?_ | refine Pick.now rfl ?_ | refine Chk.mk rfl ?_ | refine PickW.w rfl ?_
            | (refine NextW.asc hlt ha ?_)
            | (refine Cmp.mk (fun h => ?_) (fun h => ?_)) | (refine Rem.any (by omega) (fun r hr he => ?_)) | (refine Br.mk (fun h => ?_) (fun h => ?_))
            | (refine LoopW.to ih rfl rfl)
            | (exfalso; omega))
        · have hno := isName_no hlt hok
          unfold okCh at hok
          rw [hno]
          repeat' ((conv => whnf); first
          | refine Br.tt ?_ | refine Br.ff ?_ | refine Need.w ?_ | refine Wr.w ?_ | refine Cmp.t ?_ | refine Cmp.f ?_ | refine Rem.w ?_ | refine Quo.w ?_ | refine PickV.now rfl ?_ | refine Pick.now rfl ?_ | refine Chk.mk rfl ?_ | refine PickW.w rfl ?_
            | (refine NextW.asc hlt ha ?_)
            | (refine Cmp.mk (fun h => ?_) (fun h => ?_)) | (refine Rem.any (by omega) (fun r hr he => ?_)) | (refine Br.mk (fun h => ?_) (fun h => ?_))
            | (refine Ret.mk rfl)
            | (exfalso; omega))
      · have hno : isNameB s = false := isName_no hlt (by unfold okCh; omega)
        rw [hno]
        repeat' ((conv => whnf); first
        | refine Br.tt ?_ | refine Br.ff ?_ | refine Need.w ?_ | refine Wr.w ?_ | refine Cmp.t ?_ | refine Cmp.f ?_ | refine Rem.w ?_ | refine Quo.w ?_ | refine PickV.now rfl ?_ | refine Pick.now rfl ?_ | refine Chk.mk rfl ?_ | refine PickW.w rfl ?_
          | (refine NextW.high hlt (by omega) (fun c w hc hw => ?_))
          | (refine Cmp.mk (fun h => ?_) (fun h => ?_)) | (refine Rem.any (by omega) (fun r hr he => ?_)) | (refine Br.mk (fun h => ?_) (fun h => ?_))
          | (refine Ret.mk rfl)
          | (exfalso; omega))
    · have hk' : k = s.length := by omega
      subst hk'
      have hyes : isNameB s = true := decide_eq_true ⟨h0.1, h0.2, hp⟩
      rw [hyes]
      repeat' ((conv => whnf); first
      | refine Br.tt ?_ | refine Br.ff ?_ | refine Need.w ?_ | refine Wr.w ?_ | refine Cmp.t ?_ | refine Cmp.f ?_ | refine Rem.w ?_ | refine Quo.w ?_ | refine PickV.now rfl ?_ | refine Pick.now rfl ?_ | refine Chk.mk rfl ?_ | refine PickW.w rfl ?_
        | (refine NextW.end' (Nat.le_refl _) ?_)
        | (refine Ret.mk rfl))
  · have hno : isNameB s = false := decide_eq_false fun hn => h0 ⟨hn.1, hn.2.1⟩
    rw [hno]
    repeat' ((conv => whnf); first
    | refine Br.tt ?_ | refine Br.ff ?_ | refine Need.w ?_ | refine Wr.w ?_ | refine Cmp.t ?_ | refine Cmp.f ?_ | refine Rem.w ?_ | refine Quo.w ?_ | refine PickV.now rfl ?_ | refine Pick.now rfl ?_ | refine Chk.mk rfl ?_ | refine PickW.w rfl ?_
      | (refine Cmp.mk (fun h => ?_) (fun h => ?_)) | (refine Rem.any (by omega) (fun r hr he => ?_)) | (refine Br.mk (fun h => ?_) (fun h => ?_))
      | (refine Ret.mk rfl)
      | (exfalso; omega))
theorem r_IsName (s : List UInt8) : Fc E n_ref01_IsName [S s] (B (isNameB s)) := by
  refine g.fn code_ref01_IsName rfl ?_
  by_cases h0 : 0 < s.length ∧ s.length ≤ 24
  · repeat' ((conv => whnf); first
  | refine Br.tt ?_ | refine Br.ff ?_ | refine Need.w ?_ | refine Wr.w ?_ | refine Cmp.t ?_ | refine Cmp.f ?_ | refine Rem.w ?_ | refine Quo.w ?_ | refine PickV.now rfl ?_ | refine Pick.now rfl ?_ | refine Chk.mk rfl ?_ | refine PickW.w rfl ?_)
    refine LoopW.to (LoopW.upP g (fun k => [(0, S s), (3, I k)]) (fun _ => []) (fun k => ∀ i, i < k → okCh i (s.getD i 0)) s.length (fun k hk hp ih => ?_) 0 (Nat.zero_le _) (fun i hi => by omega)) rfl rfl
    by_cases hlt : k < s.length
    · by_cases hok : okCh k (s.getD k 0)
      · have hp' : ∀ i, i < k + 1 → okCh i (s.getD i 0) := fun i hi => by
          by_cases e : i = k
          · subst e; exact hok
          · exact hp i (by omega)
        have ih := ih hlt hp'
        unfold okCh at hok
        repeat' ((conv => whnf); first
        | refine Br.tt ?_ | refine Br.ff ?_ | refine Need.w ?_ | refine Wr.w ?_ | refine Cmp.t ?_ | refine Cmp.f ?_ | refine Rem.w ?_ | refine Quo.w ?_ | refine PickV.now rfl ?_ | refine Pick.now rfl ?_ | refine Chk.mk rfl ?_ | refine PickW.w rfl ?_
          | (refine PickB.at k (by omega) hlt ?_)
          | (refine Cmp.mk (fun h => ?_) (fun h => ?_)) | (refine Rem.any (by omega) (fun r hr he => ?_)) | (refine Br.mk (fun h => ?_) (fun h => ?_))
          | (refine LoopW.to ih rfl rfl)
          | (exfalso; omega))
      · have hno := isName_no hlt hok
        unfold okCh at hok
        rw [hno]
        repeat' ((conv => whnf); first
        | refine Br.tt ?_ | refine Br.ff ?_ | refine Need.w ?_ | refine Wr.w ?_ | refine Cmp.t ?_ | refine Cmp.f ?_ | refine Rem.w ?_ | refine Quo.w ?_ | refine PickV.now rfl ?_ | refine Pick.now rfl ?_ | refine Chk.mk rfl ?_ | refine PickW.w rfl ?_
          | (refine PickB.at k (by omega) hlt ?_)
          | (refine Cmp.mk (fun h => ?_) (fun h => ?_)) | (refine Rem.any (by omega) (fun r hr he => ?_)) | (refine Br.mk (fun h => ?_) (fun h => ?_))
          | (refine Ret.mk rfl)
          | (exfalso; omega))
    · have hk' : k = s.length := by omega
      subst hk'
      have hyes : isNameB s = true := decide_eq_true ⟨h0.1, h0.2, hp⟩
      rw [hyes]
      repeat' ((conv => whnf); first
      | refine Br.tt ?_ | refine Br.ff ?_ | refine Need.w ?_ | refine Wr.w ?_ | refine Cmp.t ?_ | refine Cmp.f ?_ | refine Rem.w ?_ | refine Quo.w ?_ | refine PickV.now rfl ?_ | refine Pick.now rfl ?_ | refine Chk.mk rfl ?_ | refine PickW.w rfl ?_
        | (refine Ret.mk rfl))
  · have hno : isNameB s = false := decide_eq_false fun hn => h0 ⟨hn.1, hn.2.1⟩
    rw [hno]
    repeat' ((conv => whnf); first
    | refine Br.tt ?_ | refine Br.ff ?_ | refine Need.w ?_ | refine Wr.w ?_ | refine Cmp.t ?_ | refine Cmp.f ?_ | refine Rem.w ?_ | refine Quo.w ?_ | refine PickV.now rfl ?_ | refine Pick.now rfl ?_ | refine Chk.mk rfl ?_ | refine PickW.w rfl ?_
      | (refine Cmp.mk (fun h => ?_) (fun h => ?_)) | (refine Rem.any (by omega) (fun r hr he => ?_)) | (refine Br.mk (fun h => ?_) (fun h => ?_))
      | (refine Ret.mk rfl)
      | (exfalso; omega))
end
end Go.Proofs.YtcephlgejkngiaaGreatDoor.Co
