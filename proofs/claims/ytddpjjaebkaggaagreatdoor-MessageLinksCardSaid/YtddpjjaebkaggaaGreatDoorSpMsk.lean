
/-
  Texts of masks: printed (all 128, computed by the kernel) and read.
-/
import Derived.Test.YtddpjjaebkaggaaGreatDoorSpOne
import Derived.Test.YtddpjjaebkaggaaGreatDoorSpName
import Derived.Test.YtddpjjaebkaggaaGreatDoorSpDig
import Derived.Test.YtddpjjaebkaggaaGreatDoorSpInm
namespace Go.Proofs.YtddpjjaebkaggaaGreatDoor.Co
open Go Go.Evl
def maskL (m : Nat) : List UInt8 := (List.range 7).map fun w => if m / 2 ^ w % 2 = 1 then UInt8.ofNat (49 + w) else 48
def maskOf (s : List UInt8) : Nat → Nat
  | 0 => 0
  | k + 1 => if s.getD k 0 = 48 then maskOf s k else maskOf s k + 2 ^ k
def maskS (s : List UInt8) : Nat := maskOf s (min 7 s.length)
theorem maskOf_lt (s : List UInt8) : ∀ k, maskOf s k < 2 ^ k
  | 0 => by simp [maskOf]
  | k + 1 => by
    have := maskOf_lt s k
    simp only [maskOf]
    rw [Nat.pow_succ]
    split <;> omega
theorem maskL_back : ∀ m : Fin 128, maskS (maskL m.val) = m.val := by decide +kernel
theorem maskS_lt (s : List UInt8) : maskS s < 128 := by
  have h1 := maskOf_lt s (min 7 s.length)
  have h2 : 2 ^ (min 7 s.length) ≤ 2 ^ 7 := Nat.pow_le_pow_right (by decide) (by omega)
  unfold maskS
  omega
def isMaskT (s : List UInt8) : Prop := maskS s ≠ 0 ∧ maskL (maskS s) = s
instance (s : List UInt8) : Decidable (isMaskT s) := by unfold isMaskT; infer_instance
theorem isMaskT_of {s : List UInt8} {m : Nat} (h1 : 1 ≤ m) (h2 : m < 128) (h : maskL m = s) : isMaskT s ∧ maskS s = m := by
  have := maskL_back ⟨m, h2⟩
  simp only at this
  rw [h] at this
  exact ⟨⟨by omega, by rw [this]; exact h⟩, this⟩
theorem or_bitN : ∀ a : Fin 128, ∀ w : Fin 7, a.val < 2 ^ w.val → IntKind.i64.wrap ((BitVec.ofInt IntKind.i64.bits (a.val : Int) ||| BitVec.ofInt IntKind.i64.bits (1 * 2 ^ (min ((w.val : Int)).toNat IntKind.i64.bits))).toNat) = ((a.val + 2 ^ w.val : Nat) : Int) := by decide +kernel
section
variable {E : Oracle} (g : Good E)
include g
set_option maxRecDepth 100000
omit g in
theorem digit1 {k : Nat} (h : k < 7) : digitsF 20 ((k : Int) + 1).toNat = [UInt8.ofNat (49 + k)] := by
  have e : ((k : Int) + 1).toNat = k + 1 := by omega
  rw [e]
  show (if k + 1 < 10 then [UInt8.ofNat (48 + (k + 1))] else _) = _
  rw [if_pos (by omega), show 48 + (k + 1) = 49 + k by omega]
omit g in
def maskK (m : Nat) (k : Nat) : List UInt8 := (List.range k).map fun w => if m / 2 ^ w % 2 = 1 then UInt8.ofNat (49 + w) else 48
omit g in
theorem maskK_succ (m k : Nat) : maskK m (k + 1) = maskK m k ++ [if m / 2 ^ k % 2 = 1 then UInt8.ofNat (49 + k) else 48] := by simp [maskK, List.range_succ]
omit g in
theorem maskK_length (m k : Nat) : (maskK m k).length = k := by simp [maskK]
omit g in
def byD (l : List UInt8) : List D := l.map fun b => D.int .u8 b.toNat
omit g in
theorem bytesOf_byD : ∀ l : List UInt8, Evl.bytesOf (byD l) = some l
  | [] => rfl
  | b :: r => by
    have h := b.toNat_lt
    show (if 0 ≤ (b.toNat : Int) ∧ (b.toNat : Int) < 256 then (Evl.bytesOf (byD r)).map (UInt8.ofNat ((b.toNat : Int)).toNat :: ·) else none) = _
    rw [if_pos (by omega), bytesOf_byD r]
    simp
omit g in
theorem inM_nat (m k : Nat) : inM m k = decide (m / 2 ^ k % 2 = 1) := by
  unfold inM
  rw [Int.toNat_natCast]
  apply decide_eq_decide.2
  have e : ((m : Int) / 2 ^ k % 2) = ((m / 2 ^ k % 2 : Nat) : Int) := by
    rw [Int.natCast_emod, Int.natCast_ediv, Int.natCast_pow]; rfl
  rw [e]
  omega
set_option maxHeartbeats 4000000 in
theorem s_printMask (m : Nat) (h : m < 128) : Fc E n_calendar_printMask [I m] (S (maskL m)) := by
  refine g.fn code_calendar_printMask rfl ?_
  repeat' ((conv => whnf); first
  | refine Br.tt ?_
  | refine Br.ff ?_
  | refine Need.w ?_
  | refine Wr.w ?_
  | refine Cmp.t ?_
  | refine Cmp.f ?_
  | refine Rem.w ?_
  | refine Quo.w ?_
  | refine PickV.now rfl ?_
  | refine Pick.now rfl ?_
  | refine Chk.mk rfl ?_
  | refine PickW.w rfl ?_)
  refine LoopW.to (LoopW.up g (fun k => [(0, I m), (3, .ptr ⟨0, 3, 1⟩ 0 0), (5, I k)]) (fun k => [(⟨0, 3, 0⟩, .row false ty_uint8 1 k (byD (maskK m k))), (⟨0, 3, 1⟩, .cells ty_strings_Builder [match k with | 0 => .d .nilp | _ + 1 => .ptr ⟨0, 3, 1⟩ 0 0, .ref ⟨0, 3, 0⟩ 0 k k])]) 7 (fun k hk ih => ?_) 0 (Nat.zero_le _)) rfl rfl
  have hlen := maskK_length m k
  have hbl : (byD (maskK m k)).length = k := by simp [byD, hlen]
  by_cases hlt : k < 7
  · have hin := s_inMask g m k (by omega) (by omega)
    rw [inM_nat] at hin
    have hit := s_Itoa g ((k : Int) + 1) (by omega)
    rw [digit1 hlt] at hit
    have hs := maskK_succ m k
    by_cases hb : m / 2 ^ k % 2 = 1
    · rw [decide_eq_true hb] at hin
      rw [if_pos hb] at hs
      cases k with
      | zero =>
        repeat' ((conv => whnf); first
        | refine Br.tt ?_
        | refine Br.ff ?_
        | refine Need.w ?_
        | refine Wr.w ?_
        | refine Cmp.t ?_
        | refine Cmp.f ?_
        | refine Rem.w ?_
        | refine Quo.w ?_
        | refine PickV.now rfl ?_
        | refine Pick.now rfl ?_
        | refine Chk.mk rfl ?_
        | refine PickW.w rfl ?_
          | (apply CallI.of; assumption)
          | (refine In.enter g.lim rfl code_strings_Builder_WriteString ?_)
          | (refine Need.mk (by simp [Evl.bytesD] <;> omega) ?_)
          | (refine In.extern g.lim (x := copyX ty_strings_Builder) rfl rfl ?_)
          | (refine Some'.mk ⟨_, rfl, ?_⟩)
          | (refine LoopW.to (ih hlt) rfl ?_))
        rw [hs]; simp [byD, maskK, Evl.bytesD]
      | succ j =>
        repeat' ((conv => whnf); first
        | refine Br.tt ?_
        | refine Br.ff ?_
        | refine Need.w ?_
        | refine Wr.w ?_
        | refine Cmp.t ?_
        | refine Cmp.f ?_
        | refine Rem.w ?_
        | refine Quo.w ?_
        | refine PickV.now rfl ?_
        | refine Pick.now rfl ?_
        | refine Chk.mk rfl ?_
        | refine PickW.w rfl ?_
          | (apply CallI.of; assumption)
          | (refine In.enter g.lim rfl code_strings_Builder_WriteString ?_)
          | (refine Need.mk (by simp [Evl.bytesD] <;> omega) ?_)
          | (refine In.extern g.lim (x := copyX ty_strings_Builder) rfl rfl ?_)
          | (refine Some'.mk ⟨_, rfl, ?_⟩)
          | (refine LoopW.to (ih hlt) rfl ?_))
        rw [hs]; simp [byD, Evl.bytesD]
    · rw [decide_eq_false hb] at hin
      rw [if_neg hb] at hs
      cases k with
      | zero =>
        repeat' ((conv => whnf); first
        | refine Br.tt ?_
        | refine Br.ff ?_
        | refine Need.w ?_
        | refine Wr.w ?_
        | refine Cmp.t ?_
        | refine Cmp.f ?_
        | refine Rem.w ?_
        | refine Quo.w ?_
        | refine PickV.now rfl ?_
        | refine Pick.now rfl ?_
        | refine Chk.mk rfl ?_
        | refine PickW.w rfl ?_
          | (apply CallI.of; assumption)
          | (refine In.enter g.lim rfl code_strings_Builder_WriteByte ?_)
          | (refine In.extern g.lim (x := copyX ty_strings_Builder) rfl rfl ?_)
          | (refine Some'.mk ⟨_, rfl, ?_⟩)
          | (refine LoopW.to (ih hlt) rfl ?_))
        rw [hs]; simp [byD, maskK]
      | succ j =>
        repeat' ((conv => whnf); first
        | refine Br.tt ?_
        | refine Br.ff ?_
        | refine Need.w ?_
        | refine Wr.w ?_
        | refine Cmp.t ?_
        | refine Cmp.f ?_
        | refine Rem.w ?_
        | refine Quo.w ?_
        | refine PickV.now rfl ?_
        | refine Pick.now rfl ?_
        | refine Chk.mk rfl ?_
        | refine PickW.w rfl ?_
          | (apply CallI.of; assumption)
          | (refine In.enter g.lim rfl code_strings_Builder_WriteByte ?_)
          | (refine In.extern g.lim (x := copyX ty_strings_Builder) rfl rfl ?_)
          | (refine Some'.mk ⟨_, rfl, ?_⟩)
          | (refine LoopW.to (ih hlt) rfl ?_))
        rw [hs]; simp [byD]
  · obtain rfl : k = 7 := by omega
    have hx : stringX ty_strings_Builder ty_uint8 [.ptr ⟨0, 3, 1⟩ 0 0] [(⟨0, 3, 0⟩, .row false ty_uint8 1 7 (byD (maskK m 7))), (⟨0, 3, 1⟩, .cells ty_strings_Builder [.ptr ⟨0, 3, 1⟩ 0 0, .ref ⟨0, 3, 0⟩ 0 7 7])] = some (S (maskK m 7), [(⟨0, 3, 0⟩, .gone), (⟨0, 3, 1⟩, .cells ty_strings_Builder [.ptr ⟨0, 3, 1⟩ 0 0, .ref ⟨0, 3, 0⟩ 0 7 7])]) := by
      show (match Evl.bytesOf (byD (maskK m 7)) with | some b => some (V.d (.str b), _) | none => none) = _
      rw [bytesOf_byD]; rfl
    repeat' ((conv => whnf); first
    | refine Br.tt ?_
    | refine Br.ff ?_
    | refine Need.w ?_
    | refine Wr.w ?_
    | refine Cmp.t ?_
    | refine Cmp.f ?_
    | refine Rem.w ?_
    | refine Quo.w ?_
    | refine PickV.now rfl ?_
    | refine Pick.now rfl ?_
    | refine Chk.mk rfl ?_
    | refine PickW.w rfl ?_
      | (refine In.extern g.lim (x := stringX ty_strings_Builder ty_uint8) rfl hx ?_)
      | (refine Ret.mk rfl))
theorem s_PrintMask_ok (m : Nat) (h : 1 ≤ m ∧ m ≤ 127) : Fc E n_calendar_PrintMask [I m] (.tup [S (maskL m), I 0]) := by
  refine g.fn code_calendar_PrintMask rfl ?_
  have hw := s_within g m 1 127
  rw [rng_zero.2 (by omega)] at hw
  repeat' ((conv => whnf); first
  | refine Br.tt ?_
  | refine Br.ff ?_
  | refine Need.w ?_
  | refine Wr.w ?_
  | refine Cmp.t ?_
  | refine Cmp.f ?_
  | refine Rem.w ?_
  | refine Quo.w ?_
  | refine PickV.now rfl ?_
  | refine Pick.now rfl ?_
  | refine Chk.mk rfl ?_
  | refine PickW.w rfl ?_
    | (refine CallI.of hw ?_)
    | (refine CallI.of (s_printMask g m (by omega)) ?_)
    | (refine Ret.mk rfl))
theorem s_PrintMask_bad (m : Int) (h : rng m 1 127 ≠ 0) : Fc E n_calendar_PrintMask [I m] (.tup [S [], I (rng m 1 127)]) := by
  refine g.fn code_calendar_PrintMask rfl ?_
  repeat' ((conv => whnf); first
  | refine Br.tt ?_
  | refine Br.ff ?_
  | refine Need.w ?_
  | refine Wr.w ?_
  | refine Cmp.t ?_
  | refine Cmp.f ?_
  | refine Rem.w ?_
  | refine Quo.w ?_
  | refine PickV.now rfl ?_
  | refine Pick.now rfl ?_
  | refine Chk.mk rfl ?_
  | refine PickW.w rfl ?_
    | (refine CallI.of (s_within g _ _ _) ?_)
    | (refine Ret.mk rfl))
theorem s_ParseMask (s : List UInt8) : Fc E n_calendar_ParseMask [S s] (.tup (if isMaskT s then [I (maskS s), I 0] else [I 0, I 25])) := by
  refine g.fn code_calendar_ParseMask rfl ?_
  repeat' ((conv => whnf); first
  | refine Br.tt ?_
  | refine Br.ff ?_
  | refine Need.w ?_
  | refine Wr.w ?_
  | refine Cmp.t ?_
  | refine Cmp.f ?_
  | refine Rem.w ?_
  | refine Quo.w ?_
  | refine PickV.now rfl ?_
  | refine Pick.now rfl ?_
  | refine Chk.mk rfl ?_
  | refine PickW.w rfl ?_)
  refine LoopW.to (LoopW.up g (fun k => [(0, S s), (4, I (maskOf s k)), (8, I (if (s.length : Int) < 7 then (s.length : Int) else 7)), (9, I k)]) (fun _ => []) (min 7 s.length) (fun k hk ih => ?_) 0 (Nat.zero_le _)) rfl rfl
  by_cases hlt : k < min 7 s.length
  · have h1 := maskOf_lt s k
    have h2 : 2 ^ k ≤ 2 ^ 6 := Nat.pow_le_pow_right (by decide) (by omega)
    have hor := or_bitN ⟨maskOf s k, by omega⟩ ⟨k, by omega⟩ h1
    have hps : -9223372036854775808 ≤ 1 * (2 : Int) ^ (min ((k : Int)).toNat IntKind.i64.bits) ∧ 1 * (2 : Int) ^ (min ((k : Int)).toNat IntKind.i64.bits) ≤ 9223372036854775807 := by
      have e : min ((k : Int)).toNat IntKind.i64.bits = k := by
        have : IntKind.i64.bits = 64 := rfl
        omega
      have h3 : ((2 ^ k : Nat) : Int) ≤ 64 := by exact_mod_cast h2
      have h4 : (0 : Int) < 2 ^ k := Int.pow_pos (by decide)
      rw [e]
      rw [Int.natCast_pow] at h3
      have : ((2 : Nat) : Int) ^ k = (2 : Int) ^ k := rfl
      omega
    have hm : maskOf s (k + 1) = if s.getD k 0 = 48 then maskOf s k else maskOf s k + 2 ^ k := rfl
    by_cases e : s.getD k 0 = 48
    · rw [if_pos e] at hm
      repeat' ((conv => whnf); first
      | refine Br.tt ?_
      | refine Br.ff ?_
      | refine Need.w ?_
      | refine Wr.w ?_
      | refine Cmp.t ?_
      | refine Cmp.f ?_
      | refine Rem.w ?_
      | refine Quo.w ?_
      | refine PickV.now rfl ?_
      | refine Pick.now rfl ?_
      | refine Chk.mk rfl ?_
      | refine PickW.w rfl ?_
        | (refine PickB.at k (by omega) (by omega) ?_)
        | (refine Cmp.tt (by rw [e]; rfl) ?_)
        | (refine LoopW.to (ih hlt) ?_ rfl))
      rw [hm]; rfl
    · rw [if_neg e] at hm
      have hne : ¬ ((s.getD k 0).toNat : Int) = 48 := fun h => by
        have h8 : (s.getD k 0).toNat = (48 : UInt8).toNat := by show (s.getD k 0).toNat = 48; omega
        exact e (UInt8.toNat_inj.1 h8)
      repeat' ((conv => whnf); first
      | refine Br.tt ?_
      | refine Br.ff ?_
      | refine Need.w ?_
      | refine Wr.w ?_
      | refine Cmp.t ?_
      | refine Cmp.f ?_
      | refine Rem.w ?_
      | refine Quo.w ?_
      | refine PickV.now rfl ?_
      | refine Pick.now rfl ?_
      | refine Chk.mk rfl ?_
      | refine PickW.w rfl ?_
        | (refine PickB.at k (by omega) (by omega) ?_)
        | (refine Cmp.ff hne ?_)
        | (refine Wr.keep hps ?_)
        | (refine LoopW.to (ih hlt) ?_ rfl))
      rw [hm, ← hor]; rfl
  · have hk' : k = min 7 s.length := by omega
    subst hk'
    have hlt7 := maskS_lt s
    have hp := s_printMask g (maskS s) hlt7
    have hM : maskOf s (min 7 s.length) = maskS s := rfl
    rw [hM]
    by_cases hT : isMaskT s
    · rw [if_pos hT]
      obtain ⟨h1, h2⟩ := hT
      rw [h2] at hp
      repeat' ((conv => whnf); first
      | refine Br.tt ?_
      | refine Br.ff ?_
      | refine Need.w ?_
      | refine Wr.w ?_
      | refine Cmp.t ?_
      | refine Cmp.f ?_
      | refine Rem.w ?_
      | refine Quo.w ?_
      | refine PickV.now rfl ?_
      | refine Pick.now rfl ?_
      | refine Chk.mk rfl ?_
      | refine PickW.w rfl ?_
        | (refine CallI.of hp ?_)
        | (refine Cmp.tt rfl ?_)
        | (refine Ret.mk rfl))
    · rw [if_neg hT]
      unfold isMaskT at hT
      by_cases h0 : maskS s = 0
      · repeat' ((conv => whnf); first
      | refine Br.tt ?_
      | refine Br.ff ?_
      | refine Need.w ?_
      | refine Wr.w ?_
      | refine Cmp.t ?_
      | refine Cmp.f ?_
      | refine Rem.w ?_
      | refine Quo.w ?_
      | refine PickV.now rfl ?_
      | refine Pick.now rfl ?_
      | refine Chk.mk rfl ?_
      | refine PickW.w rfl ?_
          | (refine Ret.mk rfl))
      · have hne : ¬ maskL (maskS s) = s := fun e => hT ⟨h0, e⟩
        repeat' ((conv => whnf); first
        | refine Br.tt ?_
        | refine Br.ff ?_
        | refine Need.w ?_
        | refine Wr.w ?_
        | refine Cmp.t ?_
        | refine Cmp.f ?_
        | refine Rem.w ?_
        | refine Quo.w ?_
        | refine PickV.now rfl ?_
        | refine Pick.now rfl ?_
        | refine Chk.mk rfl ?_
        | refine PickW.w rfl ?_
          | (refine CallI.of hp ?_)
          | (refine Cmp.ff hne ?_)
          | (refine Ret.mk rfl))
end
end Go.Proofs.YtddpjjaebkaggaaGreatDoor.Co
