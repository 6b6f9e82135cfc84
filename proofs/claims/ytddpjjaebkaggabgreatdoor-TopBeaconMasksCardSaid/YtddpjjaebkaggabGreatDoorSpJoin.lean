
/-
  Join: the program's and the reference's.
-/
import Derived.Test.YtddpjjaebkaggabGreatDoorPlJoin
import Derived.Test.YtddpjjaebkaggabGreatDoorSpDate
import Derived.Test.YtddpjjaebkaggabGreatDoorSpDateR
import Derived.Test.YtddpjjaebkaggabGreatDoorPlUni
import Derived.Test.YtddpjjaebkaggabGreatDoorSpUni
namespace Go.Proofs.YtddpjjaebkaggabGreatDoor.Co
open Go Go.Evl
def cellP (p : Int × Int × Int) : List D := [DI p.1, DI p.2.1, DI p.2.2]
theorem cellP_len (p : Int × Int × Int) : (cellP p).length = 3 := rfl
abbrev LP (l : List (Int × Int × Int)) : V := .d (.list l.length (l.flatMap cellP))
theorem or_bit : ∀ a : Fin 128, ∀ w : Fin 7, (a.val : Int) < 2 ^ w.val → IntKind.i64.wrap ((BitVec.ofInt IntKind.i64.bits (a.val : Int) ||| BitVec.ofInt IntKind.i64.bits (1 * 2 ^ (min ((w.val : Int)).toNat IntKind.i64.bits))).toNat) = (a.val : Int) + 2 ^ w.val := by decide +kernel
theorem or_bit' (a w : Int) (ha : 0 ≤ a ∧ a < 2 ^ w.toNat) (hw : 0 ≤ w ∧ w < 7) : IntKind.i64.wrap ((BitVec.ofInt IntKind.i64.bits a ||| BitVec.ofInt IntKind.i64.bits (1 * 2 ^ (min w.toNat IntKind.i64.bits))).toNat) = a + 2 ^ w.toNat := by
  have h7 := pow_le7 (show w.toNat ≤ 6 by omega)
  have := or_bit ⟨a.toNat, by omega⟩ ⟨w.toNat, by omega⟩ (by simpa [show ((a.toNat : Nat) : Int) = a by omega] using ha.2)
  simpa [show ((a.toNat : Nat) : Int) = a by omega, show ((w.toNat : Nat) : Int) = w by omega] using this
theorem pow_small (w : Int) (hw : 0 ≤ w ∧ w < 7) : -9223372036854775808 ≤ 1 * (2 : Int) ^ (min w.toNat IntKind.i64.bits) ∧ 1 * (2 : Int) ^ (min w.toNat IntKind.i64.bits) ≤ 9223372036854775807 := by
  have h1 := pow_le7 (show min w.toNat IntKind.i64.bits ≤ 6 by omega)
  have h2 : (0 : Int) < 2 ^ (min w.toNat IntKind.i64.bits) := Int.pow_pos (by decide)
  omega
section
variable {E : Oracle} (g : Good E)
include g
theorem s_weekOf (x : Int) (h : 0 ≤ x ∧ x ≤ 1000000) : Fc E n_calendar_weekOf [I x] (I (wkD x)) := by
  refine g.fn code_calendar_weekOf rfl ?_
  repeat' ((conv => whnf); first
  | refine Br.tt ?_
  | refine Br.ff ?_
  | refine Need.w ?_
  | refine Wr.w ?_
  | refine Cmp.t ?_
  | refine Cmp.f ?_
  | refine Rem.w ?_
  | refine Quo.w ?_
  | refine PickV.now rfl ?_
  | refine Pick.now rfl ?_
  | refine Chk.mk rfl ?_
  | refine PickW.w rfl ?_
    | (refine Ret.mk rfl))
omit g in
def invD (l : List Int) (k : Nat) : Prop := firstN (errD l) 0 (l.length - 0) = firstN (errD l) k (l.length - k)
omit g in
theorem invD_bad {l : List Int} {k : Nat} (h : k < l.length) (hi : invD l k) (he : errD l k ≠ 0) : firstN (errD l) 0 (l.length - 0) = errD l k := by
  rw [hi, firstN_step _ h, if_neg he]
omit g in
theorem invD_good {l : List Int} {k : Nat} (h : k < l.length) (hi : invD l k) (he : errD l k = 0) : invD l (k + 1) := by
  unfold invD
  rw [hi, firstN_step _ h, if_pos he]
omit g in
theorem patch_to (A : List (Int × Int × Int)) (p : Int × Int × Int) (x : Int) (n : Nat) (hn : n = A.length * 3 + 1) : patch ((A ++ [p]).flatMap cellP) n [DI x] = (A ++ [(p.1, x, p.2.2)]).flatMap cellP := by
  subst hn
  have h := flatR_length cellP 3 cellP_len A
  rw [List.flatMap_append, List.flatMap_append]
  generalize A.flatMap cellP = B at *
  rw [← h]
  unfold patch
  rw [List.take_length_add_append, show B.length + 1 + [DI x].length = B.length + 2 from rfl, List.drop_length_add_append]
  simp [cellP]
omit g in
theorem get_days (A : List (Int × Int × Int)) (p : Int × Int × Int) : (A ++ [p])[A.length]'(by simp) = p := by simp
theorem s_Clip (l : List (Int × Int × Int)) : Fc E n_slices_Clip_Lapi_Period_api_Period [LP l] (LP l) := by
  refine g.fn code_slices_Clip_Lapi_Period_api_Period rfl ?_
  have hf := flatR_length cellP 3 cellP_len l
  repeat' ((conv => whnf); first
  | refine Br.tt ?_
  | refine Br.ff ?_
  | refine Need.w ?_
  | refine Wr.w ?_
  | refine Cmp.t ?_
  | refine Cmp.f ?_
  | refine Rem.w ?_
  | refine Quo.w ?_
  | refine PickV.now rfl ?_
  | refine Pick.now rfl ?_
  | refine Chk.mk rfl ?_
  | refine PickW.w rfl ?_
    | (refine Bounds.mk (by omega) ?_)
    | (refine Ret.mk ?_))
  have hw : win (l.flatMap cellP) (0 * 3) ((l.length - 0) * 3) = l.flatMap cellP := by
    simp only [win, Nat.zero_mul, List.drop_zero, Nat.sub_zero, ← hf, List.take_length]
  exact congrArg (fun z => V.d (.list l.length z)) hw
theorem s_Join_bad (l : List Int) (hz : chkDays l ≠ 0) : Fc E n_calendar_Join [LI l] (.tup [LP [], I (chkDays l)]) := by
  refine g.fn code_calendar_Join rfl ?_
  by_cases h2 : 512 < l.length
  · repeat' ((conv => whnf); first
  | refine Br.tt ?_
  | refine Br.ff ?_
  | refine Need.w ?_
  | refine Wr.w ?_
  | refine Cmp.t ?_
  | refine Cmp.f ?_
  | refine Rem.w ?_
  | refine Quo.w ?_
  | refine PickV.now rfl ?_
  | refine Pick.now rfl ?_
  | refine Chk.mk rfl ?_
  | refine PickW.w rfl ?_
      | (refine Ret.mk ?_))
    simp [chkDays, h2]
  · have hc : chkDays l = firstN (errD l) 0 (l.length - 0) := by simp [chkDays, h2]
    repeat' ((conv => whnf); first
    | refine Br.tt ?_
    | refine Br.ff ?_
    | refine Need.w ?_
    | refine Wr.w ?_
    | refine Cmp.t ?_
    | refine Cmp.f ?_
    | refine Rem.w ?_
    | refine Quo.w ?_
    | refine PickV.now rfl ?_
    | refine Pick.now rfl ?_
    | refine Chk.mk rfl ?_
    | refine PickW.w rfl ?_)
    refine LoopW.to (LoopW.upP g (fun k => [(0, LI l), (19, LI l), (20, I l.length), (21, I k)]) (fun _ => []) (invD l) l.length (fun k hk hp ih => ?_) 0 (Nat.zero_le _) rfl) rfl rfl
    by_cases hlt : k < l.length
    · have hb := invD_bad hlt hp
      have hgd := invD_good hlt hp
      have r1 := @rng_zero (l.getD k 0) 0 99999
      have ez := @errD_zero l k
      have he : errD l k = if rng (l.getD k 0) 0 99999 ≠ 0 then 3 else if 0 < k ∧ l.getD k 0 ≤ l.getD (k - 1) 0 then 11 else 0 := rfl
      have cd := s_checkDay g (l.getD k 0)
      have r3 : rng (l.getD k 0) 0 99999 = 0 ∨ rng (l.getD k 0) 0 99999 = 3 := by unfold rng; split <;> simp
      by_cases e0 : errD l k = 0
      · have ez' := ez.1 e0
        rw [r1.2 ez'.1] at cd
        have hgd := hgd e0
        cases k with
        | zero =>
          repeat' ((conv => whnf); first
          | refine Br.tt ?_
          | refine Br.ff ?_
          | refine Need.w ?_
          | refine Wr.w ?_
          | refine Cmp.t ?_
          | refine Cmp.f ?_
          | refine Rem.w ?_
          | refine Quo.w ?_
          | refine PickV.now rfl ?_
          | refine Pick.now rfl ?_
          | refine Chk.mk rfl ?_
          | refine PickW.w rfl ?_
            | (apply CallI.of; assumption)
            | (refine Pick.at 0 (by omega) (by omega) ?_)
            | (refine CallI.of (s_when g _ _) ?_)
            | (refine CallI.of (s_first2 g _ _) ?_)
            | (refine LoopW.to (ih hlt hgd) rfl rfl))
        | succ j =>
          rw [Nat.add_sub_cancel] at ez'
          repeat' ((conv => whnf); first
          | refine Br.tt ?_
          | refine Br.ff ?_
          | refine Need.w ?_
          | refine Wr.w ?_
          | refine Cmp.t ?_
          | refine Cmp.f ?_
          | refine Rem.w ?_
          | refine Quo.w ?_
          | refine PickV.now rfl ?_
          | refine Pick.now rfl ?_
          | refine Chk.mk rfl ?_
          | refine PickW.w rfl ?_
            | (apply CallI.of; assumption)
            | (refine Pick.at (j + 1) (by omega) (by omega) ?_)
            | (refine Pick.at j (by omega) (by omega) ?_)
            | (refine CallI.of (s_when g _ _) ?_)
            | (refine CallI.of (s_first2 g _ _) ?_)
            | (refine LoopW.to (ih hlt hgd) rfl rfl))
      · have hb := hb e0
        rw [← hc] at hb
        rw [hb]
        rcases r3 with r3 | r3
        · rw [r3] at cd
          rw [if_neg (fun h => h r3)] at he
          cases k with
          | zero => exact absurd (he.trans (by simp)) e0
          | succ j =>
            rw [Nat.add_sub_cancel] at he
            have hle : l.getD (j + 1) 0 ≤ l.getD j 0 := Classical.byContradiction fun h => e0 (he.trans (if_neg (fun hh => h hh.2)))
            rw [if_pos ⟨by omega, hle⟩] at he
            rw [he]
            repeat' ((conv => whnf); first
            | refine Br.tt ?_
            | refine Br.ff ?_
            | refine Need.w ?_
            | refine Wr.w ?_
            | refine Cmp.t ?_
            | refine Cmp.f ?_
            | refine Rem.w ?_
            | refine Quo.w ?_
            | refine PickV.now rfl ?_
            | refine Pick.now rfl ?_
            | refine Chk.mk rfl ?_
            | refine PickW.w rfl ?_
              | (apply CallI.of; assumption)
              | (refine Pick.at (j + 1) (by omega) (by omega) ?_)
              | (refine Pick.at j (by omega) (by omega) ?_)
              | (refine CallI.of (s_when g _ _) ?_)
              | (refine CallI.of (s_first2 g _ _) ?_)
              | (refine Ret.mk rfl))
        · rw [r3] at cd
          rw [if_pos (by rw [r3]; decide)] at he
          rw [he]
          cases k with
          | zero =>
            repeat' ((conv => whnf); first
            | refine Br.tt ?_
            | refine Br.ff ?_
            | refine Need.w ?_
            | refine Wr.w ?_
            | refine Cmp.t ?_
            | refine Cmp.f ?_
            | refine Rem.w ?_
            | refine Quo.w ?_
            | refine PickV.now rfl ?_
            | refine Pick.now rfl ?_
            | refine Chk.mk rfl ?_
            | refine PickW.w rfl ?_
              | (apply CallI.of; assumption)
              | (refine Pick.at 0 (by omega) (by omega) ?_)
              | (refine CallI.of (s_when g _ _) ?_)
              | (refine CallI.of (s_first2 g _ _) ?_)
              | (refine Ret.mk rfl))
          | succ j =>
            repeat' ((conv => whnf); first
            | refine Br.tt ?_
            | refine Br.ff ?_
            | refine Need.w ?_
            | refine Wr.w ?_
            | refine Cmp.t ?_
            | refine Cmp.f ?_
            | refine Rem.w ?_
            | refine Quo.w ?_
            | refine PickV.now rfl ?_
            | refine Pick.now rfl ?_
            | refine Chk.mk rfl ?_
            | refine PickW.w rfl ?_
              | (apply CallI.of; assumption)
              | (refine Pick.at (j + 1) (by omega) (by omega) ?_)
              | (refine Pick.at j (by omega) (by omega) ?_)
              | (refine CallI.of (s_when g _ _) ?_)
              | (refine CallI.of (s_first2 g _ _) ?_)
              | (refine Cmp.mk (fun h => ?_) (fun h => ?_))
              | (refine Rem.any (by omega) (fun r hr he => ?_))
              | (refine Br.mk (fun h => ?_) (fun h => ?_))
              | (refine Ret.mk rfl))
    · exact absurd (by rw [hc, hp, firstN_end _ (by omega)]) hz
set_option maxHeartbeats 4000000 in
theorem s_Join_ok (l : List Int) (hz : chkDays l = 0) : Fc E n_calendar_Join [LI l] (.tup [LP (joinL l), I 0]) := by
  refine g.fn code_calendar_Join rfl ?_
  have hlen := (chkDays_zero.1 hz).1
  repeat' ((conv => whnf); first
  | refine Br.tt ?_
  | refine Br.ff ?_
  | refine Need.w ?_
  | refine Wr.w ?_
  | refine Cmp.t ?_
  | refine Cmp.f ?_
  | refine Rem.w ?_
  | refine Quo.w ?_
  | refine PickV.now rfl ?_
  | refine Pick.now rfl ?_
  | refine Chk.mk rfl ?_
  | refine PickW.w rfl ?_)
  refine LoopW.to (LoopW.up g (fun k => [(0, LI l), (19, LI l), (20, I l.length), (21, I k)]) (fun _ => []) l.length (fun k hk ih => ?_) 0 (Nat.zero_le _)) rfl rfl
  by_cases hlt : k < l.length
  · have ez := errD_zero.1 ((chkDays_zero.1 hz).2 k hlt)
    have cd := s_checkDay g (l.getD k 0)
    rw [rng_zero.2 ez.1] at cd
    cases k with
    | zero =>
      repeat' ((conv => whnf); first
      | refine Br.tt ?_
      | refine Br.ff ?_
      | refine Need.w ?_
      | refine Wr.w ?_
      | refine Cmp.t ?_
      | refine Cmp.f ?_
      | refine Rem.w ?_
      | refine Quo.w ?_
      | refine PickV.now rfl ?_
      | refine Pick.now rfl ?_
      | refine Chk.mk rfl ?_
      | refine PickW.w rfl ?_
        | (apply CallI.of; assumption)
        | (refine Pick.at 0 (by omega) (by omega) ?_)
        | (refine CallI.of (s_when g _ _) ?_)
        | (refine CallI.of (s_first2 g _ _) ?_)
        | (refine LoopW.to (ih hlt) rfl rfl))
    | succ j =>
      rw [Nat.add_sub_cancel] at ez
      repeat' ((conv => whnf); first
      | refine Br.tt ?_
      | refine Br.ff ?_
      | refine Need.w ?_
      | refine Wr.w ?_
      | refine Cmp.t ?_
      | refine Cmp.f ?_
      | refine Rem.w ?_
      | refine Quo.w ?_
      | refine PickV.now rfl ?_
      | refine Pick.now rfl ?_
      | refine Chk.mk rfl ?_
      | refine PickW.w rfl ?_
        | (apply CallI.of; assumption)
        | (refine Pick.at (j + 1) (by omega) (by omega) ?_)
        | (refine Pick.at j (by omega) (by omega) ?_)
        | (refine CallI.of (s_when g _ _) ?_)
        | (refine CallI.of (s_first2 g _ _) ?_)
        | (refine LoopW.to (ih hlt) rfl rfl))
  · repeat' ((conv => whnf); first
  | refine Br.tt ?_
  | refine Br.ff ?_
  | refine Need.w ?_
  | refine Wr.w ?_
  | refine Cmp.t ?_
  | refine Cmp.f ?_
  | refine Rem.w ?_
  | refine Quo.w ?_
  | refine PickV.now rfl ?_
  | refine Pick.now rfl ?_
  | refine Chk.mk rfl ?_
  | refine PickW.w rfl ?_)
    refine LoopW.to (LoopW.up g (fun k => [(0, LI l), (7, .mp ⟨0, 47, 0⟩), (48, LI l), (49, I l.length), (50, I k)]) (fun k => [(⟨0, 47, 0⟩, .map (toE (mapN l k)))]) l.length (fun k hk ih => ?_) 0 (Nat.zero_le _)) rfl rfl
    by_cases hlt : k < l.length
    · have hd := day_range hz hlt
      have cw := s_weekOf g (l.getD k 0) (by omega)
      have cwd := s_weekday g (l.getD k 0) (by omega)
      have hps := pow_small ((l.getD k 0 + 5) % 7) (by omega)
      have hml := mask_lt hz (wkD (l.getD k 0)) (l.getD k 0) ⟨rfl, hd.1⟩ k (by omega) (fun i hi => day_lt hz hi hlt)
      have hor := or_bit' (maskN l (wkD (l.getD k 0)) k) ((l.getD k 0 + 5) % 7) hml (by omega)
      have hm : maskN l (wkD (l.getD k 0)) (k + 1) = maskN l (wkD (l.getD k 0)) k + 2 ^ ((l.getD k 0 + 5) % 7).toNat := by
        show _ + (if wkD (l.getD k 0) = wkD (l.getD k 0) then _ else _) = _
        rw [if_pos rfl]
      have hmk : mapN l (k + 1) = setA (wkD (l.getD k 0)) (maskN l (wkD (l.getD k 0)) (k + 1)) (mapN l k) := rfl
      repeat' ((conv => whnf); first
      | refine Br.tt ?_
      | refine Br.ff ?_
      | refine Need.w ?_
      | refine Wr.w ?_
      | refine Cmp.t ?_
      | refine Cmp.f ?_
      | refine Rem.w ?_
      | refine Quo.w ?_
      | refine PickV.now rfl ?_
      | refine Pick.now rfl ?_
      | refine Chk.mk rfl ?_
      | refine PickW.w rfl ?_
        | (apply CallI.of; assumption)
        | (refine Pick.at k (by omega) (by omega) ?_)
        | (refine Find.mk ⟨_, findE_toE _ _, ?_⟩; rw [outV_toE, mapN_look])
        | (refine Wr.keep hps ?_)
        | (refine SetW.mk ⟨_, setE_toE _ _ _, ?_⟩)
        | (refine LoopW.to (ih hlt) rfl ?_))
      rw [hmk, hm, ← hor]
    · have hk' : k = l.length := by omega
      subst hk'
      clear ih hk hlt
      repeat' ((conv => whnf); first
      | refine Br.tt ?_
      | refine Br.ff ?_
      | refine Need.w ?_
      | refine Wr.w ?_
      | refine Cmp.t ?_
      | refine Cmp.f ?_
      | refine Rem.w ?_
      | refine Quo.w ?_
      | refine PickV.now rfl ?_
      | refine Pick.now rfl ?_
      | refine Chk.mk rfl ?_
      | refine PickW.w rfl ?_)
      refine LoopW.to (LoopW.by g (fun i => i ≤ l.length ∧ (i < l.length → jn l i = (outs l i, (l.getD i 0, l.getD i 0, maskW l (wkD (l.getD i 0))), 1)))
        (fun i => [(0, LI l), (7, .mp ⟨0, 47, 0⟩), (10, .ref ⟨0, 10, 0⟩ 0 (outs l i).length (outs l i).length), (11, I i)])
        (fun i => [(⟨0, 47, 0⟩, .map (toE (mapN l l.length))), (⟨0, 10, 0⟩, .row false ty_api_Period 3 (outs l i).length ((outs l i).flatMap cellP))]) (fun i => l.length - i) (fun i hi ih => ?_) 0 ⟨Nat.zero_le _, fun _ => rfl⟩) rfl rfl
      by_cases hlt : i < l.length
      · have hd := day_range hz hlt
        have cw := s_weekOf g (l.getD i 0) (by omega)
        have hjn := hi.2 hlt
        have hol := outs_length l i
        repeat' ((conv => whnf); first
        | refine Br.tt ?_
        | refine Br.ff ?_
        | refine Need.w ?_
        | refine Wr.w ?_
        | refine Cmp.t ?_
        | refine Cmp.f ?_
        | refine Rem.w ?_
        | refine Quo.w ?_
        | refine PickV.now rfl ?_
        | refine Pick.now rfl ?_
        | refine Chk.mk rfl ?_
        | refine PickW.w rfl ?_
          | (apply CallI.of; assumption)
          | (refine Pick.at i (by omega) (by omega) ?_)
          | (refine Find.mk ⟨_, findE_toE _ _, ?_⟩; rw [outV_toE, mapN_look]))
        refine LoopW.step g.lim ?_
        repeat' ((conv => whnf); first
        | refine Br.tt ?_
        | refine Br.ff ?_
        | refine Need.w ?_
        | refine Wr.w ?_
        | refine Cmp.t ?_
        | refine Cmp.f ?_
        | refine Rem.w ?_
        | refine Quo.w ?_
        | refine PickV.now rfl ?_
        | refine Pick.now rfl ?_
        | refine Chk.mk rfl ?_
        | refine PickW.w rfl ?_
          | (apply CallI.of; assumption)
          | (refine Pick.at i (by omega) (by omega) ?_)
          | (refine Cmp.tt rfl ?_))
        refine LoopW.to (LoopW.by g (fun e => i ≤ e ∧ e < l.length ∧ (jn l e).1 = outs l i ∧ (jn l e).2.2 = wkD (l.getD e 0) - wkD (l.getD i 0) + 1)
          (fun e => [(0, LI l), (7, .mp ⟨0, 47, 0⟩), (10, .ref ⟨0, 10, 0⟩ 0 (outs l i).length (outs l i).length), (11, I (e + 1 : Nat)), (12, I (wkD (l.getD i 0))), (13, .ptr ⟨0, 13, 0⟩ 0 0), (14, I (wkD (l.getD e 0)))])
          (fun e => [(⟨0, 47, 0⟩, .map (toE (mapN l l.length))), (⟨0, 10, 0⟩, .row false ty_api_Period 3 (outs l i).length ((outs l i).flatMap cellP)), (⟨0, 13, 0⟩, .cells ty_api_Period [I (jn l e).2.1.1, I (jn l e).2.1.2.1, I (jn l e).2.1.2.2])]) (fun e => l.length - e) (fun e he ih2 => ?_) i ⟨Nat.le_refl _, hlt, by rw [hjn], by rw [hjn]; simp⟩) ?_ ?_
        · obtain ⟨h1, h2, h3, h4⟩ := he
          have ho : outs l (e + 1) = outs l i ++ [(jn l e).2.1] := by show (jn l e).1 ++ _ = _; rw [h3]
          have hde := day_range hz h2
          have hjl := jn_length l e
          have hfin : ∀ {K : Ex → Env → Mem → Prop}, (e + 1 < l.length → jn l (e + 1) = ((jn l e).1 ++ [(jn l e).2.1], (l.getD (e + 1) 0, l.getD (e + 1) 0, maskW l (wkD (l.getD (e + 1) 0))), 1)) → (e + 1 ≤ l.length ∧ (e + 1 < l.length → jn l (e + 1) = (outs l (e + 1), (l.getD (e + 1) 0, l.getD (e + 1) 0, maskW l (wkD (l.getD (e + 1) 0))), 1))) := fun h => ⟨by omega, fun hh => by rw [h hh]; rfl⟩
          by_cases hlt2 : e + 1 < l.length
          · have hd2 := day_range hz hlt2
            have cw2 := s_weekOf g (l.getD (e + 1) 0) (by omega)
            have hjw := jn_weeks l e
            have hwr := wkD_def (l.getD e 0)
            have hwr2 := wkD_def (l.getD (e + 1) 0)
            have hwr3 := wkD_def (l.getD i 0)
            have hjn2 : jn l (e + 1) = if wkD (l.getD e 0) = wkD (l.getD (e + 1) 0) then ((jn l e).1, ((jn l e).2.1.1, l.getD (e + 1) 0, (jn l e).2.1.2.2), (jn l e).2.2)
              else if wkD (l.getD e 0) = wkD (l.getD (e + 1) 0) - 1 ∧ (jn l e).2.1.2.2 = maskW l (wkD (l.getD (e + 1) 0)) ∧ (jn l e).2.2 < 57 then ((jn l e).1, ((jn l e).2.1.1, l.getD (e + 1) 0, (jn l e).2.1.2.2), (jn l e).2.2 + 1)
              else ((jn l e).1 ++ [(jn l e).2.1], (l.getD (e + 1) 0, l.getD (e + 1) 0, maskW l (wkD (l.getD (e + 1) 0))), 1) := rfl
            have ih3 := ih2 (e + 1)
            by_cases c1 : wkD (l.getD e 0) = wkD (l.getD (e + 1) 0)
            · rw [if_pos c1] at hjn2
              simp only [hjn2] at ih3
              repeat' ((conv => whnf); first
              | refine Br.tt ?_
              | refine Br.ff ?_
              | refine Need.w ?_
              | refine Wr.w ?_
              | refine Cmp.t ?_
              | refine Cmp.f ?_
              | refine Rem.w ?_
              | refine Quo.w ?_
              | refine PickV.now rfl ?_
              | refine Pick.now rfl ?_
              | refine Chk.mk rfl ?_
              | refine PickW.w rfl ?_
                | (apply CallI.of; assumption)
                | (refine Pick.at (e + 1) (by omega) (by omega) ?_)
                | (refine LoopW.to (ih3 ⟨by omega, by omega, h3, by omega⟩ (by omega)) ?_ ?_))
              · rw [c1]; rfl
              · rfl
            · rw [if_neg c1] at hjn2
              by_cases c2 : wkD (l.getD e 0) = wkD (l.getD (e + 1) 0) - 1 ∧ (jn l e).2.1.2.2 = maskW l (wkD (l.getD (e + 1) 0)) ∧ (jn l e).2.2 < 57
              · rw [if_pos c2] at hjn2
                simp only [hjn2] at ih3
                repeat' ((conv => whnf); first
                | refine Br.tt ?_
                | refine Br.ff ?_
                | refine Need.w ?_
                | refine Wr.w ?_
                | refine Cmp.t ?_
                | refine Cmp.f ?_
                | refine Rem.w ?_
                | refine Quo.w ?_
                | refine PickV.now rfl ?_
                | refine Pick.now rfl ?_
                | refine Chk.mk rfl ?_
                | refine PickW.w rfl ?_
                  | (apply CallI.of; assumption)
                  | (refine Pick.at (e + 1) (by omega) (by omega) ?_)
                  | (refine Find.mk ⟨_, findE_toE _ _, ?_⟩; rw [outV_toE, mapN_look])
                  | (refine Cmp.tt c2.2.1.symm ?_)
                  | (refine LoopW.to (ih3 ⟨by omega, by omega, h3, by omega⟩ (by omega)) ?_ ?_))
                all_goals rfl
              · have c3 : ¬ (wkD (l.getD e 0) = wkD (l.getD (e + 1) 0) - 1 ∧ (jn l e).2.1.2.2 = maskN l (wkD (l.getD (e + 1) 0)) l.length ∧ (jn l e).2.2 < 57) := c2
                rw [if_neg c2] at hjn2
                have hf := hfin (K := fun _ _ _ => True) (fun _ => hjn2)
                repeat' ((conv => whnf); first
                | refine Br.tt ?_
                | refine Br.ff ?_
                | refine Need.w ?_
                | refine Wr.w ?_
                | refine Cmp.t ?_
                | refine Cmp.f ?_
                | refine Rem.w ?_
                | refine Quo.w ?_
                | refine PickV.now rfl ?_
                | refine Pick.now rfl ?_
                | refine Chk.mk rfl ?_
                | refine PickW.w rfl ?_
                  | (apply CallI.of; assumption)
                  | (refine Pick.at (e + 1) (by omega) (by omega) ?_)
                  | (refine Find.mk ⟨_, findE_toE _ _, ?_⟩; rw [outV_toE, mapN_look])
                  | (refine Need.mk (by simp; omega) ?_)
                  | (refine Cmp.mk (fun h => ?_) (fun h => ?_))
                  | (refine Rem.any (by omega) (fun r hr he => ?_))
                  | (refine Br.mk (fun h => ?_) (fun h => ?_))
                  | (refine LoopW.to (ih (e + 1) hf (by omega)) ?_ ?_)
                  | (simp only [Evl.idsAll, Evl.idsO, idsM_toE, List.nil_append])
                  | (exfalso; omega))
                all_goals first
                  | (simp only [ho, List.length_append, List.length_singleton]; rfl)
                  | (simp [ho, cellP, List.flatMap_append]; done)
          · have hf := hfin (K := fun _ _ _ => True) (fun h => absurd h hlt2)
            repeat' ((conv => whnf); first
            | refine Br.tt ?_
            | refine Br.ff ?_
            | refine Need.w ?_
            | refine Wr.w ?_
            | refine Cmp.t ?_
            | refine Cmp.f ?_
            | refine Rem.w ?_
            | refine Quo.w ?_
            | refine PickV.now rfl ?_
            | refine Pick.now rfl ?_
            | refine Chk.mk rfl ?_
            | refine PickW.w rfl ?_
              | (apply CallI.of; assumption)
              | (refine Need.mk (by simp; omega) ?_)
              | (refine LoopW.to (ih (e + 1) hf (by omega)) ?_ ?_)
              | (simp only [Evl.idsAll, Evl.idsO, idsM_toE, List.nil_append]))
            all_goals first
              | (simp only [ho, List.length_append, List.length_singleton]; rfl)
              | (simp [ho, cellP, List.flatMap_append]; done)
        · rfl
        · rw [hjn]; rfl
      · have hi' : i = l.length := by omega
        have cl := s_Clip g (outs l l.length)
        subst hi'
        repeat' ((conv => whnf); first
        | refine Br.tt ?_
        | refine Br.ff ?_
        | refine Need.w ?_
        | refine Wr.w ?_
        | refine Cmp.t ?_
        | refine Cmp.f ?_
        | refine Rem.w ?_
        | refine Quo.w ?_
        | refine PickV.now rfl ?_
        | refine Pick.now rfl ?_
        | refine Chk.mk rfl ?_
        | refine PickW.w rfl ?_
          | (refine CallI.of (r := LP (outs l l.length)) (by rw [if_pos ⟨rfl, rfl⟩]; exact cl) ?_)
          | (refine Ret.mk rfl))
end
end Go.Proofs.YtddpjjaebkaggabGreatDoor.Co
