/-
  TopChockNewcomers: what its law leans on, part 1.
-/
import Derived.KernelRfl
import Derived.Laws.RangeAny
import Derived.Lib.SplitLaws
import Derived.Test.YtlnlcdnpgjhaaacGreatDoorEvE
import Derived.Test.YtlnlcdnpgjhaaacGreatDoorEvX
import Derived.Test.YtlnlcdnpgjhaaacGreatDoorGood
import Derived.Test.YtlnlcdnpgjhaaacGreatDoorRead
/-
 Ways to show what a function of the program gives: how data stand for Go's values; steps; loops.
-/
namespace Go.Proofs.YtlnlcdnpgjhaaacGreatDoor.Co
open Go Go.Evl
abbrev I (x : Int) : V := .d (.int .i64 x)
abbrev B (b : Bool) : V := .d (.bool b)
abbrev S (s : List UInt8) : V := .d (.str s)
abbrev DI (x : Int) : D := .int .i64 x
abbrev LI (l : List Int) : V := .d (.list l.length (l.map DI))
abbrev Per (a b c : Int) : V := .d (.agg [DI a, DI b, DI c])
theorem wrap_id {x : Int} (h : -9223372036854775808 ≤ x ∧ x ≤ 9223372036854775807) : IntKind.i64.wrap x = x := by
 have hb : IntKind.i64.wrap x = (if x % 18446744073709551616 ≥ 9223372036854775808 then x % 18446744073709551616 - 18446744073709551616 else x % 18446744073709551616) := by
  simp [IntKind.wrap, IntKind.signed, IntKind.bits]
 rw [hb]
 split <;> omega
section
variable {E : Oracle}
theorem Wr.keep {x : Int} {K : Int → Prop} (h : -9223372036854775808 ≤ x ∧ x ≤ 9223372036854775807) (k : K x) : Wr .i64 x K := ⟨by rw [wrap_id h]; exact k⟩
theorem Br.tt {a b : Prop} (h : a) : Br true a b := ⟨fun _ => h, fun h => nomatch h⟩
theorem Br.ff {a b : Prop} (h : b) : Br false a b := ⟨fun h => (nomatch h), fun _ => h⟩
theorem Cmp.tt {p a b : Prop} (hp : p) (h : a) : Cmp p a b := ⟨fun _ => h, fun hn => absurd hp hn⟩
theorem Cmp.ff {p a b : Prop} (hp : ¬ p) (h : b) : Cmp p a b := ⟨fun hn => absurd hn hp, fun _ => h⟩
theorem Rem.pos {a b : Int} {K : Int → Prop} (hb : 0 < b ∧ 0 ≤ a) (k : K (a % b)) : Rem a b K := ⟨by omega, by rw [Int.tmod_eq_emod_of_nonneg hb.2]; exact k⟩
theorem Rem.any {a b : Int} {K : Int → Prop} (hb : 0 < b) (k : ∀ r, -b < r ∧ r < b → r = a.tmod b → K r) : Rem a b K :=
 by
 refine ⟨by omega, k _ ⟨?_, Int.tmod_lt_of_pos a hb⟩ rfl⟩
 rw [Int.tmod_eq_emod]
 have h1 := Int.emod_nonneg a (show b ≠ 0 by omega)
 have h2 := Int.emod_lt_of_pos a hb
 split
 ·omega
 ·rename_i hn
  have : a % b ≠ 0 := fun e => hn (.inr (Int.dvd_of_emod_eq_zero e))
  omega
theorem Quo.pos {a b : Int} {K : Int → Prop} (hb : 0 < b ∧ 0 ≤ a ∧ a ≤ 9223372036854775807) (k : K (a / b)) : Quo .i64 a b K := by
 have h1 : a / b ≤ a := Int.ediv_le_self b hb.2.1
 have h2 : 0 ≤ a / b := Int.ediv_nonneg hb.2.1 (by omega)
 exact ⟨by omega, by rw [Int.tdiv_eq_ediv_of_nonneg hb.2.1, wrap_id (by omega)]; exact k⟩
theorem Pick.now {cs : List D} {off : Nat} {K : D → Prop} {d : D} (h : cs[off]? = some d) (k : K d) : Pick cs off K := ⟨⟨d, h, k⟩⟩
theorem PickV.now {cs : List V} {off : Nat} {K : V → Prop} {d : V} (h : cs[off]? = some d) (k : K d) : PickV cs off K := ⟨⟨d, h, k⟩⟩
theorem PickW.now {cs ds : List D} {off n : Nat} {K : List D → Prop} (hl : off + n ≤ cs.length) (h : win cs off n = ds) (k : K ds) : PickW cs off n K := ⟨hl, by rw [h]; exact k⟩
theorem Ya {a b : Prop} (h : a) : Br true a b := Br.tt h
theorem Yb {a b : Prop} (h : b) : Br false a b := Br.ff h
theorem Yi {cs : List V} {off : Nat} {K : V → Prop} {d : V} (h : cs[off]? = some d) (k : K d) : PickV cs off K := PickV.now h k
theorem Yj {cs : List D} {off : Nat} {K : D → Prop} {d : D} (h : cs[off]? = some d) (k : K d) : Pick cs off K := Pick.now h k
theorem Yk {b : Bool} {k : Prop} (h : b = true) (hk : k) : Chk b k := ⟨h, hk⟩
theorem Yc' {p k : Prop} (hp : p) (h : k) : Need p k := ⟨hp, h⟩
theorem Yz {p q : Prop} (k : q) (h : q → p := by first | exact Ya | exact Yb | exact Yc' (by first | omega | (simp; done) | (simp; omega)) | exact Wr.keep (by omega) | exact Cmp.tt (by first | omega | decide) | exact Cmp.ff (by first | omega | decide) | exact Rem.pos (by omega) | exact Quo.pos (by omega) | exact Yi rfl | exact Yj rfl | exact Yk rfl | exact PickW.now (by first | omega | decide) rfl) : p := h k
theorem Bounds.at {n : Nat} {l h : Int} {K : Nat → Nat → Prop} (a b : Nat) (hl : l = a) (hh : h = b) (hb : a ≤ b ∧ b ≤ n) (k : K a b) : Bounds n l h K := by
 subst hl
 subst hh
 exact ⟨by omega, k⟩
theorem Pick.int {l : List Int} {i : Int} {K : D → Prop} (h : 0 ≤ i ∧ i < l.length) (k : K (DI (l.getD i.toNat 0))) : Pick (l.map DI) (i.toNat * 1) K := by
 refine ⟨⟨_, ?_, k⟩⟩
 have hi : i.toNat < l.length := by omega
 simp [List.getD, hi]
theorem Pick.int0 {l : List Int} {i : Int} {K : D → Prop} (h : 0 ≤ i ∧ i < l.length) (k : K (DI (l.getD i.toNat 0))) : Pick (l.map DI) ((0 + i.toNat) * 1) K := by
 refine ⟨⟨_, ?_, k⟩⟩
 have hi : i.toNat < l.length := by omega
 simp [List.getD, hi]
theorem LoopW.to {cx : Cx} {live : List Nat} {keep : List Evl.Id} {body : C} {e1 e2 : Env} {m1 m2 : Mem} {K : Ex → Env → Mem → Prop} (h : LoopW E cx live keep body e1 m1 K) (he : e1 = e2) (hm : m1 = m2) : LoopW E cx live keep body e2 m2 K := by
 subst he; subst hm; exact h
theorem LoopW.up (g : Good E) {cx : Cx} {live : List Nat} {keep : List Evl.Id} {body : C} {K : Ex → Env → Mem → Prop} (env : Nat → Env) (mem : Nat → Mem) (b : Nat)
  (h : ∀ k, k ≤ b → (k < b → LoopW E cx live keep body (env (k + 1)) (mem (k + 1)) K) → wpC E cx body (env k) (mem k) (againK E cx live keep body K)) : ∀ a, a ≤ b → LoopW E cx live keep body (env a) (mem a) K := by
 have key : ∀ n a, a + n = b → LoopW E cx live keep body (env a) (mem a) K := by
  intro n
  induction n with
  | zero => exact fun a ha => LoopW.step g.lim (h a (by omega) fun hlt => absurd hlt (by omega))
  | succ n ih => exact fun a ha => LoopW.step g.lim (h a (by omega) fun _ => ih (a + 1) (by omega))
 exact fun a ha => key (b - a) a (by omega)
theorem LoopW.upP (g : Good E) {cx : Cx} {live : List Nat} {keep : List Evl.Id} {body : C} {K : Ex → Env → Mem → Prop} (env : Nat → Env) (mem : Nat → Mem) (P : Nat → Prop) (b : Nat)
  (h : ∀ k, k ≤ b → P k → (k < b → P (k + 1) → LoopW E cx live keep body (env (k + 1)) (mem (k + 1)) K) → wpC E cx body (env k) (mem k) (againK E cx live keep body K)) : ∀ a, a ≤ b → P a → LoopW E cx live keep body (env a) (mem a) K := by
 have key : ∀ n a, a + n = b → P a → LoopW E cx live keep body (env a) (mem a) K := by
  intro n
  induction n with
  | zero => exact fun a ha hp => LoopW.step g.lim (h a (by omega) hp fun hlt => absurd hlt (by omega))
  | succ n ih => exact fun a ha hp => LoopW.step g.lim (h a (by omega) hp fun _ hp' => ih (a + 1) (by omega) hp')
 exact fun a ha => key (b - a) a (by omega)
theorem LoopW.by {σ : Type} (g : Good E) {cx : Cx} {live : List Nat} {keep : List Evl.Id} {body : C} {K : Ex → Env → Mem → Prop} (inv : σ → Prop) (env : σ → Env) (mem : σ → Mem) (μ : σ → Nat)
  (h : ∀ s, inv s → (∀ s', inv s' → μ s' < μ s → LoopW E cx live keep body (env s') (mem s') K) → wpC E cx body (env s) (mem s) (againK E cx live keep body K)) : ∀ s, inv s → LoopW E cx live keep body (env s) (mem s) K := by
 have key : ∀ n s, μ s < n → inv s → LoopW E cx live keep body (env s) (mem s) K := by
  intro n
  induction n with
  | zero => exact fun s hs => absurd hs (Nat.not_lt_zero _)
  | succ n ih => exact fun s hs hi => LoopW.step g.lim (h s hi fun s' hi' hlt => ih s' (by omega) hi')
 exact fun s hi => key (μ s + 1) s (Nat.lt_succ_self _) hi
theorem Good.fn (g : Good E) {f : Nat} {args : List V} {r : V} {cf : CF} (hc : code f = some cf) (hX : ext f = none) (h : bodyW E 0 cf args [] fun v m' => thawW m' v fun d => Ret d r) : Fc E f args r := Fc.enter g.lim hX hc h
def sameR : V → V → Bool
 | .d a, .d b => sameD a b
 | .tup as1, .tup bs =>
  match allD as1, allD bs with
  | some xs, some ys => sameDL xs ys
  | _, _ => false
 | _, _ => false
theorem sameR_eq (a b : V) (h : sameR a b = true) : a = b := by
 unfold sameR at h
 split at h
 ·rw [sameD_eq _ _ h]
 ·split at h
  ·rename_i h1 h2
   rw [sameDL_eq _ _ h] at h1
   rw [allD_eq _ _ _ h1 h2]
  ·cases h
 ·cases h
def isRes (o : Option Res) (r : V) : Bool :=
 match o with
 | some (.val v m) =>
  (match thaw m v with
  | some x => sameR x r
  | none => false)
 | _ => false
theorem Good.compR (g : Good E) (n : Nat) {f : Nat} {args : List V} {r : V} (h : isRes (iter code ext n (.call 0 f args [])) r = true) : Fc E f args r := by
 cases hr : iter code ext n (.call 0 f args []) with
 | none => rw [hr] at h; cases h
 | some x =>
  rw [hr] at h
  unfold isRes at h
  split at h
  ·rename_i v m e
   obtain rfl := Option.some.inj e
   split at h
   ·rename_i y hy
    exact ⟨_, _, g.lim.of_iter n _ _ hr, by rw [hy, sameR_eq _ _ h]⟩
   ·cases h
  ·cases h
end
end Go.Proofs.YtlnlcdnpgjhaaacGreatDoor.Co
/-
 Names as the keys of a map, and the lists of names.
-/
namespace Go.Proofs.YtlnlcdnpgjhaaacGreatDoor.Co
open Go Go.Evl
open Go Go.Evl
theorem settle_row {cx : Cx} {slot lo : Nat} {old m : Mem} {o : Evl.Id} {off l top : Nat} {wr : Bool} {t sz n : Nat} {xs : List D} (hlo : lo ≤ o.lv) (hl : Evl.look m o = some (.row wr t sz n xs)) :
  Go.Evl.settle cx slot lo old m (.ref o off l top) = some (.ref ⟨cx.lv, slot, Go.Evl.freeK cx.lv slot old⟩ off l top, old ++ [(⟨cx.lv, slot, Go.Evl.freeK cx.lv slot old⟩, .row wr t sz n xs)]) := by
 have hr : Go.Evl.reach lo m 64 (Go.Evl.ids (.ref o off l top)) [] = [o] := by
  simp [Go.Evl.ids, Go.Evl.reach, hlo, hl, Go.Evl.idsO]
 unfold Go.Evl.settle
 simp only [hr]
 rw [if_pos (by simp [Go.Evl.within, Go.Evl.movable, Go.Evl.onceB, Go.Evl.ids, hl, hlo, Go.Evl.idsO, Go.Evl.isLoop])]
 simp [Go.Evl.number, Go.Evl.ren, Go.Evl.subst, Go.Evl.moved, hl, Go.Evl.renO]
theorem Some'.row {cx : Cx} {slot lo : Nat} {old m : Mem} {o : Evl.Id} {off l top : Nat} {wr : Bool} {t sz n : Nat} {xs : List D} {K : V × Mem → Prop} (hlo : lo ≤ o.lv) (hl : Evl.look m o = some (.row wr t sz n xs))
  (k : K (.ref ⟨cx.lv, slot, Go.Evl.freeK cx.lv slot old⟩ off l top, old ++ [(⟨cx.lv, slot, Go.Evl.freeK cx.lv slot old⟩, .row wr t sz n xs)])) : Some' (Go.Evl.settle cx slot lo old m (.ref o off l top)) K := ⟨_, settle_row hlo hl, k⟩
end Go.Proofs.YtlnlcdnpgjhaaacGreatDoor.Co
/-
 Periods: errors, masks, moves: what the program's functions and the reference's give.
-/
namespace Go.Proofs.YtlnlcdnpgjhaaacGreatDoor.Co
open Go Go.Evl
def rng (n a b : Int) : Int := if n < a ∨ b < n then 3 else 0
def firstI : List Int → Int
 | [] => 0
 | x :: r => if x = 0 then firstI r else x
theorem rng_range (n a b : Int) : 0 ≤ rng n a b ∧ rng n a b ≤ 3 := by unfold rng; split <;> omega
theorem rng_zero {n a b : Int} : rng n a b = 0 ↔ a ≤ n ∧ n ≤ b := by unfold rng; split <;> omega
section
variable {E : Oracle} (g : Good E)
include g
theorem s_when (b : Bool) (e : Int) : Fc E n_calendar_when [B b, I e] (I (if b then e else 0)) := by
 refine g.fn rfl rfl ?_
 cases b
 all_goals repeat' ((conv => whnf); first
 | refine Yz ?_
  | (refine Ret.mk rfl))
theorem s_within (n a b : Int) : Fc E n_calendar_within [I n, I a, I b] (I (rng n a b)) := by
 refine g.fn rfl rfl ?_
 repeat' ((conv => whnf); first
 | refine Yz ?_
  | (refine Cmp.mk (fun h => ?_) (fun h => ?_)) | (refine Rem.any (by omega) (fun r hr he => ?_)) | (refine Br.mk (fun h => ?_) (fun h => ?_))
  | (refine CallI.of (s_when g _ _) ?_)
  | (refine Ret.mk ?_))
 all_goals (simp only [V.d.injEq, D.int.injEq, true_and, rng]; simp_all)
omit g in
theorem firstI_drop (l : List Int) (k : Nat) (h : k < l.length) : firstI (l.drop k) = if l.getD k 0 = 0 then firstI (l.drop (k + 1)) else l.getD k 0 := by
 rw [List.drop_eq_getElem_cons h]
 simp [firstI, List.getD, h]
theorem s_first (l : List Int) (hl : l.length ≤ 140737488355328) : Fc E n_calendar_first [LI l] (I (firstI l)) := by
 refine g.fn rfl rfl ?_
 conv => whnf
 refine LoopW.upP g (fun k => [(5, LI l), (6, I l.length), (7, I k)]) (fun _ => []) (fun k => firstI l = firstI (l.drop k)) l.length (fun k hk hp ih => ?_) 0 (Nat.zero_le _) (by simp)
 by_cases hlt : k < l.length
 ·have hd := firstI_drop l k hlt
  repeat' ((conv => whnf); first
  | refine Yz ?_
   | (refine Pick.int (by omega) ?_)
   | (refine Cmp.mk (fun h => ?_) (fun h => ?_)) | (refine Rem.any (by omega) (fun r hr he => ?_)) | (refine Br.mk (fun h => ?_) (fun h => ?_))
   | (refine LoopW.to (ih hlt ?_) ?_ rfl)
   | (refine Ret.mk ?_))
  all_goals simp_all
 ·have : l.drop k = [] := List.drop_eq_nil_of_le (by omega)
  repeat' ((conv => whnf); first
  | refine Yz ?_
   | (refine Ret.mk ?_))
  simp [hp, this, firstI]
theorem s_first2 (a b : Int) : Fc E n_calendar_first [.d (.list 2 [DI a, DI b])] (I (firstI [a, b])) := s_first g [a, b] (by simp)
theorem s_first3 (a b c : Int) : Fc E n_calendar_first [.d (.list 3 [DI a, DI b, DI c])] (I (firstI [a, b, c])) := s_first g [a, b, c] (by simp)
theorem s_checkDay (n : Int) : Fc E n_calendar_checkDay [I n] (I (rng n 0 99999)) := by
 refine g.fn rfl rfl ?_
 repeat' ((conv => whnf); first
 | refine Yz ?_
  | (refine CallI.of (s_within g _ _ _) ?_)
  | (refine Ret.mk rfl))
theorem r_CheckRange (n a b : Int) : Fc E n_ref01_CheckRange [I n, I a, I b] (I (rng n a b)) := by
 refine g.fn rfl rfl ?_
 repeat' ((conv => whnf); first
 | refine Yz ?_
  | (refine Cmp.mk (fun h => ?_) (fun h => ?_)) | (refine Rem.any (by omega) (fun r hr he => ?_)) | (refine Br.mk (fun h => ?_) (fun h => ?_))
  | (refine Ret.mk ?_))
 all_goals (simp only [V.d.injEq, D.int.injEq, true_and, rng]; simp_all)
theorem r_CheckDay (n : Int) : Fc E n_ref01_CheckDay [I n] (I (rng n 0 99999)) := by
 refine g.fn rfl rfl ?_
 repeat' ((conv => whnf); first
 | refine Yz ?_
  | (refine CallI.of (r_CheckRange g _ _ _) ?_)
  | (refine Ret.mk rfl))
theorem r_First (l : List Int) (hl : l.length ≤ 140737488355328) : Fc E n_ref01_First [LI l] (I (firstI l)) := by
 refine g.fn rfl rfl ?_
 conv => whnf
 refine LoopW.upP g (fun k => [(0, LI l), (3, I k)]) (fun _ => []) (fun k => firstI l = firstI (l.drop k)) l.length (fun k hk hp ih => ?_) 0 (Nat.zero_le _) (by simp)
 by_cases hlt : k < l.length
 ·have hd := firstI_drop l k hlt
  repeat' ((conv => whnf); first
  | refine Yz ?_
   | (refine Pick.int (by omega) ?_)
   | (refine Cmp.mk (fun h => ?_) (fun h => ?_)) | (refine Rem.any (by omega) (fun r hr he => ?_)) | (refine Br.mk (fun h => ?_) (fun h => ?_))
   | (refine LoopW.to (ih hlt ?_) ?_ rfl)
   | (refine Ret.mk ?_))
  all_goals simp_all
 ·have : l.drop k = [] := List.drop_eq_nil_of_le (by omega)
  repeat' ((conv => whnf); first
  | refine Yz ?_
   | (refine Ret.mk ?_))
  simp [hp, this, firstI]
omit g in
def chkPer (f t d : Int) : Int := if f < 0 ∨ 99999 < f ∨ t < 0 ∨ 99999 < t then 3 else if t < f then 11 else if 400 < t - f then 4 else rng d 1 127
omit g in
theorem chkPer_zero {f t d : Int} : chkPer f t d = 0 ↔ 0 ≤ f ∧ f ≤ t ∧ t ≤ 99999 ∧ t - f ≤ 400 ∧ 1 ≤ d ∧ d ≤ 127 := by
 unfold chkPer rng
 repeat' split
 all_goals omega
omit g in
theorem two_zero (f t : Int) : firstI [rng f 0 99999, rng t 0 99999] = 0 ↔ (0 ≤ f ∧ f ≤ 99999 ∧ 0 ≤ t ∧ t ≤ 99999) := by
 simp only [firstI]; unfold rng
 repeat' split
 all_goals omega
omit g in
theorem two_val (f t : Int) (h : firstI [rng f 0 99999, rng t 0 99999] ≠ 0) : firstI [rng f 0 99999, rng t 0 99999] = 3 := by
 simp only [firstI] at h ⊢; unfold rng at h ⊢
 repeat' split
 all_goals (try omega)
 all_goals simp_all
theorem s_CheckPeriod (f t d : Int) : Fc E n_calendar_CheckPeriod [Per f t d] (I (chkPer f t d)) := by
 refine g.fn rfl rfl ?_
 have k1 := two_zero f t
 have k2 := two_val f t
 have k3 := rng_range d 1 127
 repeat' ((conv => whnf); first
 | refine Yz ?_
  | (refine CallI.of (s_checkDay g _) ?_)
  | (refine CallI.of (s_first2 g _ _) ?_)
  | (refine CallI.of (s_when g _ _) ?_)
  | (refine CallI.of (s_within g _ _ _) ?_)
  | (refine CallI.of (s_first3 g _ _ _) ?_)
  | (refine Cmp.mk (fun h => ?_) (fun h => ?_)) | (refine Rem.any (by omega) (fun r hr he => ?_)) | (refine Br.mk (fun h => ?_) (fun h => ?_))
  | (refine Ret.mk ?_))
 all_goals (simp only [V.d.injEq, D.int.injEq, true_and, chkPer])
 all_goals first
  | (rw [if_pos (by omega)]; omega)
  | (simp [firstI]; repeat' split; all_goals omega)
theorem r_CheckPeriod (f t d : Int) : Fc E n_ref01_CheckPeriod [Per f t d] (I (chkPer f t d)) := by
 refine g.fn rfl rfl ?_
 have k1 := @rng_zero f 0 99999
 have k2 := @rng_zero t 0 99999
 repeat' ((conv => whnf); first
 | refine Yz ?_
  | (refine CallI.of (r_CheckDay g _) ?_)
  | (refine CallI.of (r_CheckRange g _ _ _) ?_)
  | (refine Cmp.mk (fun h => ?_) (fun h => ?_)) | (refine Rem.any (by omega) (fun r hr he => ?_)) | (refine Br.mk (fun h => ?_) (fun h => ?_))
  | (refine Ret.mk ?_))
 all_goals (simp only [V.d.injEq, D.int.injEq, true_and, chkPer])
 all_goals (repeat' split)
 all_goals first
  | rfl
  | omega
omit g in
def inM (m w : Int) : Bool := decide (m / 2 ^ w.toNat % 2 = 1)
theorem r_InMask (m w : Int) (hm : 0 ≤ m ∧ m ≤ 127) (hw : 0 ≤ w ∧ w ≤ 6) : Fc E n_ref01_InMask [I m, I w] (B (inM m w)) := by
 refine g.fn rfl rfl ?_
 conv => whnf
 refine LoopW.to (LoopW.up g (fun k => [(0, I (m / 2 ^ k)), (1, I w), (5, I k)]) (fun _ => []) w.toNat (fun k hk ih => ?_) 0 (Nat.zero_le _)) ?_ rfl
 ·have h0 : 0 ≤ m / 2 ^ k := Int.ediv_nonneg hm.1 (Int.pow_nonneg (by decide))
  have h1 : m / 2 ^ k ≤ m := Int.ediv_le_self _ hm.1
  have h2 : m / 2 ^ k / 2 = m / 2 ^ (k + 1) := by rw [Int.pow_succ, Int.ediv_ediv_of_nonneg (Int.pow_nonneg (by decide))]
  by_cases hlt : k < w.toNat
  ·repeat' ((conv => whnf); first
  | refine Yz ?_
    | (refine LoopW.to (ih hlt) ?_ rfl)
    | (refine Ret.mk ?_))
   simp [h2]
  ·have : k = w.toNat := by omega
   subst this
   repeat' ((conv => whnf); first
   | refine Yz ?_
    | (refine Cmp.mk (fun h => ?_) (fun h => ?_)) | (refine Rem.any (by omega) (fun r hr he => ?_)) | (refine Br.mk (fun h => ?_) (fun h => ?_))
    | (refine Ret.mk ?_))
   all_goals simp_all [inM]
 ·simp
end
end Go.Proofs.YtlnlcdnpgjhaaacGreatDoor.Co
/-
 The laws' parameters, as data.
-/
namespace Go.Proofs.YtlnlcdnpgjhaaacGreatDoor.Co
open Go Go.Evl
set_option maxRecDepth 100000
def i64 (n : Int) : Prop := -9223372036854775808 ≤ n ∧ n ≤ 9223372036854775807
theorem wf_i64 {n : Int} (h : (Lit.int .i64 n).wf = true) : i64 n := by
 simp only [Lit.wf, Bool.and_eq_true, decide_eq_true_eq] at h
 exact h
section
variable {P : Program} {n : Nat} {t : Nat} {ds : List D} {x : D}
theorem fit_i {k : IntKind} (ht : P.underlying t = some (.int k)) (h : fit P (n + 1) t ds) : ∃ i, ds = [.int k i] ∧ (Lit.int k i).wf = true := by
 simp only [fit, ht] at h; exact h
theorem fit_b (ht : P.underlying t = some .bool) (h : fit P (n + 1) t ds) : ∃ b, ds = [.bool b] := by
 simp only [fit, ht] at h; exact h
theorem fit_s (ht : P.underlying t = some .string) (h : fit P (n + 1) t ds) : ∃ s, ds = [.str s] ∧ s.length ≤ maxLen := by
 simp only [fit, ht] at h; exact h
theorem fit_l {e : Nat} (ht : P.underlying t = some (.slice e)) (h : fit P (n + 1) t ds) : ∃ m cs, ds = [.list m cs] ∧ m ≤ maxLen ∧ fitAll (fit P n) (List.replicate m e) cs := by
 simp only [fit, ht] at h; exact h
theorem fit_st {fs : Array Field} (ht : P.underlying t = some (.struct fs)) (h : fit P (n + 1) t ds) : fitAll (fit P n) (fs.toList.map (·.type)) ds := by
 simp only [fit, ht] at h; exact h
theorem fit_ar {m e : Nat} (ht : P.underlying t = some (.array m e)) (h : fit P (n + 1) t ds) : fitAll (fit P n) (List.replicate m e) ds := by
 simp only [fit, ht] at h; exact h
theorem arg_l {e : Nat} (ht : P.underlying t = some (.slice e)) (h : fitArg P t x) : ∃ m cs, x = .list m cs ∧ m ≤ maxLen ∧ fitAll (fit P 7) (List.replicate m e) cs := by
 simp only [fitArg, ht] at h
 obtain ⟨m, cs, e, h1, h2⟩ := fit_l (n := 7) ht h
 exact ⟨m, cs, by simpa using e, h1, h2⟩
theorem arg_ar {m e : Nat} (ht : P.underlying t = some (.array m e)) (h : fitArg P t x) : ∃ ds, x = .agg ds ∧ fitAll (fit P 7) (List.replicate m e) ds := by
 simp only [fitArg, ht] at h
 obtain ⟨ds, rfl, h⟩ := h
 exact ⟨ds, rfl, fit_ar ht h⟩
end
theorem fit_int {k : Nat} {ds : List D} (h : fit Tryz.prog (k + 1) 3 ds) : ∃ n, ds = [DI n] ∧ i64 n := by
 obtain ⟨n, rfl, hw⟩ := fit_i Tryz.underlying3 h
 exact ⟨n, rfl, wf_i64 hw⟩
theorem args3 {P : Program} {t u v : Nat} {xs : List D} (h : fitArgs P [t, u, v] xs) : ∃ x y z, xs = [x, y, z] ∧ fitArg P t x ∧ fitArg P u y ∧ fitArg P v z := by
 obtain ⟨x, _, rfl, h1, y, _, rfl, h2, z, _, rfl, h3, rfl⟩ := h
 exact ⟨x, y, z, rfl, h1, h2, h3⟩
end Go.Proofs.YtlnlcdnpgjhaaacGreatDoor.Co
/-
 Names: what both IsName give.
-/
namespace Go.Proofs.YtlnlcdnpgjhaaacGreatDoor.Co
open Go Go.Evl
theorem PickB.at {s : List UInt8} {i : Nat} {K : UInt8 → Prop} (k : Nat) (hi : i = k) (h : k < s.length) (hk : K (s.getD k 0)) : PickB s i K := by
 subst hi
 exact ⟨⟨_, by simp [List.getD, h], hk⟩⟩
theorem NextW.asc {s : List UInt8} {k : Nat} {a : Int → Nat → Prop} {b : Prop} (h : k < s.length) (ha : (s.getD k 0).toNat < 128) (hk : a (s.getD k 0).toNat 1) : NextW s k a b := by
 refine ⟨fun _ => ?_, fun hn => absurd h hn⟩
 have e : (s.getD k 0) = s[k] := by simp [List.getD, h]
 have hd := decode_ascii ⟨s.toArray⟩ k (by simpa [ByteArray.size] using h) (by rw [e] at ha; exact ha)
 rw [hd]
 rw [e] at hk
 exact hk
theorem NextW.high {s : List UInt8} {k : Nat} {a : Int → Nat → Prop} {b : Prop} (h : k < s.length) (ha : 128 ≤ (s.getD k 0).toNat) (hk : ∀ (c : Int) (w : Nat), 128 ≤ c → 1 ≤ w → a c w) : NextW s k a b := by
 refine ⟨fun _ => ?_, fun hn => absurd h hn⟩
 have e : (s.getD k 0) = s[k] := by simp [List.getD, h]
 have hd := decode_high ⟨s.toArray⟩ k (by simpa [ByteArray.size] using h) (by rw [e] at ha; exact ha)
 exact hk _ _ (by omega) hd.2
theorem NextW.end' {s : List UInt8} {k : Nat} {a : Int → Nat → Prop} {b : Prop} (h : s.length ≤ k) (hk : b) : NextW s k a b := ⟨fun hn => absurd hn (by omega), fun _ => hk⟩
def okCh (k : Nat) (b : UInt8) : Prop := (65 ≤ b.toNat ∧ b.toNat ≤ 90) ∨ (97 ≤ b.toNat ∧ b.toNat ≤ 122) ∨ (0 < k ∧ (b.toNat = 95 ∨ (48 ≤ b.toNat ∧ b.toNat ≤ 57)))
instance (k : Nat) (b : UInt8) : Decidable (okCh k b) := by unfold okCh; infer_instance
def nameP (s : List UInt8) : Prop := 0 < s.length ∧ s.length ≤ 24 ∧ ∀ i, i < s.length → okCh i (s.getD i 0)
instance (s : List UInt8) : Decidable (nameP s) := by unfold nameP; infer_instance
def isNameB (s : List UInt8) : Bool := decide (nameP s)
theorem isName_no {s : List UInt8} {k : Nat} (hk : k < s.length) (h : ¬ okCh k (s.getD k 0)) : isNameB s = false := decide_eq_false fun hn => h (hn.2.2 k hk)
section
variable {E : Oracle} (g : Good E)
include g
theorem s_IsName (s : List UInt8) : Fc E n_calendar_IsName [S s] (B (isNameB s)) := by
 refine g.fn rfl rfl ?_
 by_cases h0 : 0 < s.length ∧ s.length ≤ 24
 ·repeat' ((conv => whnf); first
 | refine Yz ?_)
  refine LoopW.to (LoopW.upP g (fun _ => [(15, .it ⟨0, 15, 0⟩)]) (fun k => [(⟨0, 15, 0⟩, .iter s k)]) (fun k => ∀ i, i < k → okCh i (s.getD i 0)) s.length (fun k hk hp ih => ?_) 0 (Nat.zero_le _) (fun i hi => by omega)) rfl rfl
  by_cases hlt : k < s.length
  ·by_cases ha : (s.getD k 0).toNat < 128
   ·by_cases hok : okCh k (s.getD k 0)
    ·have hp' : ∀ i, i < k + 1 → okCh i (s.getD i 0) := fun i hi => by
      by_cases e : i = k
      ·subst e; exact hok
      ·exact hp i (by omega)
     have ih := ih hlt hp'
     unfold okCh at hok
     repeat' ((conv => whnf); first
     | refine Yz ?_
      | (refine NextW.asc hlt ha ?_)
      | (refine Cmp.mk (fun h => ?_) (fun h => ?_)) | (refine Rem.any (by omega) (fun r hr he => ?_)) | (refine Br.mk (fun h => ?_) (fun h => ?_))
      | (refine LoopW.to ih rfl rfl)
      | (exfalso; omega))
    ·have hno := isName_no hlt hok
     unfold okCh at hok
     rw [hno]
     repeat' ((conv => whnf); first
     | refine Yz ?_
      | (refine NextW.asc hlt ha ?_)
      | (refine Cmp.mk (fun h => ?_) (fun h => ?_)) | (refine Rem.any (by omega) (fun r hr he => ?_)) | (refine Br.mk (fun h => ?_) (fun h => ?_))
      | (refine Ret.mk rfl)
      | (exfalso; omega))
   ·have hno : isNameB s = false := isName_no hlt (by unfold okCh; omega)
    rw [hno]
    repeat' ((conv => whnf); first
    | refine Yz ?_
     | (refine NextW.high hlt (by omega) (fun c w hc hw => ?_))
     | (refine Cmp.mk (fun h => ?_) (fun h => ?_)) | (refine Rem.any (by omega) (fun r hr he => ?_)) | (refine Br.mk (fun h => ?_) (fun h => ?_))
     | (refine Ret.mk rfl)
     | (exfalso; omega))
  ·have hk' : k = s.length := by omega
   subst hk'
   have hyes : isNameB s = true := decide_eq_true ⟨h0.1, h0.2, hp⟩
   rw [hyes]
   repeat' ((conv => whnf); first
   | refine Yz ?_
    | (refine NextW.end' (Nat.le_refl _) ?_)
    | (refine Ret.mk rfl))
 ·have hno : isNameB s = false := decide_eq_false fun hn => h0 ⟨hn.1, hn.2.1⟩
  rw [hno]
  repeat' ((conv => whnf); first
  | refine Yz ?_
   | (refine Cmp.mk (fun h => ?_) (fun h => ?_)) | (refine Rem.any (by omega) (fun r hr he => ?_)) | (refine Br.mk (fun h => ?_) (fun h => ?_))
   | (refine Ret.mk rfl)
   | (exfalso; omega))
theorem r_IsName (s : List UInt8) : Fc E n_ref01_IsName [S s] (B (isNameB s)) := by
 refine g.fn rfl rfl ?_
 by_cases h0 : 0 < s.length ∧ s.length ≤ 24
 ·repeat' ((conv => whnf); first
 | refine Yz ?_)
  refine LoopW.to (LoopW.upP g (fun k => [(0, S s), (3, I k)]) (fun _ => []) (fun k => ∀ i, i < k → okCh i (s.getD i 0)) s.length (fun k hk hp ih => ?_) 0 (Nat.zero_le _) (fun i hi => by omega)) rfl rfl
  by_cases hlt : k < s.length
  ·by_cases hok : okCh k (s.getD k 0)
   ·have hp' : ∀ i, i < k + 1 → okCh i (s.getD i 0) := fun i hi => by
     by_cases e : i = k
     ·subst e; exact hok
     ·exact hp i (by omega)
    have ih := ih hlt hp'
    unfold okCh at hok
    repeat' ((conv => whnf); first
    | refine Yz ?_
     | (refine PickB.at k (by omega) hlt ?_)
     | (refine Cmp.mk (fun h => ?_) (fun h => ?_)) | (refine Rem.any (by omega) (fun r hr he => ?_)) | (refine Br.mk (fun h => ?_) (fun h => ?_))
     | (refine LoopW.to ih rfl rfl)
     | (exfalso; omega))
   ·have hno := isName_no hlt hok
    unfold okCh at hok
    rw [hno]
    repeat' ((conv => whnf); first
    | refine Yz ?_
     | (refine PickB.at k (by omega) hlt ?_)
     | (refine Cmp.mk (fun h => ?_) (fun h => ?_)) | (refine Rem.any (by omega) (fun r hr he => ?_)) | (refine Br.mk (fun h => ?_) (fun h => ?_))
     | (refine Ret.mk rfl)
     | (exfalso; omega))
  ·have hk' : k = s.length := by omega
   subst hk'
   have hyes : isNameB s = true := decide_eq_true ⟨h0.1, h0.2, hp⟩
   rw [hyes]
   repeat' ((conv => whnf); first
   | refine Yz ?_
    | (refine Ret.mk rfl))
 ·have hno : isNameB s = false := decide_eq_false fun hn => h0 ⟨hn.1, hn.2.1⟩
  rw [hno]
  repeat' ((conv => whnf); first
  | refine Yz ?_
   | (refine Cmp.mk (fun h => ?_) (fun h => ?_)) | (refine Rem.any (by omega) (fun r hr he => ?_)) | (refine Br.mk (fun h => ?_) (fun h => ?_))
   | (refine Ret.mk rfl)
   | (exfalso; omega))
end
end Go.Proofs.YtlnlcdnpgjhaaacGreatDoor.Co
/-
 Digits: their bytes, numbers in so many digits; bytes that are added and taken away.
-/
namespace Go.Proofs.YtlnlcdnpgjhaaacGreatDoor.Co
open Go Go.Evl
def dig (n : Int) : UInt8 := UInt8.ofNat (48 + n.toNat)
def wideL : Nat → Int → List UInt8
 | 0, _ => []
 | k + 1, n => wideL k (n / 10) ++ [dig (n % 10)]
theorem wideL_length : ∀ (k : Nat) (n : Int), (wideL k n).length = k
 | 0, _ => rfl
 | k + 1, n => by simp [wideL, wideL_length k]
def dg (b : UInt8) : Prop := 48 ≤ b.toNat ∧ b.toNat ≤ 57
instance (b : UInt8) : Decidable (dg b) := by unfold dg; infer_instance
section
variable {E : Oracle} (g : Good E)
include g
theorem s_Itoa (n : Int) (h : 0 ≤ n ∧ n ≤ 9223372036854775807) : Fc E n_strconv_Itoa [I n] (S (digitsF 20 n.toNat)) :=
 Fc.extern g.lim (x := itoaX) rfl (v := S (digitsF 20 n.toNat)) (m' := []) (by simp only [itoaX]; rw [if_pos h]) rfl
end
end Go.Proofs.YtlnlcdnpgjhaaacGreatDoor.Co
/-
 Messages: numbers of so many digits and minutes, printed and read.
-/
namespace Go.Proofs.YtlnlcdnpgjhaaacGreatDoor.Co
open Go Go.Evl
def valA (a : Int) : List UInt8 → Int
 | [] => a
 | b :: r => valA (10 * a + ((b.toNat : Int) - 48)) r
theorem valA_append : ∀ (l r : List UInt8) (a : Int), valA a (l ++ r) = valA (valA a l) r
 | [], _, _ => rfl
 | b :: l, r, a => by simp only [List.cons_append, valA]; exact valA_append l r _
theorem valA_take {s : List UInt8} {k : Nat} (h : k < s.length) : valA 0 (s.take (k + 1)) = 10 * valA 0 (s.take k) + (((s.getD k 0).toNat : Int) - 48) := by
 rw [List.take_add_one, valA_append, List.getElem?_eq_getElem h]
 simp [valA, List.getD, h]
theorem valA_lt : ∀ (n : Nat) (l : List UInt8), l.length = n → (∀ x ∈ l, dg x) → 0 ≤ valA 0 l ∧ valA 0 l < (10 ^ n : Nat)
 | 0, l, h, _ => by
  obtain rfl := List.length_eq_zero_iff.1 h
  simp [valA]
 | n + 1, l, h, hd => by
  have hne : l ≠ [] := fun e => by subst e; simp at h
  have e : l = l.dropLast ++ [l.getLast hne] := (List.dropLast_concat_getLast hne).symm
  have ih := valA_lt n l.dropLast (by simp [h]) fun x hx => hd x (List.dropLast_subset l hx)
  have hl := hd _ (List.getLast_mem hne)
  rw [e, valA_append]
  simp only [valA]
  unfold dg at hl
  rw [Nat.pow_succ]
  omega
def numP (s : List UInt8) (w : Nat) : Prop := s.length = w ∧ ∀ x ∈ s, dg x
instance (s : List UInt8) (w : Nat) : Decidable (numP s w) := by unfold numP; infer_instance
def numB (s : List UInt8) (w : Nat) : Bool := decide (numP s w)
theorem numB_len {s : List UInt8} {w : Nat} (h : s.length ≠ w) : numB s w = false := decide_eq_false fun hn => h hn.1
theorem numB_dig {s : List UInt8} {w k : Nat} (hk : k < s.length) (h : ¬ dg (s.getD k 0)) : numB s w = false := decide_eq_false fun hn => h (hn.2 _ (by
 simp [List.getD, hk]))
theorem numB_yes {s : List UInt8} {w : Nat} (h : s.length = w) (hd : ∀ i, i < s.length → dg (s.getD i 0)) : numB s w = true := decide_eq_true ⟨h, fun x hx => by
 obtain ⟨i, hi, rfl⟩ := List.getElem_of_mem hx
 have := hd i hi
 simpa [List.getD, hi] using this⟩
theorem numB_val {s : List UInt8} {w : Nat} (h : numB s w = true) : 0 ≤ valA 0 s ∧ valA 0 s < (10 ^ w : Nat) :=
 have h := of_decide_eq_true h
 valA_lt w s h.1 h.2
theorem take_lt {s : List UInt8} {k w : Nat} (hk : k ≤ s.length) (hw : s.length ≤ w) (hd : ∀ i, i < k → dg (s.getD i 0)) : 0 ≤ valA 0 (s.take k) ∧ valA 0 (s.take k) < (10 ^ w : Nat) := by
 have h := valA_lt k (s.take k) (by simp; omega) fun x hx => by
  obtain ⟨i, hi, rfl⟩ := List.getElem_of_mem hx
  have hi' : i < k := by simp at hi; omega
  have := hd i hi'
  simpa [List.getD, show i < s.length by omega] using this
 have hp : 10 ^ k ≤ 10 ^ w := Nat.pow_le_pow_right (by omega) (by omega)
 omega
theorem wideL_zero : ∀ k : Nat, wideL k 0 = List.replicate k 48
 | 0 => rfl
 | k + 1 => by
  have : wideL (k + 1) 0 = wideL k 0 ++ [48] := rfl
  rw [this, wideL_zero k, ← List.replicate_succ']
theorem wideL_pad : ∀ (w f u : Nat), 1 ≤ w → w ≤ f → u < 10 ^ w → (digitsF f u).length ≤ w ∧ List.replicate (w - (digitsF f u).length) 48 ++ digitsF f u = wideL w u
 | 0, _, _, h, _, _ => absurd h (by omega)
 | _ + 1, 0, _, _, h, _ => absurd h (by omega)
 | w + 1, f + 1, u, _, hf, hu => by
  simp only [digitsF]
  split
  ·rename_i hlt
   refine ⟨by simp, ?_⟩
   have e1 : (u : Int) / 10 = 0 := by omega
   have e2 : (u : Int) % 10 = u := by omega
   simp only [wideL, e1, e2, wideL_zero]
   simp [dig]
  ·rename_i hge
   have hw : 1 ≤ w := by
    rcases Nat.eq_zero_or_pos w with h | h
    ·subst h; simp at hu; omega
    ·exact h
   rw [Nat.pow_succ] at hu
   obtain ⟨h1, h2⟩ := wideL_pad w f (u / 10) hw (by omega) (by omega)
   refine ⟨by simp; omega, ?_⟩
   have e1 : (u : Int) / 10 = ((u / 10 : Nat) : Int) := by omega
   have e2 : ((u : Int) % 10).toNat = u % 10 := by omega
   simp only [wideL, e1]
   rw [← h2]
   simp [dig, e2]
theorem toNat_u8 (b : UInt8) : b.toNat < 256 := b.toNat_lt
theorem Wr.keep32 {x : Int} {K : Int → Prop} (h : -2147483648 ≤ x ∧ x ≤ 2147483647) (k : K x) : Wr .i32 x K := ⟨by
 have : IntKind.i32.wrap x = x := by
  have hb : IntKind.i32.wrap x = (if x % 4294967296 ≥ 2147483648 then x % 4294967296 - 4294967296 else x % 4294967296) := by
   simp [IntKind.wrap, IntKind.signed, IntKind.bits]
  rw [hb]
  split <;> omega
 rw [this]; exact k⟩
def minL (m : Int) : List UInt8 := wideL 2 (m / 60) ++ wideL 2 (m % 60)
def minP (s : List UInt8) : Prop := numB s 4 = true ∧ valA 0 s / 100 ≤ 23 ∧ valA 0 s % 100 ≤ 59
instance (s : List UInt8) : Decidable (minP s) := by unfold minP; infer_instance
def minV (s : List UInt8) : Int := valA 0 s / 100 * 60 + valA 0 s % 100
section
variable {E : Oracle} (g : Good E)
include g
set_option maxHeartbeats 4000000 in
theorem s_number (s : List UInt8) (w : Nat) (hw : w ≤ 5) : Fc E n_message_number [S s, I w] (.tup [I (if numB s w then valA 0 s else 0), B (numB s w)]) := by
 refine g.fn rfl rfl ?_
 by_cases h0 : s.length = w
 ·have hp : 10 ^ w ≤ 10 ^ 5 := Nat.pow_le_pow_right (by omega) (by omega)
  repeat' ((conv => whnf); first
  | refine Yz ?_)
  refine LoopW.to (LoopW.upP g (fun k => [(6, I (valA 0 (s.take k))), (14, .it ⟨0, 14, 0⟩)]) (fun k => [(⟨0, 14, 0⟩, .iter s k)]) (fun k => ∀ i, i < k → dg (s.getD i 0)) s.length (fun k hk hp ih => ?_) 0 (Nat.zero_le _) (fun i hi => by omega)) rfl rfl
  have hv := take_lt hk (Nat.le_of_eq h0) hp
  by_cases hlt : k < s.length
  ·by_cases ha : (s.getD k 0).toNat < 128
   ·by_cases hok : dg (s.getD k 0)
    ·have ih := ih hlt fun i hi => by
      by_cases e : i = k
      ·subst e; exact hok
      ·exact hp i (by omega)
     unfold dg at hok
     have e := valA_take hlt
     repeat' ((conv => whnf); first
     | refine Yz ?_
      | (refine NextW.asc hlt ha ?_)
      | (refine Wr.keep32 (by omega) ?_)
      | (refine Cmp.mk (fun h => ?_) (fun h => ?_)) | (refine Rem.any (by omega) (fun r hr he => ?_)) | (refine Br.mk (fun h => ?_) (fun h => ?_))
      | (refine LoopW.to ih (by rw [e]) rfl)
      | (exfalso; omega))
    ·have hno := numB_dig (w := w) hlt hok
     unfold dg at hok
     rw [hno]
     repeat' ((conv => whnf); first
     | refine Yz ?_
      | (refine NextW.asc hlt ha ?_)
      | (refine Cmp.mk (fun h => ?_) (fun h => ?_)) | (refine Rem.any (by omega) (fun r hr he => ?_)) | (refine Br.mk (fun h => ?_) (fun h => ?_))
      | (refine Ret.mk rfl)
      | (exfalso; omega))
   ·have hno := numB_dig (w := w) hlt (by unfold dg; omega)
    rw [hno]
    repeat' ((conv => whnf); first
    | refine Yz ?_
     | (refine NextW.high hlt (by omega) (fun c w hc hw => ?_))
     | (refine Cmp.mk (fun h => ?_) (fun h => ?_)) | (refine Rem.any (by omega) (fun r hr he => ?_)) | (refine Br.mk (fun h => ?_) (fun h => ?_))
     | (refine Ret.mk rfl)
     | (exfalso; omega))
  ·have hk' : k = s.length := by omega
   subst hk'
   have hyes := numB_yes h0 hp
   rw [hyes, if_pos rfl]
   repeat' ((conv => whnf); first
   | refine Yz ?_
    | (refine NextW.end' (Nat.le_refl _) ?_)
    | (refine Ret.mk ?_))
   rw [List.take_length]
 ·have hno := numB_len h0
  rw [hno]
  repeat' ((conv => whnf); first
  | refine Yz ?_
   | (refine Ret.mk rfl))
omit g in
theorem repeatL_one : ∀ k : Nat, Lib.repeatL [48] k = List.replicate k (48 : UInt8)
 | 0 => rfl
 | k + 1 => by
  rw [List.replicate_succ, ← repeatL_one k]
  rfl
theorem s_wide (n : Int) (w : Nat) (hw : 1 ≤ w ∧ w ≤ 5) (h : 0 ≤ n ∧ n < (10 ^ w : Nat)) : Fc E n_message_wide [I n, I w] (S (wideL w n)) := by
 refine g.fn rfl rfl ?_
 have hp : 10 ^ w ≤ 10 ^ 5 := Nat.pow_le_pow_right (by omega) (by omega)
 obtain ⟨h1, h2⟩ := wideL_pad w 20 n.toNat hw.1 (by omega) (by omega)
 rw [Int.toNat_of_nonneg h.1] at h2
 have hi := s_Itoa g n (by omega)
 have hm : (if (w : Int) - ((digitsF 20 n.toNat).length : Int) > 0 then (w : Int) - ((digitsF 20 n.toNat).length : Int) else 0) = ((w - (digitsF 20 n.toNat).length : Nat) : Int) := by split <;> omega
 have hr : Fc E n_strings_Repeat [S [48], I (if (w : Int) - ((digitsF 20 n.toNat).length : Int) > 0 then (w : Int) - ((digitsF 20 n.toNat).length : Int) else 0)] (S (List.replicate (w - (digitsF 20 n.toNat).length) 48)) := by
  rw [hm]
  refine Fc.extern g.lim (x := repeatX) rfl (v := S (List.replicate (w - (digitsF 20 n.toNat).length) 48)) (m' := []) ?_ rfl
  simp only [repeatX]
  rw [if_pos ⟨by omega, by omega, by simp⟩, Int.toNat_natCast, repeatL_one]
 repeat' ((conv => whnf); first
 | refine Yz ?_
  | (apply CallI.of; assumption)
  | (refine Need.mk (by simp only [maxStr, List.length_replicate]; omega) ?_)
  | (refine Ret.mk ?_))
 rw [h2]
theorem s_mwhen (b : Bool) (e : Int) : Fc E n_message_when [B b, I e] (I (if b then e else 0)) := by
 refine g.fn rfl rfl ?_
 cases b <;> repeat' ((conv => whnf); first
 | refine Yz ?_
  | (refine Ret.mk rfl))
theorem s_mwithin (n a b : Int) : Fc E n_message_within [I n, I a, I b] (I (rng n a b)) := by
 refine g.fn rfl rfl ?_
 have hw : ∀ c, Fc E n_message_when [B c, I 3] (I (if c then 3 else 0)) := fun c => s_mwhen g c 3
 unfold rng
 by_cases h1 : n < a
 ·rw [if_pos (.inl h1)]
  repeat' ((conv => whnf); first
  | refine Yz ?_
   | (refine CallI.of (hw _) ?_)
   | (refine Ret.mk rfl))
 ·by_cases h2 : b < n
  ·rw [if_pos (.inr h2)]
   repeat' ((conv => whnf); first
   | refine Yz ?_
    | (refine CallI.of (hw _) ?_)
    | (refine Ret.mk rfl))
  ·rw [if_neg (by omega)]
   repeat' ((conv => whnf); first
   | refine Yz ?_
    | (refine CallI.of (hw _) ?_)
    | (refine Ret.mk rfl))
theorem s_PrintMinute (m : Int) : Fc E n_message_PrintMinute [I m] (.tup [S (if rng m 0 1439 = 0 then minL m else []), I (rng m 0 1439)]) := by
 refine g.fn rfl rfl ?_
 have hw := s_mwithin g m 0 1439
 by_cases h : rng m 0 1439 = 0
 ·rw [h] at hw ⊢
  have hm := rng_zero.1 h
  have h1 := s_wide g (m / 60) 2 (by omega) (by omega)
  have h2 := s_wide g (m % 60) 2 (by omega) (by omega)
  repeat' ((conv => whnf); first
  | refine Yz ?_
   | (apply CallI.of; assumption)
   | (refine Need.mk (by simp only [maxStr, wideL_length]; omega) ?_)
   | (refine Ret.mk rfl))
 ·rw [if_neg h]
  repeat' ((conv => whnf); first
  | refine Yz ?_
   | (apply CallI.of; assumption)
   | (refine Ret.mk rfl))
theorem s_ParseMinute (s : List UInt8) : Fc E n_message_ParseMinute [S s] (.tup [I (if minP s then minV s else 0), I (if minP s then 0 else 25)]) := by
 refine g.fn rfl rfl ?_
 have hn := s_number g s 4 (by omega)
 by_cases hp : minP s
 ·rw [if_pos hp, if_pos hp]
  obtain ⟨hb, h1, h2⟩ := hp
  have hv := numB_val hb
  rw [hb, if_pos rfl] at hn
  unfold minV
  generalize valA 0 s = v at *
  repeat' ((conv => whnf); first
  | refine Yz ?_
   | (apply CallI.of; assumption)
   | (refine Ret.mk rfl))
 ·rw [if_neg hp, if_neg hp]
  by_cases hb : numB s 4 = true
  ·have hv := numB_val hb
   have hq : ¬ (valA 0 s / 100 ≤ 23 ∧ valA 0 s % 100 ≤ 59) := fun h => hp ⟨hb, h⟩
   rw [hb, if_pos rfl] at hn
   clear hp
   generalize valA 0 s = v at *
   repeat' ((conv => whnf); first
   | refine Yz ?_
    | (apply CallI.of; assumption)
    | (refine Cmp.mk (fun h => ?_) (fun h => ?_)) | (refine Rem.any (by omega) (fun r hr he => ?_)) | (refine Br.mk (fun h => ?_) (fun h => ?_))
    | (refine Ret.mk rfl)
    | (exfalso; omega))
  ·rw [Bool.not_eq_true] at hb
   rw [hb] at hn
   repeat' ((conv => whnf); first
   | refine Yz ?_
    | (apply CallI.of; assumption)
    | (refine Ret.mk rfl))
end
end Go.Proofs.YtlnlcdnpgjhaaacGreatDoor.Co
/-
 Is a weekday in a mask? Calls whose results live in the caller's memory.
-/
namespace Go.Proofs.YtlnlcdnpgjhaaacGreatDoor.Co
open Go Go.Evl
theorem and_one : ∀ (m : Fin 128) (w : Fin 7), IntKind.i64.wrap ((BitVec.ofInt IntKind.i64.bits ((m.val : Int).fdiv (2 ^ (min (w.val : Int).toNat IntKind.i64.bits))) &&& BitVec.ofInt IntKind.i64.bits 1).toNat) = (m.val : Int) / 2 ^ (w.val : Int).toNat % 2 := by decide +kernel
theorem CallS.of {E : Oracle} {f : Nat} {args : List V} {cx : Cx} {slot : Nat} {m : Mem} {K : V → Mem → Prop} (h : In E 0 f args [] fun v m' => Some' (Go.Evl.settle cx slot 0 m m' v) fun p => K p.1 p.2) : CallS E f args cx slot m K := by
 obtain ⟨v, m', h1, p, h2, h3⟩ := h
 exact ⟨v, m', p, h1, h2, h3⟩
section
variable {E : Oracle} (g : Good E)
include g
theorem s_inMask (m w : Int) (hm : 0 ≤ m ∧ m ≤ 127) (hw : 0 ≤ w ∧ w ≤ 6) : Fc E n_calendar_inMask [I m, I w] (B (inM m w)) := by
 refine g.fn rfl rfl ?_
 have h := and_one ⟨m.toNat, by omega⟩ ⟨w.toNat, by omega⟩
 simp only [Int.toNat_of_nonneg hm.1, Int.toNat_of_nonneg hw.1] at h
 unfold inM
 by_cases hc : m / 2 ^ w.toNat % 2 = 1
 ·repeat' ((conv => whnf); first
 | refine Yz ?_
   | (refine Cmp.tt (h.trans hc) ?_)
   | (refine Ret.mk ?_))
  simp [hc]
 ·repeat' ((conv => whnf); first
 | refine Yz ?_
   | (refine Cmp.ff (fun e => hc (h.symm.trans e)) ?_)
   | (refine Ret.mk ?_))
  simp [hc]
end
end Go.Proofs.YtlnlcdnpgjhaaacGreatDoor.Co
/-
 Messages: requests and lines, checked.
-/
namespace Go.Proofs.YtlnlcdnpgjhaaacGreatDoor.Co
open Go Go.Evl
structure Rqt where
 (nm ca ki te pa li : List UInt8)
 (fr to da mi se si no : Int)
 deriving DecidableEq
def Rqt.cells (q : Rqt) : List D := [.str q.nm, .str q.ca, .str q.ki, .str q.te, .str q.pa, .str q.li, DI q.fr, DI q.to, DI q.da, DI q.mi, DI q.se, DI q.si, DI q.no]
structure Lnt where
 ac : List UInt8
 rq : Rqt
def Lnt.cells (l : Lnt) : List D := .str l.ac :: l.rq.cells
theorem Lnt.cells_length (l : Lnt) : l.cells.length = 14 := rfl
theorem Rqt.cells_length (q : Rqt) : q.cells.length = 13 := rfl
abbrev Rqv (q : Rqt) : V := .d (.agg q.cells)
abbrev Lnv (l : Lnt) : V := .d (.agg l.cells)
def nmE (s : List UInt8) : Int := if (!isNameB s) = true then 8 else 0
def optB (s : List UInt8) : Bool := decide (s = []) || isNameB s
def opE (s : List UInt8) : Int := if (!optB s) = true then 8 else 0
def kindB (s : List UInt8) : Bool := decide (s = [65]) || decide (s = [68])
def chkRq (q : Rqt) : Int := firstI [nmE q.nm, nmE q.ca, nmE q.pa, opE q.te, opE q.li, if (!kindB q.ki) = true then 13 else 0, if q.li = q.nm then 32 else 0, chkPer q.fr q.to q.da, rng q.mi 0 1439, rng q.se 0 999, rng q.si 1 9, rng q.no 0 99]
def askL : List (List UInt8) := [[78], [72], [67], [82], [68]]
def repL : List (List UInt8) := [[75], [79], [85], [88]]
def asksB (s : List UInt8) : Bool := decide (s ∈ askL)
def repB (s : List UInt8) : Bool := decide (s ∈ repL)
def actB (s : List UInt8) : Bool := asksB s || repB s
abbrev REQ : List UInt8 := [82, 69, 81]
abbrev ANS : List UInt8 := [65, 78, 83]
def actK (s : List UInt8) : List UInt8 := if asksB s then REQ else if repB s then ANS else []
def chkLn (l : Lnt) : Int := firstI [if (!actB l.ac) = true then 13 else 0, chkRq l.rq]
theorem chkLn_eq (l : Lnt) : chkLn l = if actB l.ac then chkRq l.rq else 13 := by
 unfold chkLn
 cases actB l.ac
 ·simp [firstI]
 ·simp only [firstI]; simp; intro h; exact h.symm
abbrev actM : List (D × V) := [(.str [78], S REQ), (.str [72], S REQ), (.str [67], S REQ), (.str [82], S REQ), (.str [68], S REQ), (.str [75], S ANS), (.str [79], S ANS), (.str [85], S ANS), (.str [88], S ANS)]
theorem act_cases (s : List UInt8) : s ∈ askL ++ repL ∨ findE (.str s) actM = some none ∧ asksB s = false ∧ repB s = false := by
 by_cases h : s ∈ askL ++ repL
 ·exact .inl h
 ·refine .inr ?_
  simp only [askL, repL, List.mem_append, List.mem_cons, List.not_mem_nil, or_false, not_or] at h
  have e : ∀ t, s ≠ t → (s == t) = false := fun t h => beq_eq_false_iff_ne.2 h
  refine ⟨?_, decide_eq_false (by simp [askL, h]), decide_eq_false (by simp [repL, h])⟩
  obtain ⟨⟨h1, h2, h3, h4, h5⟩, h6, h7, h8, h9⟩ := h
  simp only [findE, eqD, e _ h1, e _ h2, e _ h3, e _ h4, e _ h5, e _ h6, e _ h7, e _ h8, e _ h9]
section
variable {E : Oracle} (g : Good E)
include g
set_option maxRecDepth 100000
theorem s_mfirst (l : List Int) (hl : l.length ≤ 140737488355328) : Fc E n_message_first [LI l] (I (firstI l)) := by
 refine g.fn rfl rfl ?_
 conv => whnf
 refine LoopW.upP g (fun k => [(5, LI l), (6, I l.length), (7, I k)]) (fun _ => []) (fun k => firstI l = firstI (l.drop k)) l.length (fun k hk hp ih => ?_) 0 (Nat.zero_le _) (by simp)
 by_cases hlt : k < l.length
 ·have hd := firstI_drop l k hlt
  repeat' ((conv => whnf); first
  | refine Yz ?_
   | (refine Pick.int (by omega) ?_)
   | (refine Cmp.mk (fun h => ?_) (fun h => ?_)) | (refine Rem.any (by omega) (fun r hr he => ?_)) | (refine Br.mk (fun h => ?_) (fun h => ?_))
   | (refine LoopW.to (ih hlt ?_) ?_ rfl)
   | (refine Ret.mk ?_))
  all_goals simp_all
 ·have : l.drop k = [] := List.drop_eq_nil_of_le (by omega)
  repeat' ((conv => whnf); first
  | refine Yz ?_
   | (refine Ret.mk ?_))
  simp [hp, this, firstI]
theorem s_mfirst2 (a b : Int) : Fc E n_message_first [.d (.list 2 [DI a, DI b])] (I (firstI [a, b])) := s_mfirst g [a, b] (by simp)
theorem s_mfirst3 (a b c : Int) : Fc E n_message_first [.d (.list 3 [DI a, DI b, DI c])] (I (firstI [a, b, c])) := s_mfirst g [a, b, c] (by simp)
theorem s_mfirst4 (a b c d : Int) : Fc E n_message_first [.d (.list 4 [DI a, DI b, DI c, DI d])] (I (firstI [a, b, c, d])) := s_mfirst g [a, b, c, d] (by simp)
theorem s_mfirst12 (a b c d e f h i j k l m : Int) : Fc E n_message_first [.d (.list 12 [DI a, DI b, DI c, DI d, DI e, DI f, DI h, DI i, DI j, DI k, DI l, DI m])] (I (firstI [a, b, c, d, e, f, h, i, j, k, l, m])) := s_mfirst g [a, b, c, d, e, f, h, i, j, k, l, m] (by simp)
theorem r_First4 (a b c d : Int) : Fc E n_ref01_First [.d (.list 4 [DI a, DI b, DI c, DI d])] (I (firstI [a, b, c, d])) := r_First g [a, b, c, d] (by simp)
theorem r_First2 (a b : Int) : Fc E n_ref01_First [.d (.list 2 [DI a, DI b])] (I (firstI [a, b])) := r_First g [a, b] (by simp)
theorem s_named (s : List UInt8) : Fc E n_message_named [S s] (I (nmE s)) := by
 refine g.fn rfl rfl ?_
 have h := s_IsName g s
 repeat' ((conv => whnf); first
 | refine Yz ?_
  | (apply CallI.of; assumption)
  | (refine CallI.of (s_mwhen g _ _) ?_)
  | (refine Ret.mk rfl))
theorem s_moptional (s : List UInt8) : Fc E n_message_optional [S s] (I (opE s)) := by
 refine g.fn rfl rfl ?_
 have h := s_IsName g s
 unfold opE optB
 by_cases he : s = []
 ·subst he
  repeat' ((conv => whnf); first
  | refine Yz ?_
   | (refine CallI.of (s_mwhen g _ _) ?_)
   | (refine Ret.mk rfl))
 ·rw [decide_eq_false he]
  repeat' ((conv => whnf); first
  | refine Yz ?_
   | (apply CallI.of; assumption)
   | (refine Cmp.ff he ?_)
   | (refine CallI.of (s_mwhen g _ _) ?_)
   | (refine Ret.mk rfl))
theorem r_optional (s : List UInt8) : Fc E n_ref02_optional [S s] (B (optB s)) := by
 refine g.fn rfl rfl ?_
 have h := r_IsName g s
 unfold optB
 by_cases he : s = []
 ·subst he
  repeat' ((conv => whnf); first
  | refine Yz ?_
   | (refine Ret.mk rfl))
 ·rw [decide_eq_false he]
  repeat' ((conv => whnf); first
  | refine Yz ?_
   | (apply CallI.of; assumption)
   | (refine Cmp.ff he ?_)
   | (refine Ret.mk rfl))
theorem s_isKind (s : List UInt8) : Fc E n_message_isKind [S s] (B (kindB s)) := by
 refine g.fn rfl rfl ?_
 unfold kindB
 by_cases he : s = [65]
 ·subst he
  repeat' ((conv => whnf); first
  | refine Yz ?_
   | (refine Ret.mk rfl))
 ·rw [decide_eq_false he]
  by_cases hd : s = [68]
  ·subst hd
   repeat' ((conv => whnf); first
   | refine Yz ?_
    | (refine Ret.mk rfl))
  ·rw [decide_eq_false hd]
   repeat' ((conv => whnf); first
   | refine Yz ?_
    | (refine Cmp.ff he ?_)
    | (refine Cmp.ff hd ?_)
    | (refine Ret.mk rfl))
set_option maxHeartbeats 4000000 in
theorem s_CheckRequest (q : Rqt) : Fc E n_message_CheckRequest [Rqv q] (I (chkRq q)) := by
 refine g.fn rfl rfl ?_
 have h1 := s_named g
 have h2 := s_moptional g
 have h3 := s_isKind g q.ki
 have h4 := s_CheckPeriod g q.fr q.to q.da
 have h5 := s_mwithin g
 have h6 := s_mwhen g
 unfold chkRq
 by_cases hl : q.li = q.nm
 all_goals first | rw [if_pos hl] | rw [if_neg hl]
 all_goals repeat' ((conv => whnf); first
 | refine Yz ?_
  | (refine CallI.of (h1 _) ?_)
  | (refine CallI.of (h2 _) ?_)
  | (refine CallI.of h3 ?_)
  | (refine CallI.of h4 ?_)
  | (refine CallI.of (h5 _ _ _) ?_)
  | (refine CallI.of (h6 _ _) ?_)
  | (refine Cmp.tt hl ?_)
  | (refine Cmp.ff hl ?_)
  | (refine CallI.of (s_mfirst12 g _ _ _ _ _ _ _ _ _ _ _ _) ?_)
  | (refine Ret.mk rfl))
set_option maxHeartbeats 8000000 in
theorem r_CheckRequest (q : Rqt) : Fc E n_ref02_CheckRequest [Rqv q] (I (chkRq q)) := by
 refine g.fn rfl rfl ?_
 have n1 := r_IsName g q.nm
 have n2 := r_IsName g q.ca
 have n3 := r_IsName g q.pa
 have n4 := r_optional g q.te
 have n5 := r_optional g q.li
 have hp := r_CheckPeriod g q.fr q.to q.da
 have hr := r_CheckRange g
 unfold chkRq nmE opE
 generalize isNameB q.nm = b1 at *
 generalize isNameB q.ca = b2 at *
 generalize isNameB q.pa = b3 at *
 generalize optB q.te = b4 at *
 generalize optB q.li = b5 at *
 generalize chkPer q.fr q.to q.da = cp at *
 cases b1
 ·repeat' ((conv => whnf); first
 | refine Yz ?_
   | (apply CallI.of; assumption)
   | (refine Cmp.tt (by assumption) ?_)
   | (refine Cmp.ff (by assumption) ?_)
   | (refine CallI.of (hr _ _ _) ?_)
   | (refine CallI.of (r_First4 g _ _ _ _) ?_)
   | (refine Ret.mk ?_))
  rfl
 ·
  cases b2
  ·repeat' ((conv => whnf); first
  | refine Yz ?_
    | (apply CallI.of; assumption)
    | (refine Cmp.tt (by assumption) ?_)
    | (refine Cmp.ff (by assumption) ?_)
    | (refine CallI.of (hr _ _ _) ?_)
    | (refine CallI.of (r_First4 g _ _ _ _) ?_)
    | (refine Ret.mk ?_))
   rfl
  ·
   cases b3
   ·repeat' ((conv => whnf); first
   | refine Yz ?_
     | (apply CallI.of; assumption)
     | (refine Cmp.tt (by assumption) ?_)
     | (refine Cmp.ff (by assumption) ?_)
     | (refine CallI.of (hr _ _ _) ?_)
     | (refine CallI.of (r_First4 g _ _ _ _) ?_)
     | (refine Ret.mk ?_))
    rfl
   ·
    cases b4
    ·repeat' ((conv => whnf); first
    | refine Yz ?_
      | (apply CallI.of; assumption)
      | (refine Cmp.tt (by assumption) ?_)
      | (refine Cmp.ff (by assumption) ?_)
      | (refine CallI.of (hr _ _ _) ?_)
      | (refine CallI.of (r_First4 g _ _ _ _) ?_)
      | (refine Ret.mk ?_))
     rfl
    ·
     cases b5
     ·repeat' ((conv => whnf); first
     | refine Yz ?_
       | (apply CallI.of; assumption)
       | (refine Cmp.tt (by assumption) ?_)
       | (refine Cmp.ff (by assumption) ?_)
       | (refine CallI.of (hr _ _ _) ?_)
       | (refine CallI.of (r_First4 g _ _ _ _) ?_)
       | (refine Ret.mk ?_))
      rfl
     ·
      unfold kindB
      by_cases ka : q.ki = [65]
      all_goals by_cases kd : q.ki = [68]
      all_goals by_cases hl : q.li = q.nm
      all_goals by_cases hc : cp = 0
      all_goals repeat' ((conv => whnf); first
      | refine Yz ?_
       | (apply CallI.of; assumption)
       | (refine Cmp.tt (by assumption) ?_)
       | (refine Cmp.ff (by assumption) ?_)
       | (refine CallI.of (hr _ _ _) ?_)
       | (refine CallI.of (r_First4 g _ _ _ _) ?_)
       | (refine Ret.mk ?_))
      all_goals simp_all [firstI]
theorem s_actions : In E 0 n_message_actions [] [] fun v m' => v = .mp ⟨0, 1, 0⟩ ∧ m' = [(⟨0, 1, 0⟩, .map actM)] := by
 refine In.enter (f := n_message_actions) g.lim rfl rfl ?_
 repeat' ((conv => whnf); first
 | refine Yz ?_
  | (refine SetW.mk ⟨_, rfl, ?_⟩)
  | (exact ⟨rfl, rfl⟩))
omit g in
theorem settle_actions {cx : Cx} {slot : Nat} {m : Mem} (hf : Go.Evl.freeK cx.lv slot m = 0) : Go.Evl.settle cx slot 0 m [(⟨0, 1, 0⟩, .map actM)] (.mp ⟨0, 1, 0⟩) = some (.mp ⟨cx.lv, slot, 0⟩, m ++ [(⟨cx.lv, slot, 0⟩, .map actM)]) := by
 unfold Go.Evl.settle
 rw [hf]
 rfl
theorem CallS.actions {cx : Cx} {slot : Nat} {m : Mem} {K : V → Mem → Prop} (hf : Go.Evl.freeK cx.lv slot m = 0) (h : K (.mp ⟨cx.lv, slot, 0⟩) (m ++ [(⟨cx.lv, slot, 0⟩, .map actM)])) : CallS E n_message_actions [] cx slot m K := by
 obtain ⟨v, m', h1, rfl, rfl⟩ := (s_actions g).got
 exact ⟨_, _, _, h1, settle_actions hf, h⟩
theorem s_isAction (s : List UInt8) : Fc E n_message_isAction [S s] (B (actB s)) := by
 refine g.fn rfl rfl ?_
 rcases act_cases s with h | ⟨h, h1, h2⟩
 ·simp only [askL, repL, List.cons_append, List.nil_append, List.mem_cons, List.not_mem_nil, or_false] at h
  rcases h with rfl | rfl | rfl | rfl | rfl | rfl | rfl | rfl | rfl
  all_goals repeat' ((conv => whnf); first
  | refine Yz ?_
   | (refine CallS.actions g rfl ?_)
   | (refine Find.mk ⟨_, rfl, ?_⟩)
   | (refine Ret.mk rfl))
 ·unfold actB
  rw [h1, h2]
  repeat' ((conv => whnf); first
  | refine Yz ?_
   | (refine CallS.actions g rfl ?_)
   | (refine Find.mk ⟨_, h, ?_⟩)
   | (refine Ret.mk rfl))
theorem s_CheckLine (l : Lnt) : Fc E n_message_CheckLine [Lnv l] (I (chkLn l)) := by
 refine g.fn rfl rfl ?_
 have h1 := s_isAction g l.ac
 have h2 := s_CheckRequest g l.rq
 repeat' ((conv => whnf); first
 | refine Yz ?_
  | (apply CallI.of; assumption)
  | (refine CallI.of (s_mwhen g _ _) ?_)
  | (refine CallI.of (s_mfirst2 g _ _) ?_)
  | (refine Ret.mk rfl))
end
end Go.Proofs.YtlnlcdnpgjhaaacGreatDoor.Co
/-
 Messages: requests and lines as a law's parameters; short ones.
-/
namespace Go.Proofs.YtlnlcdnpgjhaaacGreatDoor.Co
open Go Go.Evl
set_option maxRecDepth 100000
theorem fit_str {k : Nat} {ds : List D} (h : fit Tryz.prog (k + 1) 9 ds) : ∃ s, ds = [.str s] := by
 obtain ⟨s, rfl, _⟩ := fit_s Tryz.underlying9 h
 exact ⟨s, rfl⟩
theorem fit_Period {k : Nat} {ds : List D} (h : fit Tryz.prog (k + 2) 41 ds) : ∃ f t d, ds = [DI f, DI t, DI d] := by
 obtain ⟨_, _, rfl, h1, _, _, rfl, h2, _, _, rfl, h3, rfl⟩ := fit_st Tryz.underlying41 h
 obtain ⟨f, rfl, _⟩ := fit_int h1
 obtain ⟨t, rfl, _⟩ := fit_int h2
 obtain ⟨d, rfl, _⟩ := fit_int h3
 exact ⟨f, t, d, rfl⟩
theorem fit_Request {k : Nat} {ds : List D} (h : fit Tryz.prog (k + 3) 43 ds) : ∃ q : Rqt, ds = q.cells := by
 obtain ⟨_, _, rfl, h1, _, _, rfl, h2, _, _, rfl, h3, _, _, rfl, h4, _, _, rfl, h5, _, _, rfl, h6, _, _, rfl, h7, _, _, rfl, h8, _, _, rfl, h9, _, _, rfl, h10, _, _, rfl, h11, rfl⟩ := fit_st Tryz.underlying43 h
 obtain ⟨s1, rfl⟩ := fit_str h1
 obtain ⟨s2, rfl⟩ := fit_str h2
 obtain ⟨s3, rfl⟩ := fit_str h3
 obtain ⟨s4, rfl⟩ := fit_str h4
 obtain ⟨s5, rfl⟩ := fit_str h5
 obtain ⟨s6, rfl⟩ := fit_str h6
 obtain ⟨f, t, d, rfl⟩ := fit_Period h7
 obtain ⟨a, rfl, _⟩ := fit_int h8
 obtain ⟨b, rfl, _⟩ := fit_int h9
 obtain ⟨c, rfl, _⟩ := fit_int h10
 obtain ⟨e, rfl, _⟩ := fit_int h11
 exact ⟨⟨s1, s2, s3, s4, s5, s6, f, t, d, a, b, c, e⟩, rfl⟩
def briefB (q : Rqt) : Bool := decide (q.nm.length ≤ 40 ∧ q.ca.length ≤ 40 ∧ q.ki.length ≤ 40 ∧ q.te.length ≤ 40 ∧ q.pa.length ≤ 40 ∧ q.li.length ≤ 40)
section
variable {E : Oracle} (g : Good E)
include g
set_option maxHeartbeats 4000000 in
theorem r_Brief (q : Rqt) : Fc E n_ref02_Brief [Rqv q] (B (briefB q)) := by
 refine g.fn rfl rfl ?_
 unfold briefB
 by_cases h1 : q.nm.length ≤ 40
 ·by_cases h2 : q.ca.length ≤ 40
  ·by_cases h3 : q.ki.length ≤ 40
   ·by_cases h4 : q.te.length ≤ 40
    ·by_cases h5 : q.pa.length ≤ 40
     ·by_cases h6 : q.li.length ≤ 40
      ·rw [decide_eq_true ⟨h1, h2, h3, h4, h5, h6⟩]
       repeat' ((conv => whnf); first
       | refine Yz ?_
        | (refine Ret.mk rfl))
      ·rw [decide_eq_false (fun h => h6 (by omega))]
       repeat' ((conv => whnf); first
       | refine Yz ?_
        | (refine Ret.mk rfl))
     ·rw [decide_eq_false (fun h => h5 (by omega))]
      repeat' ((conv => whnf); first
      | refine Yz ?_
       | (refine Ret.mk rfl))
    ·rw [decide_eq_false (fun h => h4 (by omega))]
     repeat' ((conv => whnf); first
     | refine Yz ?_
      | (refine Ret.mk rfl))
   ·rw [decide_eq_false (fun h => h3 (by omega))]
    repeat' ((conv => whnf); first
    | refine Yz ?_
     | (refine Ret.mk rfl))
  ·rw [decide_eq_false (fun h => h2 (by omega))]
   repeat' ((conv => whnf); first
   | refine Yz ?_
    | (refine Ret.mk rfl))
 ·rw [decide_eq_false (fun h => h1 (by omega))]
  repeat' ((conv => whnf); first
  | refine Yz ?_
   | (refine Ret.mk rfl))
end
end Go.Proofs.YtlnlcdnpgjhaaacGreatDoor.Co
/-
 Texts of masks: printed (all 128, computed by the kernel) and read.
-/
namespace Go.Proofs.YtlnlcdnpgjhaaacGreatDoor.Co
open Go Go.Evl
def maskL (m : Nat) : List UInt8 := (List.range 7).map fun w => if m / 2 ^ w % 2 = 1 then UInt8.ofNat (49 + w) else 48
def maskOf (s : List UInt8) : Nat → Nat
 | 0 => 0
 | k + 1 => if s.getD k 0 = 48 then maskOf s k else maskOf s k + 2 ^ k
def maskS (s : List UInt8) : Nat := maskOf s (min 7 s.length)
theorem maskOf_lt (s : List UInt8) : ∀ k, maskOf s k < 2 ^ k
 | 0 => by simp [maskOf]
 | k + 1 => by
  have := maskOf_lt s k
  simp only [maskOf]
  rw [Nat.pow_succ]
  split <;> omega
theorem maskL_back : ∀ m : Fin 128, maskS (maskL m.val) = m.val := by decide +kernel
theorem maskS_lt (s : List UInt8) : maskS s < 128 := by
 have h1 := maskOf_lt s (min 7 s.length)
 have h2 : 2 ^ (min 7 s.length) ≤ 2 ^ 7 := Nat.pow_le_pow_right (by decide) (by omega)
 unfold maskS
 omega
def isMaskT (s : List UInt8) : Prop := maskS s ≠ 0 ∧ maskL (maskS s) = s
instance (s : List UInt8) : Decidable (isMaskT s) := by unfold isMaskT; infer_instance
theorem isMaskT_of {s : List UInt8} {m : Nat} (h1 : 1 ≤ m) (h2 : m < 128) (h : maskL m = s) : isMaskT s ∧ maskS s = m := by
 have := maskL_back ⟨m, h2⟩
 simp only at this
 rw [h] at this
 exact ⟨⟨by omega, by rw [this]; exact h⟩, this⟩
theorem or_bitN : ∀ a : Fin 128, ∀ w : Fin 7, a.val < 2 ^ w.val → IntKind.i64.wrap ((BitVec.ofInt IntKind.i64.bits (a.val : Int) ||| BitVec.ofInt IntKind.i64.bits (1 * 2 ^ (min ((w.val : Int)).toNat IntKind.i64.bits))).toNat) = ((a.val + 2 ^ w.val : Nat) : Int) := by decide +kernel
section
variable {E : Oracle} (g : Good E)
include g
set_option maxRecDepth 100000
omit g in
theorem digit1 {k : Nat} (h : k < 7) : digitsF 20 ((k : Int) + 1).toNat = [UInt8.ofNat (49 + k)] := by
 have e : ((k : Int) + 1).toNat = k + 1 := by omega
 rw [e]
 show (if k + 1 < 10 then [UInt8.ofNat (48 + (k + 1))] else _) = _
 rw [if_pos (by omega), show 48 + (k + 1) = 49 + k by omega]
omit g in
def maskK (m : Nat) (k : Nat) : List UInt8 := (List.range k).map fun w => if m / 2 ^ w % 2 = 1 then UInt8.ofNat (49 + w) else 48
omit g in
theorem maskK_succ (m k : Nat) : maskK m (k + 1) = maskK m k ++ [if m / 2 ^ k % 2 = 1 then UInt8.ofNat (49 + k) else 48] := by simp [maskK, List.range_succ]
omit g in
theorem maskK_length (m k : Nat) : (maskK m k).length = k := by simp [maskK]
omit g in
def byD (l : List UInt8) : List D := l.map fun b => D.int .u8 b.toNat
omit g in
theorem bytesOf_byD : ∀ l : List UInt8, Evl.bytesOf (byD l) = some l
 | [] => rfl
 | b :: r => by
  have h := b.toNat_lt
  show (if 0 ≤ (b.toNat : Int) ∧ (b.toNat : Int) < 256 then (Evl.bytesOf (byD r)).map (UInt8.ofNat ((b.toNat : Int)).toNat :: ·) else none) = _
  rw [if_pos (by omega), bytesOf_byD r]
  simp
omit g in
theorem inM_nat (m k : Nat) : inM m k = decide (m / 2 ^ k % 2 = 1) := by
 unfold inM
 rw [Int.toNat_natCast]
 apply decide_eq_decide.2
 have e : ((m : Int) / 2 ^ k % 2) = ((m / 2 ^ k % 2 : Nat) : Int) := by
  rw [Int.natCast_emod, Int.natCast_ediv, Int.natCast_pow]; rfl
 rw [e]
 omega
set_option maxHeartbeats 4000000 in
theorem s_printMask (m : Nat) (h : m < 128) : Fc E n_calendar_printMask [I m] (S (maskL m)) := by
 refine g.fn rfl rfl ?_
 repeat' ((conv => whnf); first
 | refine Yz ?_)
 refine LoopW.to (LoopW.up g (fun k => [(0, I m), (3, .ptr ⟨0, 3, 1⟩ 0 0), (5, I k)]) (fun k => [(⟨0, 3, 0⟩, .row false ty_uint8 1 k (byD (maskK m k))), (⟨0, 3, 1⟩, .cells ty_strings_Builder [match k with | 0 => .d .nilp | _ + 1 => .ptr ⟨0, 3, 1⟩ 0 0, .ref ⟨0, 3, 0⟩ 0 k k])]) 7 (fun k hk ih => ?_) 0 (Nat.zero_le _)) rfl rfl
 have hlen := maskK_length m k
 have hbl : (byD (maskK m k)).length = k := by simp [byD, hlen]
 by_cases hlt : k < 7
 ·have hin := s_inMask g m k (by omega) (by omega)
  rw [inM_nat] at hin
  have hit := s_Itoa g ((k : Int) + 1) (by omega)
  rw [digit1 hlt] at hit
  have hs := maskK_succ m k
  by_cases hb : m / 2 ^ k % 2 = 1
  ·rw [decide_eq_true hb] at hin
   rw [if_pos hb] at hs
   cases k with
   | zero =>
    repeat' ((conv => whnf); first
    | refine Yz ?_
     | (apply CallI.of; assumption)
     | (refine In.enter (f := n_strings_Builder_WriteString) g.lim rfl rfl ?_)
     | (refine Need.mk (by simp [Evl.bytesD] <;> omega) ?_)
     | (refine In.extern g.lim (x := copyX ty_strings_Builder) rfl rfl ?_)
     | (refine Some'.mk ⟨_, rfl, ?_⟩)
     | (refine LoopW.to (ih hlt) rfl ?_))
    rw [hs]; simp [byD, maskK, Evl.bytesD]
   | succ j =>
    repeat' ((conv => whnf); first
    | refine Yz ?_
     | (apply CallI.of; assumption)
     | (refine In.enter (f := n_strings_Builder_WriteString) g.lim rfl rfl ?_)
     | (refine Need.mk (by simp [Evl.bytesD] <;> omega) ?_)
     | (refine In.extern g.lim (x := copyX ty_strings_Builder) rfl rfl ?_)
     | (refine Some'.mk ⟨_, rfl, ?_⟩)
     | (refine LoopW.to (ih hlt) rfl ?_))
    rw [hs]; simp [byD, Evl.bytesD]
  ·rw [decide_eq_false hb] at hin
   rw [if_neg hb] at hs
   cases k with
   | zero =>
    repeat' ((conv => whnf); first
    | refine Yz ?_
     | (apply CallI.of; assumption)
     | (refine In.enter (f := n_strings_Builder_WriteByte) g.lim rfl rfl ?_)
     | (refine In.extern g.lim (x := copyX ty_strings_Builder) rfl rfl ?_)
     | (refine Some'.mk ⟨_, rfl, ?_⟩)
     | (refine LoopW.to (ih hlt) rfl ?_))
    rw [hs]; simp [byD, maskK]
   | succ j =>
    repeat' ((conv => whnf); first
    | refine Yz ?_
     | (apply CallI.of; assumption)
     | (refine In.enter (f := n_strings_Builder_WriteByte) g.lim rfl rfl ?_)
     | (refine In.extern g.lim (x := copyX ty_strings_Builder) rfl rfl ?_)
     | (refine Some'.mk ⟨_, rfl, ?_⟩)
     | (refine LoopW.to (ih hlt) rfl ?_))
    rw [hs]; simp [byD]
 ·obtain rfl : k = 7 := by omega
  have hx : stringX ty_strings_Builder ty_uint8 [.ptr ⟨0, 3, 1⟩ 0 0] [(⟨0, 3, 0⟩, .row false ty_uint8 1 7 (byD (maskK m 7))), (⟨0, 3, 1⟩, .cells ty_strings_Builder [.ptr ⟨0, 3, 1⟩ 0 0, .ref ⟨0, 3, 0⟩ 0 7 7])] = some (S (maskK m 7), [(⟨0, 3, 0⟩, .gone), (⟨0, 3, 1⟩, .cells ty_strings_Builder [.ptr ⟨0, 3, 1⟩ 0 0, .ref ⟨0, 3, 0⟩ 0 7 7])]) := by
   show (match Evl.bytesOf (byD (maskK m 7)) with | some b => some (V.d (.str b), _) | none => none) = _
   rw [bytesOf_byD]; rfl
  repeat' ((conv => whnf); first
  | refine Yz ?_
   | (refine In.extern g.lim (x := stringX ty_strings_Builder ty_uint8) rfl hx ?_)
   | (refine Ret.mk rfl))
theorem s_PrintMask_ok (m : Nat) (h : 1 ≤ m ∧ m ≤ 127) : Fc E n_calendar_PrintMask [I m] (.tup [S (maskL m), I 0]) := by
 refine g.fn rfl rfl ?_
 have hw := s_within g m 1 127
 rw [rng_zero.2 (by omega)] at hw
 repeat' ((conv => whnf); first
 | refine Yz ?_
  | (refine CallI.of hw ?_)
  | (refine CallI.of (s_printMask g m (by omega)) ?_)
  | (refine Ret.mk rfl))
theorem s_ParseMask (s : List UInt8) : Fc E n_calendar_ParseMask [S s] (.tup (if isMaskT s then [I (maskS s), I 0] else [I 0, I 25])) := by
 refine g.fn rfl rfl ?_
 repeat' ((conv => whnf); first
 | refine Yz ?_)
 refine LoopW.to (LoopW.up g (fun k => [(0, S s), (4, I (maskOf s k)), (8, I (if (s.length : Int) < 7 then (s.length : Int) else 7)), (9, I k)]) (fun _ => []) (min 7 s.length) (fun k hk ih => ?_) 0 (Nat.zero_le _)) rfl rfl
 by_cases hlt : k < min 7 s.length
 ·have h1 := maskOf_lt s k
  have h2 : 2 ^ k ≤ 2 ^ 6 := Nat.pow_le_pow_right (by decide) (by omega)
  have hor := or_bitN ⟨maskOf s k, by omega⟩ ⟨k, by omega⟩ h1
  have hps : -9223372036854775808 ≤ 1 * (2 : Int) ^ (min ((k : Int)).toNat IntKind.i64.bits) ∧ 1 * (2 : Int) ^ (min ((k : Int)).toNat IntKind.i64.bits) ≤ 9223372036854775807 := by
   have e : min ((k : Int)).toNat IntKind.i64.bits = k := by
    have : IntKind.i64.bits = 64 := rfl
    omega
   have h3 : ((2 ^ k : Nat) : Int) ≤ 64 := by exact_mod_cast h2
   have h4 : (0 : Int) < 2 ^ k := Int.pow_pos (by decide)
   rw [e]
   rw [Int.natCast_pow] at h3
   have : ((2 : Nat) : Int) ^ k = (2 : Int) ^ k := rfl
   omega
  have hm : maskOf s (k + 1) = if s.getD k 0 = 48 then maskOf s k else maskOf s k + 2 ^ k := rfl
  by_cases e : s.getD k 0 = 48
  ·rw [if_pos e] at hm
   repeat' ((conv => whnf); first
   | refine Yz ?_
    | (refine PickB.at k (by omega) (by omega) ?_)
    | (refine Cmp.tt (by rw [e]; rfl) ?_)
    | (refine LoopW.to (ih hlt) ?_ rfl))
   rw [hm]; rfl
  ·rw [if_neg e] at hm
   have hne : ¬ ((s.getD k 0).toNat : Int) = 48 := fun h => by
    have h8 : (s.getD k 0).toNat = (48 : UInt8).toNat := by show (s.getD k 0).toNat = 48; omega
    exact e (UInt8.toNat_inj.1 h8)
   repeat' ((conv => whnf); first
   | refine Yz ?_
    | (refine PickB.at k (by omega) (by omega) ?_)
    | (refine Cmp.ff hne ?_)
    | (refine Wr.keep hps ?_)
    | (refine LoopW.to (ih hlt) ?_ rfl))
   rw [hm, ← hor]; rfl
 ·have hk' : k = min 7 s.length := by omega
  subst hk'
  have hlt7 := maskS_lt s
  have hp := s_printMask g (maskS s) hlt7
  have hM : maskOf s (min 7 s.length) = maskS s := rfl
  rw [hM]
  by_cases hT : isMaskT s
  ·rw [if_pos hT]
   obtain ⟨h1, h2⟩ := hT
   rw [h2] at hp
   repeat' ((conv => whnf); first
   | refine Yz ?_
    | (refine CallI.of hp ?_)
    | (refine Cmp.tt rfl ?_)
    | (refine Ret.mk rfl))
  ·rw [if_neg hT]
   unfold isMaskT at hT
   by_cases h0 : maskS s = 0
   ·repeat' ((conv => whnf); first
   | refine Yz ?_
     | (refine Ret.mk rfl))
   ·have hne : ¬ maskL (maskS s) = s := fun e => hT ⟨h0, e⟩
    repeat' ((conv => whnf); first
    | refine Yz ?_
     | (refine CallI.of hp ?_)
     | (refine Cmp.ff hne ?_)
     | (refine Ret.mk rfl))
end
end Go.Proofs.YtlnlcdnpgjhaaacGreatDoor.Co
/-
 The parts of a text between the places of one byte: strings.Split's, told by recursion.
-/
namespace Go.Evl
open Go Go.Lib
def parts (b : UInt8) : List UInt8 → List (List UInt8)
 | [] => [[]]
 | x :: r => if x = b then [] :: parts b r else
  match parts b r with
  | [] => [[x]]
  | p :: q => (x :: p) :: q
theorem parts_ne (b : UInt8) (s : List UInt8) : parts b s ≠ [] := by
 cases s with
 | nil => simp [parts]
 | cons x r =>
  unfold parts
  split
  ·simp
  ·split <;> simp
theorem splitK_parts (b : UInt8) : ∀ s : List UInt8, splitK [b] 0 (count s [b]) s = parts b s
 | [] => by
  have : count ([] : List UInt8) [b] = 0 := count_miss (by rw [index_one]; rfl)
  rw [this]; rfl
 | x :: r => by
  have ih := splitK_parts b r
  unfold parts
  by_cases h : x = b
  ·subst h
   have hi : index (x :: r) [x] = ((0 : Nat) : Int) := by rw [index_one]; simp [indexByte]
   have hc := count_hit (by simp) hi
   simp only [List.length_cons, List.length_nil, Nat.zero_add, List.drop_succ_cons, List.drop_zero] at hc
   rw [hc, Nat.add_comm 1, if_pos rfl, ← ih]
   simp only [splitK, hi, List.length_cons, List.length_nil]
   rfl
  ·rw [count_cons_ne x b r h, if_neg h, ← ih]
   have hx : (x == b) = false := by simpa using h
   generalize count r [b] = k
   cases k with
   | zero => rfl
   | succ k =>
    have hr : index (x :: r) [b] = if indexByte r b == -1 then -1 else indexByte r b + 1 := by rw [index_one]; simp [indexByte, hx]
    have hq : index r [b] = indexByte r b := index_one r b
    simp only [splitK, hr, hq]
    have hge := indexByte_ge r b
    by_cases hm : indexByte r b = -1
    ·simp [hm]
    ·obtain ⟨i, hi⟩ : ∃ i : Nat, indexByte r b = i := ⟨(indexByte r b).toNat, by omega⟩
     rw [hi]
     have e1 : (((i : Nat) : Int) == -1) = false := by simp
     have e2 : (((i : Nat) : Int) + 1 == -1) = false := by simp; omega
     have e3 : (((i : Nat) : Int) + 1).toNat = i + 1 := by omega
     simp only [e1, e2, e3, Bool.false_eq_true, if_false, Int.toNat_natCast, Nat.add_zero, List.take_succ_cons, List.length_cons, List.length_nil, Nat.zero_add, List.drop_succ_cons]
theorem splitD_parts (s : List UInt8) (b : UInt8) : splitD s [b] = parts b s := by
 unfold splitD
 rw [splitB_data]
 exact splitK_parts b s
def joined (b : UInt8) : List (List UInt8) → List UInt8
 | [] => []
 | [x] => x
 | x :: y :: r => x ++ b :: joined b (y :: r)
theorem join_joined (b : UInt8) : ∀ l : List (List UInt8), Lib.join l [b] = joined b l
 | [] => rfl
 | [x] => Lib.join_one x [b]
 | x :: y :: r => by
  have ih := join_joined b (y :: r)
  simp only [Lib.join, List.intercalate] at ih ⊢
  simp only [List.intersperse_cons_cons, List.flatten_cons, ih, joined]
  simp
theorem joined_cons (b x : UInt8) (p : List UInt8) (q : List (List UInt8)) : joined b ((x :: p) :: q) = x :: joined b (p :: q) := by
 cases q <;> rfl
theorem joined_parts (b : UInt8) : ∀ s : List UInt8, joined b (parts b s) = s
 | [] => rfl
 | x :: r => by
  have ih := joined_parts b r
  unfold parts
  by_cases h : x = b
  ·rw [if_pos h]
   cases hp : parts b r with
   | nil => exact absurd hp (parts_ne b r)
   | cons p q => rw [joined, ← hp, ih, h]; rfl
  ·rw [if_neg h]
   cases hp : parts b r with
   | nil => exact absurd hp (parts_ne b r)
   | cons p q =>
    rw [hp] at ih
    rw [joined_cons, ih]
theorem parts_word (b : UInt8) : ∀ w : List UInt8, b ∉ w → parts b w = [w]
 | [], _ => rfl
 | x :: r, h => by
  have hx : ¬ x = b := fun e => h (by simp [e])
  have hr : b ∉ r := fun e => h (by simp [e])
  unfold parts
  rw [if_neg hx, parts_word b r hr]
theorem parts_append (b : UInt8) (s : List UInt8) : ∀ w : List UInt8, b ∉ w → parts b (w ++ b :: s) = w :: parts b s
 | [], _ => by simp [parts]
 | x :: r, h => by
  have hx : ¬ x = b := fun e => h (by simp [e])
  have hr : b ∉ r := fun e => h (by simp [e])
  rw [List.cons_append, parts, if_neg hx, parts_append b s r hr]
theorem parts_joined (b : UInt8) : ∀ l : List (List UInt8), l ≠ [] → (∀ w ∈ l, b ∉ w) → parts b (joined b l) = l
 | [], h, _ => absurd rfl h
 | [x], _, h => parts_word b x (h x (by simp))
 | x :: y :: r, _, h => by
  rw [joined, parts_append b _ x (h x (by simp)), parts_joined b (y :: r) (by simp) fun w hw => h w (by simp at hw ⊢; exact .inr hw)]
end Go.Evl
/-
 Messages: the words of a line, and how the reference prints them.
-/
namespace Go.Proofs.YtlnlcdnpgjhaaacGreatDoor.Co
open Go Go.Evl
def dashL (s : List UInt8) : List UInt8 := if s = [] then [45] else s
def wordsL (l : Lnt) : List (List UInt8) := [l.ac, l.rq.ca, l.rq.nm, l.rq.ki, l.rq.pa, wideL 5 l.rq.fr, wideL 5 l.rq.to, maskL l.rq.da.toNat, minL l.rq.mi, wideL 3 l.rq.se, wideL 1 l.rq.si, wideL 2 l.rq.no, dashL l.rq.te, dashL l.rq.li]
def lineL (l : Lnt) : List UInt8 := joined 32 (wordsL l)
theorem firstI_zero : ∀ l : List Int, firstI l = 0 ↔ ∀ x ∈ l, x = 0
 | [] => by simp [firstI]
 | x :: r => by
  simp only [firstI, List.mem_cons, forall_eq_or_imp]
  split
  ·rename_i h; rw [firstI_zero r]; exact ⟨fun hr => ⟨h, hr⟩, fun hr => hr.2⟩
  ·rename_i h; exact ⟨fun hr => absurd hr h, fun hr => absurd hr.1 h⟩
structure OkRq (q : Rqt) : Prop where
 nm : isNameB q.nm = true
 ca : isNameB q.ca = true
 pa : isNameB q.pa = true
 te : optB q.te = true
 li : optB q.li = true
 ki : kindB q.ki = true
 ne : q.li ≠ q.nm
 per : 0 ≤ q.fr ∧ q.fr ≤ q.to ∧ q.to ≤ 99999 ∧ q.to - q.fr ≤ 400 ∧ 1 ≤ q.da ∧ q.da ≤ 127
 mi : 0 ≤ q.mi ∧ q.mi ≤ 1439
 se : 0 ≤ q.se ∧ q.se ≤ 999
 si : 1 ≤ q.si ∧ q.si ≤ 9
 no : 0 ≤ q.no ∧ q.no ≤ 99
theorem nmE_zero {s : List UInt8} (h : nmE s = 0) : isNameB s = true := by
 unfold nmE at h
 cases hb : isNameB s with
 | true => rfl
 | false => rw [hb] at h; simp at h
theorem opE_zero {s : List UInt8} (h : opE s = 0) : optB s = true := by
 unfold opE at h
 cases hb : optB s with
 | true => rfl
 | false => rw [hb] at h; simp at h
theorem chkRq_ok {q : Rqt} (h : chkRq q = 0) : OkRq q := by
 unfold chkRq at h
 rw [firstI_zero] at h
 simp only [List.mem_cons, List.not_mem_nil, or_false, forall_eq_or_imp, forall_eq] at h
 obtain ⟨h1, h2, h3, h4, h5, h6, h7, h8, h9, h10, h11, h12⟩ := h
 refine ⟨nmE_zero h1, nmE_zero h2, nmE_zero h3, opE_zero h4, opE_zero h5, ?_, ?_, chkPer_zero.1 h8, rng_zero.1 h9, rng_zero.1 h10, rng_zero.1 h11, rng_zero.1 h12⟩
 ·cases hb : kindB q.ki with
  | true => rfl
  | false => rw [hb] at h6; simp at h6
 ·intro e; rw [if_pos e] at h7; cases h7
theorem chkLn_ok {l : Lnt} (h : chkLn l = 0) : actB l.ac = true ∧ OkRq l.rq := by
 rw [chkLn_eq] at h
 split at h
 ·rename_i ha; exact ⟨ha, chkRq_ok h⟩
 ·cases h
theorem name_len {s : List UInt8} (h : isNameB s = true) : s.length ≤ 24 := (of_decide_eq_true h).2.1
theorem opt_len {s : List UInt8} (h : optB s = true) : s.length ≤ 24 := by
 simp only [optB, Bool.or_eq_true, decide_eq_true_eq] at h
 rcases h with rfl | h
 ·simp
 ·exact name_len h
theorem kind_len {s : List UInt8} (h : kindB s = true) : s.length ≤ 24 := by
 simp only [kindB, Bool.or_eq_true, decide_eq_true_eq] at h
 rcases h with rfl | rfl <;> simp
theorem act_len {s : List UInt8} (h : actB s = true) : s.length ≤ 24 := by
 simp only [actB, asksB, repB, Bool.or_eq_true, decide_eq_true_eq, askL, repL, List.mem_cons, List.not_mem_nil, or_false] at h
 rcases h with (rfl | rfl | rfl | rfl | rfl) | rfl | rfl | rfl | rfl <;> simp
theorem dash_len {s : List UInt8} (h : optB s = true) : (dashL s).length ≤ 24 := by
 unfold dashL
 split
 ·simp
 ·exact opt_len h
theorem minL_length (m : Int) : (minL m).length = 4 := by simp [minL, wideL_length]
theorem maskL_length (m : Nat) : (maskL m).length = 7 := by simp [maskL]
theorem joined_len (b : UInt8) (n : Nat) : ∀ l : List (List UInt8), (∀ w ∈ l, w.length ≤ n) → (joined b l).length ≤ l.length * (n + 1)
 | [], _ => by simp [joined]
 | [x], h => by
  have := h x (by simp)
  simp only [joined, List.length_cons, List.length_nil]
  omega
 | x :: y :: r, h => by
  have h1 := h x (by simp)
  have h2 := joined_len b n (y :: r) fun w hw => h w (List.mem_cons_of_mem _ hw)
  rw [List.length_cons, Nat.succ_mul]
  simp only [joined, List.length_append, List.length_cons] at h2 ⊢
  omega
theorem words_len {l : Lnt} (ha : actB l.ac = true) (hq : OkRq l.rq) : ∀ w ∈ wordsL l, w.length ≤ 24 := by
 have h1 := act_len ha
 have h2 := name_len hq.ca
 have h3 := name_len hq.nm
 have h4 := name_len hq.pa
 have h5 := kind_len hq.ki
 have h6 := dash_len hq.te
 have h7 := dash_len hq.li
 simp only [wordsL, List.mem_cons, List.not_mem_nil, or_false, forall_eq_or_imp, forall_eq, wideL_length, minL_length, maskL_length]
 omega
theorem lineL_len {l : Lnt} (ha : actB l.ac = true) (hq : OkRq l.rq) : (lineL l).length ≤ 350 := by
 have := joined_len 32 24 (wordsL l) (words_len ha hq)
 have hw : (wordsL l).length = 14 := rfl
 rw [hw] at this
 exact Nat.le_trans this (by decide)
theorem strsOf_map : ∀ l : List (List UInt8), Evl.strsOf (l.map D.str) = some l
 | [] => rfl
 | x :: r => by simp only [List.map_cons, Evl.strsOf, strsOf_map r, Option.map_some]
section
variable {E : Oracle} (g : Good E)
include g
set_option maxRecDepth 100000
theorem s_Join (l : List (List UInt8)) (hn : l ≠ []) (hl : l.length ≤ 1000000) (hj : (joined 32 l).length ≤ 1000000) : Fc E n_strings_Join [.d (.list l.length (l.map D.str)), S [32]] (S (joined 32 l)) := by
 refine Fc.extern g.lim (x := joinX) rfl (v := S (joined 32 l)) (m' := []) ?_ rfl
 simp only [joinX, strsOf_map, join_joined]
 rw [if_pos ⟨trivial, by simpa using hn, hj, hl⟩]
end
end Go.Proofs.YtlnlcdnpgjhaaacGreatDoor.Co
/-
 Rows of records; the first of errors.
-/
namespace Go.Proofs.YtlnlcdnpgjhaaacGreatDoor.Co
open Go Go.Evl
theorem flatR_length {α : Type} (cell : α → List D) (w : Nat) (hw : ∀ a, (cell a).length = w) : ∀ l : List α, (l.flatMap cell).length = l.length * w
 | [] => by simp
 | c :: r => by rw [List.flatMap_cons, List.length_append, hw, flatR_length cell w hw r, List.length_cons, Nat.succ_mul]; omega
theorem flatR_drop {α : Type} (cell : α → List D) (w : Nat) (hw : ∀ a, (cell a).length = w) : ∀ (l : List α) (k : Nat), (l.flatMap cell).drop (k * w) = (l.drop k).flatMap cell
 | l, 0 => by simp
 | [], k + 1 => by simp
 | c :: r, k + 1 => by
  rw [List.flatMap_cons, List.drop_succ_cons, ← flatR_drop cell w hw r k, Nat.succ_mul, Nat.add_comm, ← List.drop_drop]
  congr 1
  rw [List.drop_append_of_le_length (by rw [hw]; exact Nat.le_refl _), List.drop_of_length_le (by rw [hw]; exact Nat.le_refl _)]
  rfl
theorem flatR_win {α : Type} (cell : α → List D) (w : Nat) (hw : ∀ a, (cell a).length = w) (l : List α) (k : Nat) (h : k < l.length) : win (l.flatMap cell) (k * w) w = cell l[k] := by
 unfold win
 rw [flatR_drop cell w hw, List.drop_eq_getElem_cons h, List.flatMap_cons, List.take_append_of_le_length (by rw [hw]; exact Nat.le_refl _), List.take_of_length_le (by rw [hw]; exact Nat.le_refl _)]
theorem flatR_get {α : Type} (cell : α → List D) (w : Nat) (hw : ∀ a, (cell a).length = w) (l : List α) (k j : Nat) (h : k < l.length) (hj : j < w) : (l.flatMap cell)[k * w + j]? = (cell l[k])[j]? := by
 rw [← List.getElem?_drop, flatR_drop cell w hw, List.drop_eq_getElem_cons h, List.flatMap_cons, List.getElem?_append_left (by rw [hw]; exact hj)]
theorem flatR_take {α : Type} (cell : α → List D) (l : List α) (k : Nat) (h : k < l.length) : (l.take (k + 1)).flatMap cell = (l.take k).flatMap cell ++ cell l[k] := by
 rw [List.take_add_one, List.flatMap_append, List.getElem?_eq_getElem h]
 simp
theorem PickW.rec {α : Type} {cell : α → List D} {w : Nat} (hw : ∀ a, (cell a).length = w) {l : List α} {i : Int} {K : List D → Prop} (k : Nat) (hi : i = k) (h : k < l.length) (hk : K (cell l[k])) : PickW (l.flatMap cell) (i.toNat * w) w K := by
 subst hi
 rw [Int.toNat_natCast]
 have h1 := flatR_length cell w hw l
 refine ⟨?_, by rw [flatR_win cell w hw l k h]; exact hk⟩
 have h2 : (k + 1) * w ≤ l.length * w := Nat.mul_le_mul_right _ h
 rw [Nat.succ_mul] at h2
 omega
theorem PickW.rec0 {α : Type} {cell : α → List D} {w : Nat} (hw : ∀ a, (cell a).length = w) {l : List α} {i : Int} {K : List D → Prop} (k : Nat) (hi : i = k) (h : k < l.length) (hk : K (cell l[k])) : PickW (l.flatMap cell) ((0 + i.toNat) * w) w K := by
 rw [Nat.zero_add]; exact PickW.rec hw k hi h hk
theorem Pick.rec {α : Type} {cell : α → List D} {w : Nat} (hw : ∀ a, (cell a).length = w) {l : List α} {i : Int} {j : Nat} {K : D → Prop} {d : D} (k : Nat) (hi : i = k) (h : k < l.length) (hj : (cell l[k])[j]? = some d) (hk : K d) : Pick (l.flatMap cell) (i.toNat * w + j) K := by
 subst hi
 rw [Int.toNat_natCast]
 have hlt : j < w := by
  have := (List.getElem?_eq_some_iff.1 hj).1
  rwa [hw] at this
 exact ⟨⟨d, by rw [flatR_get cell w hw l k j h hlt]; exact hj, hk⟩⟩
theorem Pick.rec0 {α : Type} {cell : α → List D} {w : Nat} (hw : ∀ a, (cell a).length = w) {l : List α} {i : Int} {j : Nat} {K : D → Prop} {d : D} (k : Nat) (hi : i = k) (h : k < l.length) (hj : (cell l[k])[j]? = some d) (hk : K d) : Pick (l.flatMap cell) ((0 + i.toNat) * w + j) K := by
 rw [Nat.zero_add]; exact Pick.rec hw k hi h hj hk
theorem Pick.intI {l : List Int} {i : Int} {K : D → Prop} (k : Nat) (hi : i = k) (h : k < l.length) (hk : K (DI l[k])) : Pick (l.map DI) (i.toNat * 1) K := by
 subst hi
 refine ⟨⟨_, ?_, hk⟩⟩
 simp [h]
theorem Pick.intI0 {l : List Int} {i : Int} {K : D → Prop} (k : Nat) (hi : i = k) (h : k < l.length) (hk : K (DI l[k])) : Pick (l.map DI) ((0 + i.toNat) * 1) K := by
 subst hi
 refine ⟨⟨_, ?_, hk⟩⟩
 simp [h]
end Go.Proofs.YtlnlcdnpgjhaaacGreatDoor.Co
/-
 Requests checked together, by the program and by the reference; the place of a name.
-/
namespace Go.Proofs.YtlnlcdnpgjhaaacGreatDoor.Co
open Go Go.Evl
set_option maxRecDepth 100000
abbrev LQ (l : List Rqt) : V := .d (.list l.length (l.flatMap Rqt.cells))
def nmsQ (l : List Rqt) : List (List UInt8) := l.map (·.nm)
theorem nmsQ_succ {l : List Rqt} {k : Nat} (h : k < l.length) : nmsQ (l.take (k + 1)) = nmsQ (l.take k) ++ [l[k].nm] := by
 unfold nmsQ
 rw [List.take_add_one, List.getElem?_eq_getElem h, List.map_append]
 rfl
def chkRqG (seen : List (List UInt8)) : List Rqt → Int
 | [] => 0
 | x :: r => if firstI [chkRq x, if x.nm ∈ seen then 9 else 0] = 0 then chkRqG (seen ++ [x.nm]) r else firstI [chkRq x, if x.nm ∈ seen then 9 else 0]
def chkRqs (l : List Rqt) : Int := if 64 < l.length then 5 else chkRqG [] l
theorem chkRqG_zero : ∀ (l : List Rqt) (seen : List (List UInt8)), chkRqG seen l = 0 → (nmsQ l).Nodup ∧ (∀ s ∈ nmsQ l, s ∉ seen) ∧ ∀ x ∈ l, chkRq x = 0
 | [], _, _ => by simp [nmsQ]
 | x :: r, seen, h => by
  rw [chkRqG] at h
  by_cases hz : firstI [chkRq x, if x.nm ∈ seen then 9 else 0] = 0
  ·rw [if_pos hz] at h
   rw [firstI_zero] at hz
   have h1 := hz _ (List.mem_cons_self ..)
   have h2 := hz (if x.nm ∈ seen then 9 else 0) (by simp)
   have h2 : x.nm ∉ seen := fun hm => by rw [if_pos hm] at h2; cases h2
   obtain ⟨a, b, c⟩ := chkRqG_zero r _ h
   refine ⟨?_, ?_, ?_⟩
   ·show (x.nm :: nmsQ r).Nodup
    refine List.nodup_cons.2 ⟨fun hm => ?_, a⟩
    exact b _ hm (by simp)
   ·intro s hs
    rcases List.mem_cons.1 hs with rfl | hs
    ·exact h2
    ·exact fun hm => b s hs (by simp [hm])
   ·intro y hy
    rcases List.mem_cons.1 hy with rfl | hy
    ·exact h1
    ·exact c y hy
  ·rw [if_neg hz] at h
   exact absurd h hz
theorem chkRqs_zero {l : List Rqt} (h : chkRqs l = 0) : l.length ≤ 64 ∧ (nmsQ l).Nodup ∧ ∀ x ∈ l, chkRq x = 0 := by
 unfold chkRqs at h
 split at h
 ·cases h
 ·obtain ⟨a, _, c⟩ := chkRqG_zero _ _ h
  exact ⟨by omega, a, c⟩
def atG (s : List UInt8) : Nat → List Rqt → Int
 | _, [] => -1
 | i, x :: r => if x.nm = s then (i : Int) else atG s (i + 1) r
theorem atG_spec (s : List UInt8) : ∀ (l : List Rqt) (i : Nat), (atG s i l = -1 ∧ s ∉ nmsQ l) ∨ ∃ (k : Nat) (h : k < l.length), atG s i l = ((i + k : Nat) : Int) ∧ l[k].nm = s ∧ ∀ (j : Nat) (hj : j < k), ¬ (l[j]'(Nat.lt_trans hj h)).nm = s
 | [], i => .inl ⟨rfl, by simp [nmsQ]⟩
 | x :: r, i => by
  rw [atG]
  by_cases hx : x.nm = s
  ·rw [if_pos hx]
   exact .inr ⟨0, by simp, rfl, hx, fun j hj => absurd hj (Nat.not_lt_zero _)⟩
  ·rw [if_neg hx]
   rcases atG_spec s r (i + 1) with ⟨h1, h2⟩ | ⟨k, h, h1, h2, h3⟩
   ·exact .inl ⟨h1, fun hm => (List.mem_cons.1 hm).elim (fun e => hx e.symm) h2⟩
   ·refine .inr ⟨k + 1, by simpa using h, by rw [h1]; congr 1; omega, by simpa using h2, fun j hj => ?_⟩
    cases j with
    | zero => simpa using hx
    | succ j => simpa using h3 j (by omega)
section
variable {E : Oracle} (g : Good E)
include g
theorem r_At (l : List Rqt) (s : List UInt8) (hl : l.length ≤ 1000000) : Fc E n_ref02_At [LQ l, S s] (I (atG s 0 l)) := by
 refine g.fn rfl rfl ?_
 generalize hR : atG s 0 l = R
 repeat' ((conv => whnf); first
 | refine Yz ?_)
 refine LoopW.to (LoopW.upP g (fun k => [(0, LQ l), (1, S s), (5, I k)]) (fun _ => []) (fun k => atG s k (l.drop k) = R) l.length (fun k hk h0 ih => ?_) 0 (Nat.zero_le _) hR) rfl rfl
 by_cases hlt : k < l.length
 ·rw [List.drop_eq_getElem_cons hlt, atG] at h0
  have ih := ih hlt
  by_cases hd : l[k].nm = s
  ·rw [if_pos hd] at h0
   rw [← h0]
   repeat' ((conv => whnf); first
   | refine Yz ?_
    | (refine Pick.rec Rqt.cells_length k rfl hlt rfl ?_)
    | (refine Cmp.tt hd ?_)
    | (refine Ret.mk rfl))
  ·rw [if_neg hd] at h0
   have ih := ih h0
   repeat' ((conv => whnf); first
   | refine Yz ?_
    | (refine Pick.rec Rqt.cells_length k rfl hlt rfl ?_)
    | (refine Cmp.ff hd ?_)
    | (refine LoopW.to ih rfl rfl))
 ·rw [List.drop_eq_nil_of_le (by omega), atG] at h0
  rw [← h0]
  repeat' ((conv => whnf); first
  | refine Yz ?_
   | (refine Ret.mk rfl))
omit g in
theorem win_take (l : List Rqt) (k : Nat) (h : k ≤ l.length) : win (l.flatMap Rqt.cells) 0 (k * 13) = (l.take k).flatMap Rqt.cells := by
 unfold win
 rw [List.drop_zero]
 have e : l.flatMap Rqt.cells = (l.take k).flatMap Rqt.cells ++ (l.drop k).flatMap Rqt.cells := by rw [← List.flatMap_append, List.take_append_drop]
 have hn := flatR_length Rqt.cells 13 Rqt.cells_length (l.take k)
 rw [List.length_take, Nat.min_eq_left h] at hn
 rw [e, List.take_append_of_le_length (by omega), List.take_of_length_le (by omega)]
set_option maxHeartbeats 4000000 in
theorem r_CheckRequests (l : List Rqt) (hl : l.length ≤ 1000000) : Fc E n_ref02_CheckRequests [LQ l] (I (chkRqs l)) := by
 refine g.fn rfl rfl ?_
 unfold chkRqs
 by_cases hn : 64 < l.length
 ·rw [if_pos hn]
  repeat' ((conv => whnf); first
  | refine Yz ?_
   | (refine Ret.mk rfl))
 ·rw [if_neg hn]
  generalize hR : chkRqG [] l = R
  repeat' ((conv => whnf); first
  | refine Yz ?_)
  refine LoopW.to (LoopW.upP g (fun k => [(0, LQ l), (3, I k)]) (fun _ => []) (fun k => chkRqG (nmsQ (l.take k)) (l.drop k) = R) l.length (fun k hk h0 ih => ?_) 0 (Nat.zero_le _) hR) rfl rfl
  by_cases hlt : k < l.length
  ·rw [List.drop_eq_getElem_cons hlt, chkRqG, ← nmsQ_succ hlt] at h0
   have ih := ih hlt
   have hc := r_CheckRequest g l[k]
   by_cases hz : chkRq l[k] = 0
   ·rw [hz] at hc h0
    have ha := r_At g (l.take k) l[k].nm (by simp; omega)
    have ht : V.d (.list (k - 0) (win (l.flatMap Rqt.cells) (0 * 13) ((k - 0) * 13))) = LQ (l.take k) := by
     rw [Nat.zero_mul, Nat.sub_zero, win_take l k (by omega), LQ, List.length_take, Nat.min_eq_left (by omega)]
    rcases atG_spec l[k].nm (l.take k) 0 with ⟨h1, h2⟩ | ⟨j, hj, h1, h2, _⟩
    ·rw [if_neg h2, if_pos (by decide)] at h0
     have ih := ih h0
     rw [h1] at ha
     repeat' ((conv => whnf); first
     | refine Yz ?_
      | (refine PickW.rec Rqt.cells_length k rfl hlt ?_)
      | (refine Pick.rec Rqt.cells_length k rfl hlt rfl ?_)
      | (refine CallI.of hc ?_)
      | (refine CallI.of ha ?_)
      | (refine Bounds.at 0 k rfl rfl (by omega) ?_ <;> (try rw [ht]))
      | (refine LoopW.to ih rfl rfl))
    ·have hm : l[k].nm ∈ nmsQ (l.take k) := by
      unfold nmsQ
      rw [List.mem_map]
      exact ⟨_, List.getElem_mem hj, h2⟩
     rw [if_pos hm, if_neg (by decide)] at h0
     rw [← h0]
     rw [h1] at ha
     repeat' ((conv => whnf); first
     | refine Yz ?_
      | (refine PickW.rec Rqt.cells_length k rfl hlt ?_)
      | (refine Pick.rec Rqt.cells_length k rfl hlt rfl ?_)
      | (refine CallI.of hc ?_)
      | (refine CallI.of ha ?_)
      | (refine Bounds.at 0 k rfl rfl (by omega) ?_ <;> (try rw [ht]))
      | (refine Ret.mk rfl))
   ·have e : ∀ x, firstI [chkRq l[k], x] = chkRq l[k] := fun x => by simp [firstI, hz]
    rw [e, if_neg hz] at h0
    rw [← h0]
    repeat' ((conv => whnf); first
    | refine Yz ?_
     | (refine PickW.rec Rqt.cells_length k rfl hlt ?_)
     | (refine CallI.of hc ?_)
     | (refine Cmp.ff hz ?_)
     | (refine Ret.mk rfl))
  ·rw [List.drop_eq_nil_of_le (by omega), chkRqG] at h0
   rw [← h0]
   repeat' ((conv => whnf); first
   | refine Yz ?_
    | (refine Ret.mk rfl))
end
end Go.Proofs.YtlnlcdnpgjhaaacGreatDoor.Co
/-
 Messages: seasons, heads, and the lines of a message, checked.
-/
namespace Go.Proofs.YtlnlcdnpgjhaaacGreatDoor.Co
open Go Go.Evl
def seasB (s : List UInt8) : Bool := decide (s.length = 5 ∧ ((s.getD 0 0).toNat = 83 ∨ (s.getD 0 0).toNat = 87)) && numB (win s 1 (s.length - 1)) 4
def headE (ai se : List UInt8) (da : Int) : Int := firstI [nmE ai, if (!seasB se) = true then 1 else 0, rng da 0 99999]
def msgB (s : List UInt8) : Bool := decide (s = REQ) || decide (s = ANS)
section
variable {E : Oracle} (g : Good E)
include g
set_option maxRecDepth 100000
set_option maxHeartbeats 4000000 in
theorem s_isSeason (s : List UInt8) : Fc E n_message_isSeason [S s] (B (seasB s)) := by
 refine g.fn rfl rfl ?_
 unfold seasB
 by_cases h0 : s.length = 5 ∧ ((s.getD 0 0).toNat = 83 ∨ (s.getD 0 0).toNat = 87)
 ·rw [decide_eq_true h0, Bool.true_and]
  obtain ⟨hl, hc⟩ := h0
  have hb := toNat_u8 (s.getD 0 0)
  have hwl : (win s 1 (s.length - 1)).length = 4 := by simp [win, hl]
  repeat' ((conv => whnf); first
  | refine Yz ?_
   | (refine PickB.at 0 (by decide) (by omega) ?_)
   | (refine Bounds.mk (by omega) ?_)
   | (refine Cmp.mk (fun h => ?_) (fun h => ?_)) | (refine Rem.any (by omega) (fun r hr he => ?_)) | (refine Br.mk (fun h => ?_) (fun h => ?_))
   | (exfalso; omega))
  all_goals
   change LoopW E _ _ _ _ [(20, .it ⟨0, 20, 0⟩)] [(⟨0, 20, 0⟩, .iter (win s 1 (s.length - 1)) 0)] _
   generalize win s 1 (s.length - 1) = t at *
   refine LoopW.to (LoopW.upP g (fun _ => [(20, .it ⟨0, 20, 0⟩)]) (fun k => [(⟨0, 20, 0⟩, .iter t k)]) (fun k => ∀ i, i < k → dg (t.getD i 0)) t.length (fun k hk hp ih => ?_) 0 (Nat.zero_le _) (fun i hi => by omega)) rfl rfl
   by_cases hlt : k < t.length
   ·by_cases ha : (t.getD k 0).toNat < 128
    ·by_cases hok : dg (t.getD k 0)
     ·have ih := ih hlt fun i hi => by
       by_cases e : i = k
       ·subst e; exact hok
       ·exact hp i (by omega)
      unfold dg at hok
      repeat' ((conv => whnf); first
      | refine Yz ?_
       | (refine NextW.asc hlt ha ?_)
       | (refine Cmp.mk (fun h => ?_) (fun h => ?_)) | (refine Rem.any (by omega) (fun r hr he => ?_)) | (refine Br.mk (fun h => ?_) (fun h => ?_))
       | (refine LoopW.to ih rfl rfl)
       | (exfalso; omega))
     ·rw [numB_dig (w := 4) hlt hok]
      unfold dg at hok
      repeat' ((conv => whnf); first
      | refine Yz ?_
       | (refine NextW.asc hlt ha ?_)
       | (refine Cmp.mk (fun h => ?_) (fun h => ?_)) | (refine Rem.any (by omega) (fun r hr he => ?_)) | (refine Br.mk (fun h => ?_) (fun h => ?_))
       | (refine Ret.mk rfl)
       | (exfalso; omega))
    ·rw [numB_dig (w := 4) hlt (by unfold dg; omega)]
     repeat' ((conv => whnf); first
     | refine Yz ?_
      | (refine NextW.high hlt (by omega) (fun c w hc hw => ?_))
      | (refine Cmp.mk (fun h => ?_) (fun h => ?_)) | (refine Rem.any (by omega) (fun r hr he => ?_)) | (refine Br.mk (fun h => ?_) (fun h => ?_))
      | (refine Ret.mk rfl)
      | (exfalso; omega))
   ·have hk' : k = t.length := by omega
    subst hk'
    rw [numB_yes hwl hp]
    repeat' ((conv => whnf); first
    | refine Yz ?_
     | (refine NextW.end' (Nat.le_refl _) ?_)
     | (refine Ret.mk rfl))
 ·rw [decide_eq_false h0, Bool.false_and]
  by_cases hl : s.length = 5
  ·have hb := toNat_u8 (s.getD 0 0)
   have hc : (s.getD 0 0).toNat ≠ 83 ∧ (s.getD 0 0).toNat ≠ 87 := by omega
   clear h0
   repeat' ((conv => whnf); first
   | refine Yz ?_
    | (refine PickB.at 0 (by decide) (by omega) ?_)
    | (refine Ret.mk rfl))
  ·clear h0
   repeat' ((conv => whnf); first
   | refine Yz ?_
    | (refine Ret.mk rfl))
theorem s_checkHead (ai se : List UInt8) (da : Int) : Fc E n_message_checkHead [S ai, S se, I da] (I (headE ai se da)) := by
 refine g.fn rfl rfl ?_
 have h1 := s_named g ai
 have h2 := s_isSeason g se
 have h3 := s_mwithin g da 0 99999
 repeat' ((conv => whnf); first
 | refine Yz ?_
  | (apply CallI.of; assumption)
  | (refine CallI.of (s_mwhen g _ _) ?_)
  | (refine CallI.of (s_mfirst3 g _ _ _) ?_)
  | (refine Ret.mk rfl))
theorem s_isMessage (s : List UInt8) : Fc E n_message_isMessage [S s] (B (msgB s)) := by
 refine g.fn rfl rfl ?_
 unfold msgB
 by_cases he : s = REQ
 ·subst he
  repeat' ((conv => whnf); first
  | refine Yz ?_
   | (refine Ret.mk rfl))
 ·rw [decide_eq_false he]
  by_cases hd : s = ANS
  ·subst hd
   repeat' ((conv => whnf); first
   | refine Yz ?_
    | (refine Ret.mk rfl))
  ·rw [decide_eq_false hd]
   repeat' ((conv => whnf); first
   | refine Yz ?_
    | (refine Cmp.ff he ?_)
    | (refine Cmp.ff hd ?_)
    | (refine Ret.mk rfl))
end
end Go.Proofs.YtlnlcdnpgjhaaacGreatDoor.Co
/-
 Words without blanks, plain.
-/
namespace Go.Proofs.YtlnlcdnpgjhaaacGreatDoor.Co
open Go Go.Evl
def vis (s : List UInt8) : Prop := ∀ x ∈ s, 32 < x.toNat
theorem vis_no {s : List UInt8} (h : vis s) : (32 : UInt8) ∉ s ∧ (10 : UInt8) ∉ s := ⟨fun hm => absurd (h _ hm) (by decide), fun hm => absurd (h _ hm) (by decide)⟩
theorem vis_name {s : List UInt8} (h : isNameB s = true) : vis s := by
 have h := (of_decide_eq_true h).2.2
 intro x hx
 obtain ⟨i, hi, rfl⟩ := List.getElem_of_mem hx
 have := h i hi
 rw [show s.getD i 0 = s[i] by simp [List.getD, hi]] at this
 unfold okCh at this
 omega
end Go.Proofs.YtlnlcdnpgjhaaacGreatDoor.Co
/-
 Messages: the program's fields of a line, made by closures.
-/
namespace Go.Proofs.YtlnlcdnpgjhaaacGreatDoor.Co
open Go Go.Evl
abbrev fldV0 : List V := [.fn n_message_text_1 [] [.ptr ⟨0, 1, 0⟩ 0 0], .fn n_message_text_2 [] [.ptr ⟨0, 1, 0⟩ 0 0, .ptr ⟨0, 1, 1⟩ 0 0], .fn n_message_text_1 [] [.ptr ⟨0, 2, 0⟩ 0 0], .fn n_message_text_2 [] [.ptr ⟨0, 2, 0⟩ 0 0, .ptr ⟨0, 2, 1⟩ 0 0], .fn n_message_text_1 [] [.ptr ⟨0, 3, 0⟩ 0 0], .fn n_message_text_2 [] [.ptr ⟨0, 3, 0⟩ 0 0, .ptr ⟨0, 3, 1⟩ 0 0], .fn n_message_text_1 [] [.ptr ⟨0, 4, 0⟩ 0 0], .fn n_message_text_2 [] [.ptr ⟨0, 4, 0⟩ 0 0, .ptr ⟨0, 4, 1⟩ 0 0], .fn n_message_text_1 [] [.ptr ⟨0, 5, 0⟩ 0 0], .fn n_message_text_2 [] [.ptr ⟨0, 5, 0⟩ 0 0, .ptr ⟨0, 5, 1⟩ 0 0], .fn n_message_digits_1 [] [.ptr ⟨0, 6, 0⟩ 0 0, .ptr ⟨0, 6, 1⟩ 0 0], .fn n_message_digits_2 [] [.ptr ⟨0, 6, 1⟩ 0 0, .ptr ⟨0, 6, 0⟩ 0 0], .fn n_message_digits_1 [] [.ptr ⟨0, 7, 0⟩ 0 0, .ptr ⟨0, 7, 1⟩ 0 0], .fn n_message_digits_2 [] [.ptr ⟨0, 7, 1⟩ 0 0, .ptr ⟨0, 7, 0⟩ 0 0], .fn n_message_fields_8 [] [], .fn n_message_fields_9 [] [], .fn n_message_fields_10 [] [], .fn n_message_fields_11 [] [], .fn n_message_digits_1 [] [.ptr ⟨0, 10, 0⟩ 0 0, .ptr ⟨0, 10, 1⟩ 0 0], .fn n_message_digits_2 [] [.ptr ⟨0, 10, 1⟩ 0 0, .ptr ⟨0, 10, 0⟩ 0 0], .fn n_message_digits_1 [] [.ptr ⟨0, 11, 0⟩ 0 0, .ptr ⟨0, 11, 1⟩ 0 0], .fn n_message_digits_2 [] [.ptr ⟨0, 11, 1⟩ 0 0, .ptr ⟨0, 11, 0⟩ 0 0], .fn n_message_digits_1 [] [.ptr ⟨0, 12, 0⟩ 0 0, .ptr ⟨0, 12, 1⟩ 0 0], .fn n_message_digits_2 [] [.ptr ⟨0, 12, 1⟩ 0 0, .ptr ⟨0, 12, 0⟩ 0 0], .fn n_message_dashed_1 [] [.ptr ⟨0, 13, 0⟩ 0 0], .fn n_message_dashed_2 [] [.ptr ⟨0, 13, 0⟩ 0 0], .fn n_message_dashed_1 [] [.ptr ⟨0, 14, 0⟩ 0 0], .fn n_message_dashed_2 [] [.ptr ⟨0, 14, 0⟩ 0 0]]
abbrev fldM0 : Mem := [(⟨0, 1, 0⟩, .cells ty_func_ptr_message_Line_ptr_string [.fn n_message_fields_1 [] []]), (⟨0, 1, 1⟩, .cells ty_func_string_bool [.fn n_message_isAction [] []]), (⟨0, 2, 0⟩, .cells ty_func_ptr_message_Line_ptr_string [.fn n_message_fields_2 [] []]), (⟨0, 2, 1⟩, .cells ty_func_string_bool [.fn n_calendar_IsName [] []]), (⟨0, 3, 0⟩, .cells ty_func_ptr_message_Line_ptr_string [.fn n_message_fields_3 [] []]), (⟨0, 3, 1⟩, .cells ty_func_string_bool [.fn n_calendar_IsName [] []]), (⟨0, 4, 0⟩, .cells ty_func_ptr_message_Line_ptr_string [.fn n_message_fields_4 [] []]), (⟨0, 4, 1⟩, .cells ty_func_string_bool [.fn n_message_isKind [] []]), (⟨0, 5, 0⟩, .cells ty_func_ptr_message_Line_ptr_string [.fn n_message_fields_5 [] []]), (⟨0, 5, 1⟩, .cells ty_func_string_bool [.fn n_calendar_IsName [] []]), (⟨0, 6, 0⟩, .cells ty_func_ptr_message_Line_ptr_int [.fn n_message_fields_6 [] []]), (⟨0, 6, 1⟩, .cells ty_int [.d (DI 5)]), (⟨0, 7, 0⟩, .cells ty_func_ptr_message_Line_ptr_int [.fn n_message_fields_7 [] []]), (⟨0, 7, 1⟩, .cells ty_int [.d (DI 5)]), (⟨0, 10, 0⟩, .cells ty_func_ptr_message_Line_ptr_int [.fn n_message_fields_12 [] []]), (⟨0, 10, 1⟩, .cells ty_int [.d (DI 3)]), (⟨0, 11, 0⟩, .cells ty_func_ptr_message_Line_ptr_int [.fn n_message_fields_13 [] []]), (⟨0, 11, 1⟩, .cells ty_int [.d (DI 1)]), (⟨0, 12, 0⟩, .cells ty_func_ptr_message_Line_ptr_int [.fn n_message_fields_14 [] []]), (⟨0, 12, 1⟩, .cells ty_int [.d (DI 2)]), (⟨0, 13, 0⟩, .cells ty_func_ptr_message_Line_ptr_string [.fn n_message_fields_15 [] []]), (⟨0, 14, 0⟩, .cells ty_func_ptr_message_Line_ptr_string [.fn n_message_fields_16 [] []])]
abbrev fldI0 : List Evl.Id := [⟨0, 1, 0⟩, ⟨0, 1, 1⟩, ⟨0, 2, 0⟩, ⟨0, 2, 1⟩, ⟨0, 3, 0⟩, ⟨0, 3, 1⟩, ⟨0, 4, 0⟩, ⟨0, 4, 1⟩, ⟨0, 5, 0⟩, ⟨0, 5, 1⟩, ⟨0, 6, 0⟩, ⟨0, 6, 1⟩, ⟨0, 7, 0⟩, ⟨0, 7, 1⟩, ⟨0, 10, 0⟩, ⟨0, 10, 1⟩, ⟨0, 11, 0⟩, ⟨0, 11, 1⟩, ⟨0, 12, 0⟩, ⟨0, 12, 1⟩, ⟨0, 13, 0⟩, ⟨0, 14, 0⟩]
abbrev fldV (lv slot : Nat) : List V := [.fn n_message_text_1 [] [.ptr ⟨lv, slot, 0⟩ 0 0], .fn n_message_text_2 [] [.ptr ⟨lv, slot, 0⟩ 0 0, .ptr ⟨lv, slot, 1⟩ 0 0], .fn n_message_text_1 [] [.ptr ⟨lv, slot, 2⟩ 0 0], .fn n_message_text_2 [] [.ptr ⟨lv, slot, 2⟩ 0 0, .ptr ⟨lv, slot, 3⟩ 0 0], .fn n_message_text_1 [] [.ptr ⟨lv, slot, 4⟩ 0 0], .fn n_message_text_2 [] [.ptr ⟨lv, slot, 4⟩ 0 0, .ptr ⟨lv, slot, 5⟩ 0 0], .fn n_message_text_1 [] [.ptr ⟨lv, slot, 6⟩ 0 0], .fn n_message_text_2 [] [.ptr ⟨lv, slot, 6⟩ 0 0, .ptr ⟨lv, slot, 7⟩ 0 0], .fn n_message_text_1 [] [.ptr ⟨lv, slot, 8⟩ 0 0], .fn n_message_text_2 [] [.ptr ⟨lv, slot, 8⟩ 0 0, .ptr ⟨lv, slot, 9⟩ 0 0], .fn n_message_digits_1 [] [.ptr ⟨lv, slot, 10⟩ 0 0, .ptr ⟨lv, slot, 11⟩ 0 0], .fn n_message_digits_2 [] [.ptr ⟨lv, slot, 11⟩ 0 0, .ptr ⟨lv, slot, 10⟩ 0 0], .fn n_message_digits_1 [] [.ptr ⟨lv, slot, 12⟩ 0 0, .ptr ⟨lv, slot, 13⟩ 0 0], .fn n_message_digits_2 [] [.ptr ⟨lv, slot, 13⟩ 0 0, .ptr ⟨lv, slot, 12⟩ 0 0], .fn n_message_fields_8 [] [], .fn n_message_fields_9 [] [], .fn n_message_fields_10 [] [], .fn n_message_fields_11 [] [], .fn n_message_digits_1 [] [.ptr ⟨lv, slot, 14⟩ 0 0, .ptr ⟨lv, slot, 15⟩ 0 0], .fn n_message_digits_2 [] [.ptr ⟨lv, slot, 15⟩ 0 0, .ptr ⟨lv, slot, 14⟩ 0 0], .fn n_message_digits_1 [] [.ptr ⟨lv, slot, 16⟩ 0 0, .ptr ⟨lv, slot, 17⟩ 0 0], .fn n_message_digits_2 [] [.ptr ⟨lv, slot, 17⟩ 0 0, .ptr ⟨lv, slot, 16⟩ 0 0], .fn n_message_digits_1 [] [.ptr ⟨lv, slot, 18⟩ 0 0, .ptr ⟨lv, slot, 19⟩ 0 0], .fn n_message_digits_2 [] [.ptr ⟨lv, slot, 19⟩ 0 0, .ptr ⟨lv, slot, 18⟩ 0 0], .fn n_message_dashed_1 [] [.ptr ⟨lv, slot, 20⟩ 0 0], .fn n_message_dashed_2 [] [.ptr ⟨lv, slot, 20⟩ 0 0], .fn n_message_dashed_1 [] [.ptr ⟨lv, slot, 21⟩ 0 0], .fn n_message_dashed_2 [] [.ptr ⟨lv, slot, 21⟩ 0 0]]
abbrev fldM (lv slot : Nat) : Mem := [(⟨lv, slot, 0⟩, .cells ty_func_ptr_message_Line_ptr_string [.fn n_message_fields_1 [] []]), (⟨lv, slot, 1⟩, .cells ty_func_string_bool [.fn n_message_isAction [] []]), (⟨lv, slot, 2⟩, .cells ty_func_ptr_message_Line_ptr_string [.fn n_message_fields_2 [] []]), (⟨lv, slot, 3⟩, .cells ty_func_string_bool [.fn n_calendar_IsName [] []]), (⟨lv, slot, 4⟩, .cells ty_func_ptr_message_Line_ptr_string [.fn n_message_fields_3 [] []]), (⟨lv, slot, 5⟩, .cells ty_func_string_bool [.fn n_calendar_IsName [] []]), (⟨lv, slot, 6⟩, .cells ty_func_ptr_message_Line_ptr_string [.fn n_message_fields_4 [] []]), (⟨lv, slot, 7⟩, .cells ty_func_string_bool [.fn n_message_isKind [] []]), (⟨lv, slot, 8⟩, .cells ty_func_ptr_message_Line_ptr_string [.fn n_message_fields_5 [] []]), (⟨lv, slot, 9⟩, .cells ty_func_string_bool [.fn n_calendar_IsName [] []]), (⟨lv, slot, 10⟩, .cells ty_func_ptr_message_Line_ptr_int [.fn n_message_fields_6 [] []]), (⟨lv, slot, 11⟩, .cells ty_int [.d (DI 5)]), (⟨lv, slot, 12⟩, .cells ty_func_ptr_message_Line_ptr_int [.fn n_message_fields_7 [] []]), (⟨lv, slot, 13⟩, .cells ty_int [.d (DI 5)]), (⟨lv, slot, 14⟩, .cells ty_func_ptr_message_Line_ptr_int [.fn n_message_fields_12 [] []]), (⟨lv, slot, 15⟩, .cells ty_int [.d (DI 3)]), (⟨lv, slot, 16⟩, .cells ty_func_ptr_message_Line_ptr_int [.fn n_message_fields_13 [] []]), (⟨lv, slot, 17⟩, .cells ty_int [.d (DI 1)]), (⟨lv, slot, 18⟩, .cells ty_func_ptr_message_Line_ptr_int [.fn n_message_fields_14 [] []]), (⟨lv, slot, 19⟩, .cells ty_int [.d (DI 2)]), (⟨lv, slot, 20⟩, .cells ty_func_ptr_message_Line_ptr_string [.fn n_message_fields_15 [] []]), (⟨lv, slot, 21⟩, .cells ty_func_ptr_message_Line_ptr_string [.fn n_message_fields_16 [] []])]
section
variable {E : Oracle} (g : Good E)
include g
set_option maxRecDepth 100000
theorem s_fields : E (.call 0 n_message_fields [] []) = some (.val (.agg fldV0) ((⟨0, 0, 0⟩, .cells ty_14_message_field fldV0) :: fldM0)) := g.lim.of_iter 100 _ _ (by kernel_rfl)
omit g in
theorem settle_ptr {cx : Cx} {slot lo : Nat} {old m : Mem} {o : Evl.Id} {a b : Nat} (h : o.lv < lo) : Go.Evl.settle cx slot lo old m (.ptr o a b) = some (.ptr o a b, old) := by
 have h1 : ¬ lo ≤ o.lv := by omega
 have hr : Go.Evl.reach lo m 64 (Go.Evl.ids (.ptr o a b)) [] = [] := by
  simp [Go.Evl.ids, Go.Evl.reach, h1]
 unfold Go.Evl.settle
 simp only [hr]
 rw [if_pos (by simp [Go.Evl.within, Go.Evl.movable, Go.Evl.onceB, Go.Evl.ids, h])]
 simp [Go.Evl.number, Go.Evl.ren, Go.Evl.subst, Go.Evl.moved]
omit g in
theorem Some'.ptr {cx : Cx} {slot lo : Nat} {old m : Mem} {o : Evl.Id} {a b : Nat} {K : V × Mem → Prop} (h : o.lv < lo) (k : K (.ptr o a b, old)) : Some' (Go.Evl.settle cx slot lo old m (.ptr o a b)) K := ⟨_, settle_ptr h, k⟩
omit g in
theorem reach_fields : Go.Evl.reach 0 ((⟨0, 0, 0⟩, .cells ty_14_message_field fldV0) :: fldM0) 64 (Go.Evl.ids (.agg fldV0)) [] = fldI0 := by decide +kernel
omit g in
theorem fields_go : (Go.Evl.within fldI0 0 (Go.Evl.ids (.agg fldV0)) && Go.Evl.movable fldI0 0 ((⟨0, 0, 0⟩, .cells ty_14_message_field fldV0) :: fldM0)) = true := by decide +kernel
omit g in
theorem ren_fields (cx : Cx) (slot : Nat) : Go.Evl.ren (Go.Evl.number cx slot 0 fldI0) (.agg fldV0) = .agg (fldV cx.lv slot) := by rfl
omit g in
theorem moved_fields (cx : Cx) (slot : Nat) : Go.Evl.moved (Go.Evl.number cx slot 0 fldI0) ((⟨0, 0, 0⟩, .cells ty_14_message_field fldV0) :: fldM0) (Go.Evl.number cx slot 0 fldI0) = fldM cx.lv slot := by rfl
omit g in
theorem settle_fields {cx : Cx} {slot : Nat} {m : Mem} (hf : Go.Evl.freeK cx.lv slot m = 0) : Go.Evl.settle cx slot 0 m ((⟨0, 0, 0⟩, .cells ty_14_message_field fldV0) :: fldM0) (.agg fldV0) = some (.agg (fldV cx.lv slot), m ++ fldM cx.lv slot) := by
 unfold Go.Evl.settle
 simp only [reach_fields, hf, fields_go, if_true, ren_fields, moved_fields]
theorem CallS.fields {cx : Cx} {slot : Nat} {m : Mem} {K : V → Mem → Prop} (hf : Go.Evl.freeK cx.lv slot m = 0) (h : K (.agg (fldV cx.lv slot)) (m ++ fldM cx.lv slot)) : CallS E n_message_fields [] cx slot m K := by
 exact ⟨_, _, _, s_fields g, settle_fields hf, h⟩
end
end Go.Proofs.YtlnlcdnpgjhaaacGreatDoor.Co
/-
 Messages: the parts of a text between blanks.
-/
namespace Go.Proofs.YtlnlcdnpgjhaaacGreatDoor.Co
open Go Go.Evl
abbrev LS (l : List (List UInt8)) : V := .d (.list l.length (l.map D.str))
section
variable {E : Oracle} (g : Good E)
include g
theorem s_Split (s : List UInt8) (hs : s.length ≤ 1000000) : Fc E n_strings_Split [S s, S [32]] (LS (parts 32 s)) := by
 refine Fc.extern g.lim (x := splitX) rfl (v := LS (parts 32 s)) (m' := []) ?_ rfl
 simp only [splitX, splitD_parts]
 rw [if_pos ⟨hs, by simp⟩]
end
end Go.Proofs.YtlnlcdnpgjhaaacGreatDoor.Co
/-
 Messages: a line is read: what comes out.
-/
namespace Go.Proofs.YtlnlcdnpgjhaaacGreatDoor.Co
open Go Go.Evl
def numV (s : List UInt8) (w : Nat) : Int := if numB s w then valA 0 s else 0
def minW (s : List UInt8) : Int := if minP s then minV s else 0
def mskV (s : List UInt8) : Int := if isMaskT s then maskS s else 0
def undash (s : List UInt8) : List UInt8 := if s = [45] then [] else s
def dfit (s : List UInt8) : Bool := decide (s = [45]) || isNameB s
structure W14 where
 (a0 a1 a2 a3 a4 a5 a6 a7 a8 a9 a10 a11 a12 a13 : List UInt8)
def W14.list (w : W14) : List (List UInt8) := [w.a0, w.a1, w.a2, w.a3, w.a4, w.a5, w.a6, w.a7, w.a8, w.a9, w.a10, w.a11, w.a12, w.a13]
theorem w14_of {l : List (List UInt8)} (h : l.length = 14) : ∃ w : W14, l = w.list := by
 match l, h with
 | [a0, a1, a2, a3, a4, a5, a6, a7, a8, a9, a10, a11, a12, a13], _ => exact ⟨⟨a0, a1, a2, a3, a4, a5, a6, a7, a8, a9, a10, a11, a12, a13⟩, rfl⟩
def W14.fits (w : W14) : List Bool := [actB w.a0, isNameB w.a1, isNameB w.a2, kindB w.a3, isNameB w.a4, numB w.a5 5, numB w.a6 5, decide (isMaskT w.a7), decide (minP w.a8), numB w.a9 3, numB w.a10 1, numB w.a11 2, dfit w.a12, dfit w.a13]
def W14.line (w : W14) : Lnt := ⟨w.a0, ⟨w.a2, w.a1, w.a3, undash w.a12, w.a4, undash w.a13, numV w.a5 5, numV w.a6 5, mskV w.a7, minW w.a8, numV w.a9 3, numV w.a10 1, numV w.a11 2⟩⟩
def firstF : List Bool → Nat
 | [] => 0
 | true :: r => firstF r + 1
 | false :: _ => 0
abbrev zeroL : List D := [.str [], .str [], .str [], .str [], .str [], .str [], .str [], DI 0, DI 0, DI 0, DI 0, DI 0, DI 0, DI 0]
def resF (bs : List Bool) (cs : List D) (c : Int) : V :=
 if firstF bs = 14 then (if c = 0 then .tup [.d (.agg cs), I 0, I 0] else .tup [.d (.agg zeroL), I 14, I c]) else .tup [.d (.agg zeroL), I (firstF bs : Nat), I 25]
def resW (w : W14) : V := resF w.fits w.line.cells (chkLn w.line)
theorem Br.not {b : Bool} {A B : Prop} (ht : b = false → A) (hf : b = true → B) : Br (!b) A B := by
 cases b
 ·exact ⟨fun _ => ht rfl, fun h => nomatch h⟩
 ·exact ⟨fun h => (nomatch h), fun _ => hf rfl⟩
theorem Cmp.b25 {b : Bool} {A B : Prop} (ht : b = true → A) (hf : b = false → B) : Cmp ((if b = true then (0 : Int) else 25) = 0) A B := by
 cases b
 ·exact ⟨fun h => by simp at h, fun _ => hf rfl⟩
 ·exact ⟨fun _ => ht rfl, fun h => by simp at h⟩
end Go.Proofs.YtlnlcdnpgjhaaacGreatDoor.Co
/-
 Plain laws: the lines of a text, each with its line feed.
-/
namespace Go.Proofs.YtlnlcdnpgjhaaacGreatDoor.Co
open Go Go.Evl
def pcs : List UInt8 → List (List UInt8)
 | [] => []
 | c :: r => if c = 10 then [10] :: pcs r else
  match pcs r with
  | [] => [[c]]
  | p :: q => (c :: p) :: q
theorem pcs_nil : pcs [] = [] := rfl
theorem pcs_lf : ∀ (a r : List UInt8), (10 : UInt8) ∉ a → pcs (a ++ 10 :: r) = (a ++ [10]) :: pcs r
 | [], r, _ => by simp [pcs]
 | c :: a, r, h => by
  have hc : ¬ c = 10 := fun e => h (by simp [e])
  have h' : (10 : UInt8) ∉ a := fun hm => h (by simp [hm])
  simp only [List.cons_append, pcs, if_neg hc, pcs_lf a r h']
theorem pcs_end : ∀ (a : List UInt8), a ≠ [] → (10 : UInt8) ∉ a → pcs a = [a]
 | [], h, _ => absurd rfl h
 | [c], _, h => by
  have hc : ¬ c = 10 := fun e => h (by simp [e])
  simp only [pcs, if_neg hc]
 | c :: d :: a, _, h => by
  have hc : ¬ c = 10 := fun e => h (by simp [e])
  have h' : (10 : UInt8) ∉ d :: a := fun hm => h (List.mem_cons_of_mem _ hm)
  have := pcs_end (d :: a) (by simp) h'
  rw [pcs, if_neg hc, this]
theorem pcs_flat : ∀ s : List UInt8, (pcs s).flatten = s
 | [] => rfl
 | c :: r => by
  have ih := pcs_flat r
  rw [pcs]
  split
  ·rename_i h; simp [ih, h]
  ·split
   ·rename_i h; rw [h] at ih; simp only [List.flatten_nil] at ih; simp [← ih]
   ·rename_i h; rw [h] at ih; simp only [List.flatten_cons] at ih ⊢; rw [← ih]; simp
theorem pcs_ne {s : List UInt8} (h : s ≠ []) : pcs s ≠ [] := fun e => h (by rw [← pcs_flat s, e]; rfl)
theorem lf_split : ∀ s : List UInt8, (10 : UInt8) ∈ s → ∃ a r, s = a ++ 10 :: r ∧ (10 : UInt8) ∉ a
 | [], h => absurd h List.not_mem_nil
 | c :: s, h => by
  by_cases e : c = 10
  ·exact ⟨[], s, by rw [e]; rfl, List.not_mem_nil⟩
  ·obtain ⟨a, r, h1, h2⟩ := lf_split s ((List.mem_cons.1 h).resolve_left fun x => e x.symm)
   exact ⟨c :: a, r, by rw [h1]; rfl, fun hm => (List.mem_cons.1 hm).elim (fun x => e x.symm) h2⟩
theorem pcs_cases (s : List UInt8) (h : s ≠ []) : ((10 : UInt8) ∉ s ∧ pcs s = [s]) ∨ ∃ a r, (10 : UInt8) ∉ a ∧ s = a ++ 10 :: r ∧ pcs s = (a ++ [10]) :: pcs r := by
 by_cases hm : (10 : UInt8) ∈ s
 ·obtain ⟨a, r, e, ha⟩ := lf_split s hm
  exact .inr ⟨a, r, ha, e, by rw [e]; exact pcs_lf a r ha⟩
 ·exact .inl ⟨hm, pcs_end s h hm⟩
end Go.Proofs.YtlnlcdnpgjhaaacGreatDoor.Co
/-
 Plain laws: numbers, minutes, words and lines, printed and read: there and back.
-/
namespace Go.Proofs.YtlnlcdnpgjhaaacGreatDoor.Co
open Go Go.Evl
theorem dig_of {b : UInt8} (h : dg b) : dig ((b.toNat : Int) - 48) = b := by
 unfold dig
 have h1 := h.1
 rw [show 48 + ((b.toNat : Int) - 48).toNat = b.toNat by omega, UInt8.ofNat_toNat]
theorem dig_nat {n : Int} (h : 0 ≤ n ∧ n ≤ 9) : (dig n).toNat = 48 + n.toNat := by
 unfold dig
 rw [UInt8.toNat_ofNat']
 omega
theorem dig_dg {n : Int} (h : 0 ≤ n ∧ n ≤ 9) : dg (dig n) := by
 unfold dg
 rw [dig_nat h]
 omega
theorem wide_back : ∀ (w : Nat) (s : List UInt8), s.length = w → (∀ x ∈ s, dg x) → wideL w (valA 0 s) = s
 | 0, s, h, _ => by
  obtain rfl := List.length_eq_zero_iff.1 h
  rfl
 | w + 1, s, h, hd => by
  have hne : s ≠ [] := fun e => by subst e; simp at h
  have e : s = s.dropLast ++ [s.getLast hne] := (List.dropLast_concat_getLast hne).symm
  have ih := wide_back w s.dropLast (by simp [h]) fun x hx => hd x (List.dropLast_subset s hx)
  have hl := hd _ (List.getLast_mem hne)
  have hv : valA 0 s = 10 * valA 0 s.dropLast + (((s.getLast hne).toNat : Int) - 48) := by
   conv => lhs; rw [e]
   rw [valA_append]
   rfl
  have hd := dig_of hl
  unfold dg at hl
  rw [hv]
  simp only [wideL]
  rw [show (10 * valA 0 s.dropLast + (((s.getLast hne).toNat : Int) - 48)) / 10 = valA 0 s.dropLast by omega, show (10 * valA 0 s.dropLast + (((s.getLast hne).toNat : Int) - 48)) % 10 = ((s.getLast hne).toNat : Int) - 48 by omega, ih, hd]
  exact e.symm
theorem val_wide : ∀ (w : Nat) (n : Int), 0 ≤ n → n < (10 ^ w : Nat) → valA 0 (wideL w n) = n
 | 0, n, h0, h1 => by
  simp at h1
  have : n = 0 := by omega
  subst this
  rfl
 | w + 1, n, h0, h1 => by
  rw [Nat.pow_succ] at h1
  have ih := val_wide w (n / 10) (by omega) (by omega)
  have hd := dig_nat (n := n % 10) (by omega)
  simp only [wideL, valA_append, ih, valA, hd]
  omega
theorem wide_dg : ∀ (w : Nat) (n : Int), ∀ x ∈ wideL w n, dg x
 | 0, _, x, h => by simp [wideL] at h
 | w + 1, n, x, h => by
  simp only [wideL, List.mem_append, List.mem_cons, List.not_mem_nil, or_false] at h
  rcases h with h | rfl
  ·exact wide_dg w _ x h
  ·exact dig_dg (by omega)
theorem numB_wide (w : Nat) (n : Int) : numB (wideL w n) w = true := decide_eq_true ⟨wideL_length w n, wide_dg w n⟩
theorem numV_wide {w : Nat} {n : Int} (h0 : 0 ≤ n) (h1 : n < (10 ^ w : Nat)) : numV (wideL w n) w = n := by
 unfold numV
 rw [if_pos (numB_wide w n), val_wide w n h0 h1]
theorem wide4 (n : Int) : wideL 2 (n / 100) ++ wideL 2 (n % 100) = wideL 4 n := by
 have e1 : n / 100 / 10 = n / 10 / 10 / 10 := by omega
 have e2 : n / 100 % 10 = n / 10 / 10 % 10 := by omega
 have e3 : n % 100 / 10 % 10 = n / 10 % 10 := by omega
 have e4 : n % 100 % 10 = n % 10 := by omega
 simp only [wideL, List.nil_append, List.cons_append, e1, e2, e3, e4]
theorem minP_minL {m : Int} (h : 0 ≤ m ∧ m ≤ 1439) : minP (minL m) ∧ minV (minL m) = m := by
 have e : minL m = wideL 4 (m / 60 * 100 + m % 60) := by
  rw [← wide4, show (m / 60 * 100 + m % 60) / 100 = m / 60 by omega, show (m / 60 * 100 + m % 60) % 100 = m % 60 by omega]
  rfl
 have hv := val_wide 4 (m / 60 * 100 + m % 60) (by omega) (by omega)
 rw [e]
 refine ⟨⟨numB_wide 4 _, ?_, ?_⟩, ?_⟩
 ·rw [hv]; omega
 ·rw [hv]; omega
 ·unfold minV; rw [hv]; omega
theorem undash_dash {s : List UInt8} (h : optB s = true) : undash (dashL s) = s ∧ dfit (dashL s) = true := by
 unfold dashL
 by_cases he : s = []
 ·subst he; exact ⟨rfl, rfl⟩
 ·rw [if_neg he]
  have hn : isNameB s = true := by
   unfold optB at h
   rw [decide_eq_false he, Bool.false_or] at h
   exact h
  have hd : s ≠ [45] := fun e => by
   rw [e] at hn
   exact absurd hn (by decide)
  refine ⟨by unfold undash; rw [if_neg hd], ?_⟩
  unfold dfit
  rw [hn, Bool.or_true]
theorem vis_dg {s : List UInt8} (h : ∀ x ∈ s, dg x) : vis s := fun x hx => by
 have := (h x hx).1
 omega
theorem vis_dash {s : List UInt8} (h : optB s = true) : vis (dashL s) := by
 unfold dashL
 by_cases he : s = []
 ·rw [if_pos he]
  intro x hx
  rcases List.mem_cons.1 hx with rfl | hx
  ·decide
  ·exact absurd hx List.not_mem_nil
 ·rw [if_neg he]
  unfold optB at h
  rw [decide_eq_false he, Bool.false_or] at h
  exact vis_name h
theorem vis_kind {s : List UInt8} (h : kindB s = true) : vis s := by
 simp only [kindB, Bool.or_eq_true, decide_eq_true_eq] at h
 rcases h with rfl | rfl <;> (intro x hx; simp at hx; subst hx; decide)
theorem vis_act {s : List UInt8} (h : actB s = true) : vis s := by
 simp only [actB, asksB, repB, Bool.or_eq_true, decide_eq_true_eq, askL, repL, List.mem_cons, List.not_mem_nil, or_false] at h
 rcases h with (rfl | rfl | rfl | rfl | rfl) | rfl | rfl | rfl | rfl <;> (intro x hx; simp at hx; subst hx; decide)
theorem vis_mask (m : Nat) : vis (maskL m) := by
 intro x hx
 simp only [maskL, List.mem_map, List.mem_range] at hx
 obtain ⟨w, hw, rfl⟩ := hx
 split
 ·have : w = 0 ∨ w = 1 ∨ w = 2 ∨ w = 3 ∨ w = 4 ∨ w = 5 ∨ w = 6 := by omega
  rcases this with rfl | rfl | rfl | rfl | rfl | rfl | rfl <;> decide
 ·decide
theorem vis_min (m : Int) : vis (minL m) := by
 intro x hx
 simp only [minL, List.mem_append] at hx
 have h : dg x := hx.elim (wide_dg 2 _ x) (wide_dg 2 _ x)
 have := h.1
 omega
theorem vis_words {l : Lnt} (ha : actB l.ac = true) (hq : OkRq l.rq) : ∀ w ∈ wordsL l, vis w := by
 simp only [wordsL, List.mem_cons, List.not_mem_nil, or_false, forall_eq_or_imp, forall_eq]
 exact ⟨vis_act ha, vis_name hq.ca, vis_name hq.nm, vis_kind hq.ki, vis_name hq.pa, vis_dg (wide_dg _ _), vis_dg (wide_dg _ _), vis_mask _, vis_min _, vis_dg (wide_dg _ _), vis_dg (wide_dg _ _), vis_dg (wide_dg _ _), vis_dash hq.te, vis_dash hq.li⟩
theorem joined_mem (b : UInt8) : ∀ (l : List (List UInt8)) (x : UInt8), x ∈ joined b l → x = b ∨ ∃ w ∈ l, x ∈ w
 | [], x, h => by simp [joined] at h
 | [y], x, h => .inr ⟨y, by simp, h⟩
 | y :: z :: r, x, h => by
  simp only [joined, List.mem_append, List.mem_cons] at h
  rcases h with h | h | h
  ·exact .inr ⟨y, by simp, h⟩
  ·exact .inl h
  ·rcases joined_mem b (z :: r) x h with h | ⟨w, hw, h⟩
   ·exact .inl h
   ·exact .inr ⟨w, List.mem_cons_of_mem _ hw, h⟩
def wOf (l : Lnt) : W14 := ⟨l.ac, l.rq.ca, l.rq.nm, l.rq.ki, l.rq.pa, wideL 5 l.rq.fr, wideL 5 l.rq.to, maskL l.rq.da.toNat, minL l.rq.mi, wideL 3 l.rq.se, wideL 1 l.rq.si, wideL 2 l.rq.no, dashL l.rq.te, dashL l.rq.li⟩
theorem wOf_list (l : Lnt) : (wOf l).list = wordsL l := rfl
def zeroN : Lnt := ⟨[], ⟨[], [], [], [], [], [], 0, 0, 0, 0, 0, 0, 0⟩⟩
def lineW (w : W14) : Lnt × Int := if firstF w.fits = 14 then (if chkLn w.line = 0 then (w.line, 0) else (zeroN, chkLn w.line)) else (zeroN, 25)
def wList (l : List (List UInt8)) : Option W14 :=
 match l with
 | [a0, a1, a2, a3, a4, a5, a6, a7, a8, a9, a10, a11, a12, a13] => some ⟨a0, a1, a2, a3, a4, a5, a6, a7, a8, a9, a10, a11, a12, a13⟩
 | _ => none
theorem wList_list (w : W14) : wList w.list = some w := rfl
theorem wList_some {l : List (List UInt8)} {w : W14} (h : wList l = some w) : l = w.list := by
 unfold wList at h
 split at h
 ·obtain rfl := Option.some.inj h; rfl
 ·cases h
theorem wList_none {l : List (List UInt8)} (h : wList l = none) : l.length ≠ 14 := fun e => by
 obtain ⟨w, hw⟩ := w14_of e
 rw [hw, wList_list] at h
 cases h
def lineP (s : List UInt8) : Lnt × Int :=
 match wList (parts 32 s) with
 | some w => lineW w
 | none => (zeroN, 25)
theorem allF : ∀ (bs : List Bool), (∀ b ∈ bs, b = true) → firstF bs = bs.length
 | [], _ => rfl
 | b :: r, h => by
  have hb := h b (by simp)
  subst hb
  simp only [firstF, List.length_cons, allF r fun b hb => h b (List.mem_cons_of_mem _ hb)]
theorem per_mask {q : Rqt} (hq : OkRq q) : isMaskT (maskL q.da.toNat) ∧ mskV (maskL q.da.toNat) = q.da := by
 obtain ⟨_, _, _, _, p5, p6⟩ := hq.per
 have := isMaskT_of (m := q.da.toNat) (by omega) (by omega) rfl
 refine ⟨this.1, ?_⟩
 unfold mskV
 rw [if_pos this.1, this.2]
 omega
set_option maxRecDepth 4000 in
theorem wOf_line {l : Lnt} (h : chkLn l = 0) : firstF (wOf l).fits = 14 ∧ (wOf l).line = l := by
 obtain ⟨ha, hq⟩ := chkLn_ok h
 obtain ⟨p1, p2, p3, p4, p5, p6⟩ := hq.per
 obtain ⟨m1, m2⟩ := minP_minL hq.mi
 obtain ⟨k1, k2⟩ := per_mask hq
 obtain ⟨d1, d2⟩ := undash_dash hq.te
 obtain ⟨d3, d4⟩ := undash_dash hq.li
 constructor
 ·refine allF _ ?_
  simp only [W14.fits, wOf, List.mem_cons, List.not_mem_nil, or_false, forall_eq_or_imp, forall_eq]
  exact ⟨ha, hq.ca, hq.nm, hq.ki, hq.pa, numB_wide _ _, numB_wide _ _, decide_eq_true k1, decide_eq_true m1, numB_wide _ _, numB_wide _ _, numB_wide _ _, d2, d4⟩
 ·have hm : minW (minL l.rq.mi) = l.rq.mi := by unfold minW; rw [if_pos m1, m2]
  have n1 := numV_wide (w := 5) (n := l.rq.fr) (by omega) (by omega)
  have n2 := numV_wide (w := 5) (n := l.rq.to) (by omega) (by omega)
  have n3 := numV_wide (w := 3) (n := l.rq.se) hq.se.1 (by have := hq.se.2; omega)
  have n4 := numV_wide (w := 1) (n := l.rq.si) (by have := hq.si.1; omega) (by have := hq.si.2; omega)
  have n5 := numV_wide (w := 2) (n := l.rq.no) hq.no.1 (by have := hq.no.2; omega)
  obtain ⟨ac, ⟨nm, ca, ki, te, pa, li, fr, to, da, mi, se, si, no⟩⟩ := l
  simp only [W14.line, wOf] at *
  simp only [d1, d3, k2, hm, n1, n2, n3, n4, n5]
theorem words_ne (l : Lnt) : wordsL l ≠ [] := by simp [wordsL]
theorem line_parts {l : Lnt} (h : chkLn l = 0) : parts 32 (lineL l) = wordsL l := by
 obtain ⟨ha, hq⟩ := chkLn_ok h
 exact parts_joined 32 _ (words_ne l) fun w hw => (vis_no (vis_words ha hq w hw)).1
theorem lineP_back {l : Lnt} (h : chkLn l = 0) : lineP (lineL l) = (l, 0) := by
 obtain ⟨h1, h2⟩ := wOf_line h
 unfold lineP
 rw [line_parts h, ← wOf_list, wList_list]
 show lineW (wOf l) = _
 unfold lineW
 rw [if_pos h1, h2, if_pos h]
theorem line_nolf {l : Lnt} (h : chkLn l = 0) : (10 : UInt8) ∉ lineL l := by
 obtain ⟨ha, hq⟩ := chkLn_ok h
 intro hm
 rcases joined_mem 32 _ _ hm with h | ⟨w, hw, h⟩
 ·exact absurd h (by decide)
 ·exact (vis_no (vis_words ha hq w hw)).2 h
end Go.Proofs.YtlnlcdnpgjhaaacGreatDoor.Co
/-
 Messages: their check, their text and what a text says, in plain terms; there and back.
-/
namespace Go.Proofs.YtlnlcdnpgjhaaacGreatDoor.Co
open Go Go.Evl
abbrev LL (ls : List Lnt) : V := .d (.list ls.length (ls.flatMap Lnt.cells))
def twinB (a b : Rqt) : Bool := decide (a.ca = b.ca) && decide (a.nm = b.nm)
def openO : Option Lnt → Bool
 | some y => decide (y.ac = [67])
 | none => false
def twinO (x : Lnt) : Option Lnt → Bool
 | some y => twinB y.rq x.rq
 | none => false
def lnE (kind : List UInt8) (p : Option Lnt) (x : Lnt) : Int :=
 firstI [chkLn x, if actK x.ac = kind then 0 else 18, if (openO p || decide (x.ac = [82])) && !(openO p && decide (x.ac = [82]) && twinO x p) then 11 else 0]
def chkLs (kind : List UInt8) : Option Lnt → Nat → List Lnt → Nat × Int
 | p, i, [] => if openO p then (i - 1, 11) else (0, 0)
 | p, i, x :: r => if lnE kind p x = 0 then chkLs kind (some x) (i + 1) r else (i, lnE kind p x)
theorem chkLs_zero {kind : List UInt8} : ∀ (ls : List Lnt) (p : Option Lnt) (i : Nat), (chkLs kind p i ls).2 = 0 → chkLs kind p i ls = (0, 0) ∧ ∀ x ∈ ls, chkLn x = 0
 | [], p, i, h => by
  simp only [chkLs] at h ⊢
  split at h
  ·cases h
  ·rename_i hn; rw [if_neg hn]; exact ⟨rfl, by simp⟩
 | x :: r, p, i, h => by
  simp only [chkLs] at h ⊢
  split at h
  ·rename_i hz
   rw [if_pos hz]
   have ih := chkLs_zero r _ _ h
   refine ⟨ih.1, fun y hy => ?_⟩
   rcases List.mem_cons.1 hy with rfl | hy
   ·exact (firstI_zero _).1 hz _ (by simp)
   ·exact ih.2 y hy
  ·rename_i hz; exact absurd h hz
structure Mst where
 (ki ai se : List UInt8)
 da : Int
 ls : List Lnt
def Mst.cells (m : Mst) : List D := [.str m.ki, .str m.ai, .str m.se, DI m.da, .list m.ls.length (m.ls.flatMap Lnt.cells)]
abbrev Msv (m : Mst) : V := .d (.agg m.cells)
def zeroM : Mst := ⟨[], [], [], 0, []⟩
def chkMs (m : Mst) : Int := firstI [if (!msgB m.ki) = true then 13 else 0, headE m.ai m.se m.da, if 64 < m.ls.length then 5 else 0, (chkLs m.ki none 0 m.ls).2]
structure OkMs (m : Mst) : Prop where
 ki : msgB m.ki = true
 hd : headE m.ai m.se m.da = 0
 ln : m.ls.length ≤ 64
 ok : (chkLs m.ki none 0 m.ls).2 = 0
theorem chkMs_ok {m : Mst} : chkMs m = 0 ↔ OkMs m := by
 unfold chkMs
 rw [firstI_zero]
 simp only [List.mem_cons, List.not_mem_nil, or_false, forall_eq_or_imp, forall_eq]
 constructor
 ·rintro ⟨h1, h2, h3, h4⟩
  refine ⟨?_, h2, ?_, h4⟩
  ·cases hb : msgB m.ki with
   | true => rfl
   | false => rw [hb] at h1; simp at h1
  ·rcases Nat.lt_or_ge 64 m.ls.length with h | h
   ·rw [if_pos h] at h3; cases h3
   ·exact h
 ·rintro ⟨h1, h2, h3, h4⟩
  exact ⟨by rw [h1]; rfl, h2, if_neg (by omega), h4⟩
abbrev SLOTS : List UInt8 := [83, 76, 79, 84, 83]
abbrev ENDW : List UInt8 := [69, 78, 68]
def headT (m : Mst) : List UInt8 := joined 32 [SLOTS, m.ki, m.ai, m.se, wideL 5 m.da]
def endT (n : Nat) : List UInt8 := joined 32 [ENDW, wideL 2 n]
def linesL (ls : List Lnt) : List UInt8 := ls.flatMap fun l => lineL l ++ [10]
def msgL (m : Mst) : List UInt8 := (headT m ++ [10]) ++ (linesL m.ls ++ (endT m.ls.length ++ [10]))
theorem head_parts {ai se : List UInt8} {da : Int} (h : headE ai se da = 0) : vis ai ∧ vis se ∧ ai.length ≤ 24 ∧ 1 ≤ ai.length ∧ se.length = 5 ∧ 0 ≤ da ∧ da ≤ 99999 := by
 unfold headE at h
 rw [firstI_zero] at h
 simp only [List.mem_cons, List.not_mem_nil, or_false, forall_eq_or_imp, forall_eq] at h
 obtain ⟨h1, h2, h3⟩ := h
 have hn := nmE_zero h1
 have hs : seasB se = true := by
  cases hb : seasB se with
  | true => rfl
  | false => rw [hb] at h2; simp at h2
 have hr := rng_zero.1 h3
 unfold seasB at hs
 simp only [Bool.and_eq_true, decide_eq_true_eq] at hs
 obtain ⟨⟨hl, hc⟩, hd⟩ := hs
 refine ⟨vis_name hn, ?_, name_len hn, (of_decide_eq_true hn).1, hl, hr.1, hr.2⟩
 match se, hl with
 | [a, b, c, d, e], _ =>
  have hd := (of_decide_eq_true hd).2
  simp only [win, List.length_cons, List.length_nil, List.drop_succ_cons, List.drop_zero] at hd
  have hw := vis_dg hd
  simp only [List.getD, List.getElem?_cons_zero, Option.getD_some] at hc
  intro x hx
  rcases List.mem_cons.1 hx with rfl | hx
  ·omega
  ·exact hw x hx
theorem vis_msg {s : List UInt8} (h : msgB s = true) : vis s ∧ s.length = 3 := by
 simp only [msgB, Bool.or_eq_true, decide_eq_true_eq] at h
 rcases h with rfl | rfl
 all_goals
  refine ⟨fun x hx => ?_, rfl⟩
  simp only [List.mem_cons, List.not_mem_nil, or_false] at hx
  rcases hx with rfl | rfl | rfl <;> decide
theorem vis_lit : vis SLOTS ∧ vis ENDW := by
 constructor
 all_goals
  intro x hx
  simp only [List.mem_cons, List.not_mem_nil, or_false] at hx
  rcases hx with rfl | rfl | rfl | rfl | rfl <;> decide
theorem headW_vis {m : Mst} (h : OkMs m) : ∀ w ∈ [SLOTS, m.ki, m.ai, m.se, wideL 5 m.da], vis w := by
 obtain ⟨h1, h2, _⟩ := head_parts h.hd
 simp only [List.mem_cons, List.not_mem_nil, or_false, forall_eq_or_imp, forall_eq]
 exact ⟨vis_lit.1, (vis_msg h.ki).1, h1, h2, vis_dg (wide_dg _ _)⟩
theorem joined_nolf {l : List (List UInt8)} (h : ∀ w ∈ l, vis w) : (10 : UInt8) ∉ joined 32 l := fun hm => by
 rcases joined_mem 32 _ _ hm with h | ⟨w, hw, h'⟩
 ·exact absurd h (by decide)
 ·exact (vis_no (h w hw)).2 h'
theorem endW_vis (n : Nat) : ∀ w ∈ [ENDW, wideL 2 n], vis w := by
 simp only [List.mem_cons, List.not_mem_nil, or_false, forall_eq_or_imp, forall_eq]
 exact ⟨vis_lit.2, vis_dg (wide_dg _ _)⟩
theorem line_len {l : Lnt} (h : chkLn l = 0) : (lineL l).length ≤ 208 := by
 obtain ⟨ha, hq⟩ := chkLn_ok h
 have h1 := act_len ha
 have h2 := name_len hq.ca
 have h3 := name_len hq.nm
 have h4 := name_len hq.pa
 have h5 := kind_len hq.ki
 have h6 := dash_len hq.te
 have h7 := dash_len hq.li
 simp only [lineL, wordsL, joined, List.length_append, List.length_cons, wideL_length, minL_length, maskL_length]
 omega
theorem linesL_len : ∀ ls : List Lnt, (∀ x ∈ ls, chkLn x = 0) → (linesL ls).length ≤ ls.length * 209
 | [], _ => by simp [linesL]
 | l :: ls, h => by
  have ih := linesL_len ls fun x hx => h x (List.mem_cons_of_mem _ hx)
  have hl := line_len (h l (by simp))
  simp only [linesL, List.flatMap_cons, List.length_append, List.length_cons, List.length_nil] at ih ⊢
  omega
theorem headT_len {m : Mst} (h : OkMs m) : 23 ≤ (headT m).length ∧ (headT m).length ≤ 46 := by
 obtain ⟨_, _, h3, h4, h5, _, _⟩ := head_parts h.hd
 have h6 := (vis_msg h.ki).2
 simp only [headT, joined, List.length_append, List.length_cons, List.length_nil, wideL_length]
 omega
theorem endT_len (n : Nat) : (endT n).length = 6 := by simp [endT, joined, wideL_length]
theorem msg_len {m : Mst} (h : OkMs m) : 24 ≤ (msgL m).length ∧ (msgL m).length ≤ m.ls.length * 209 + 54 := by
 have h1 := headT_len h
 have h2 := linesL_len m.ls (chkLs_zero _ _ _ h.ok).2
 have h3 := endT_len m.ls.length
 simp only [msgL, List.length_append, List.length_cons, List.length_nil]
 omega
def wholeB (p : List UInt8) : Bool := decide (p.getLast? = some 10)
def endW (p : List UInt8) : List UInt8 := if wholeB p then p.dropLast else p
theorem whole_lf (a : List UInt8) : wholeB (a ++ [10]) = true ∧ endW (a ++ [10]) = a := by
 have h : wholeB (a ++ [10]) = true := by simp [wholeB]
 refine ⟨h, ?_⟩
 unfold endW
 rw [if_pos h]
 simp
theorem whole_eq {p : List UInt8} (h : wholeB p = true) : p = endW p ++ [10] := by
 unfold endW
 rw [if_pos h]
 unfold wholeB at h
 have h := of_decide_eq_true h
 obtain ⟨ys, e⟩ := List.getLast?_eq_some_iff.1 h
 rw [e]; simp
def headP (p : List UInt8) : Option Mst :=
 match parts 32 (endW p) with
 | [w0, w1, w2, w3, w4] => if wholeB p = true ∧ w0 = SLOTS ∧ msgB w1 = true ∧ numB w4 5 = true ∧ headE w2 w3 (valA 0 w4) = 0 then some ⟨w1, w2, w3, valA 0 w4, []⟩ else none
 | _ => none
def parseG (m : Mst) (i : Nat) : List (List UInt8) → Mst × Nat × Int
 | [] => (zeroM, i, 28)
 | p :: r =>
  if wholeB p = false then (zeroM, i, 25)
  else if (parts 32 (endW p)).head? ≠ some ENDW then
   (if (lineP (endW p)).2 ≠ 0 then (zeroM, i, (lineP (endW p)).2)
   else if 64 ≤ m.ls.length then (zeroM, i, 5)
   else parseG { m with ls := m.ls ++ [(lineP (endW p)).1] } (i + 1) r)
  else
   match parts 32 (endW p) with
   | [_, x] =>
    if numB x 2 = false then (zeroM, i, 25)
    else if valA 0 x ≠ m.ls.length then (zeroM, i, 27)
    else if r ≠ [] then (zeroM, i + 1, 25)
    else if (chkLs m.ki none 0 m.ls).2 ≠ 0 then (zeroM, (chkLs m.ki none 0 m.ls).1 + 1, (chkLs m.ki none 0 m.ls).2)
    else (m, 0, 0)
   | _ => (zeroM, i, 25)
def parseM (s : List UInt8) : Mst × Nat × Int :=
 if 16384 < s.length then (zeroM, 0, 26) else
 match pcs s with
 | [] => (zeroM, 0, 28)
 | p :: r =>
  match headP p with
  | none => (zeroM, 0, 25)
  | some m => parseG m 1 r
theorem pcs_lines (t : List UInt8) : ∀ ls : List Lnt, (∀ x ∈ ls, chkLn x = 0) → pcs (linesL ls ++ t) = (ls.map fun l => lineL l ++ [10]) ++ pcs t
 | [], _ => rfl
 | l :: ls, h => by
  have ih := pcs_lines t ls fun x hx => h x (List.mem_cons_of_mem _ hx)
  have e : linesL (l :: ls) ++ t = lineL l ++ 10 :: (linesL ls ++ t) := by simp [linesL]
  rw [e, pcs_lf _ _ (line_nolf (h l (by simp))), ih]
  rfl
theorem pcs_msg {m : Mst} (h : OkMs m) (t : List UInt8) : pcs (msgL m ++ t) = (headT m ++ [10]) :: ((m.ls.map fun l => lineL l ++ [10]) ++ ((endT m.ls.length ++ [10]) :: pcs t)) := by
 have e : msgL m ++ t = headT m ++ 10 :: (linesL m.ls ++ (endT m.ls.length ++ 10 :: t)) := by simp [msgL]
 have n1 : (10 : UInt8) ∉ headT m := joined_nolf (headW_vis h)
 have n2 : (10 : UInt8) ∉ endT m.ls.length := joined_nolf (endW_vis _)
 rw [e, pcs_lf _ _ n1, pcs_lines _ _ (chkLs_zero _ _ _ h.ok).2, pcs_lf _ _ n2]
theorem line_head {l : Lnt} (h : chkLn l = 0) : (parts 32 (lineL l)).head? = some l.ac ∧ l.ac ≠ ENDW := by
 rw [line_parts h]
 refine ⟨rfl, fun e => ?_⟩
 have := (chkLn_ok h).1
 rw [e] at this
 exact absurd this (by decide)
theorem parseG_lines (rest : List (List UInt8)) : ∀ (ls : List Lnt) (m : Mst) (i : Nat), (∀ x ∈ ls, chkLn x = 0) → m.ls.length + ls.length ≤ 64 → parseG m i ((ls.map fun l => lineL l ++ [10]) ++ rest) = parseG { m with ls := m.ls ++ ls } (i + ls.length) rest
 | [], m, i, _, _ => by simp
 | l :: ls, m, i, h, hn => by
  have hl := h l (by simp)
  have hh := line_head hl
  simp only [List.length_cons] at hn
  have ih := parseG_lines rest ls { m with ls := m.ls ++ [l] } (i + 1) (fun x hx => h x (List.mem_cons_of_mem _ hx)) (by simp; omega)
  simp only [List.map_cons, List.cons_append]
  rw [parseG, (whole_lf _).1, (whole_lf _).2, if_neg (by decide), if_pos (by rw [hh.1]; simpa using hh.2), lineP_back hl, if_neg (by simp), if_neg (by omega), ih]
  simp only [List.append_assoc, List.cons_append, List.nil_append, List.length_cons]
  rw [show i + 1 + ls.length = i + (ls.length + 1) by omega]
theorem head_back {m : Mst} (h : OkMs m) : headP (headT m ++ [10]) = some ⟨m.ki, m.ai, m.se, m.da, []⟩ := by
 obtain ⟨_, _, _, _, _, d1, d2⟩ := head_parts h.hd
 unfold headP
 rw [(whole_lf _).1, (whole_lf _).2, headT, parts_joined 32 _ (by simp) fun w hw => (vis_no (headW_vis h w hw)).1]
 have hv := val_wide 5 m.da d1 (by omega)
 simp only [hv, h.ki, numB_wide, h.hd, and_self, if_true]
theorem parse_back {m : Mst} (h : OkMs m) (hl : (msgL m).length ≤ 16384) : parseM (msgL m) = (m, 0, 0) := by
 have hp := pcs_msg h []
 rw [List.append_nil, pcs_nil] at hp
 have hz := chkLs_zero _ _ _ h.ok
 have hn := h.ln
 have he : parts 32 (endT m.ls.length) = [ENDW, wideL 2 m.ls.length] := parts_joined 32 _ (by simp) fun w hw => (vis_no (endW_vis _ w hw)).1
 have hv := val_wide 2 (m.ls.length : Int) (by omega) (by omega)
 unfold parseM
 rw [if_neg (by omega), hp]
 simp only [head_back h]
 rw [parseG_lines _ _ _ _ hz.2 (by simpa using hn)]
 simp only [List.nil_append]
 rw [parseG, (whole_lf _).1, (whole_lf _).2, if_neg (by decide), he, if_neg (by simp)]
 simp only [numB_wide, hv, hz.1]
 simp
theorem headP_strict {p : List UInt8} {m : Mst} (h : headP p = some m) : m.ls = [] ∧ msgB m.ki = true ∧ headE m.ai m.se m.da = 0 ∧ headT m ++ [10] = p := by
 unfold headP at h
 split at h
 ·rename_i w0 w1 w2 w3 w4 he
  split at h
  ·rename_i hc
   obtain ⟨c1, c2, c3, c4, c5⟩ := hc
   obtain rfl := Option.some.inj h
   refine ⟨rfl, c3, c5, ?_⟩
   have hb := of_decide_eq_true c4
   have hw := wide_back 5 w4 hb.1 hb.2
   have hj := joined_parts 32 (endW p)
   rw [he, c2] at hj
   unfold headT
   simp only [hw, hj]
   exact (whole_eq c1).symm
  ·cases h
 ·cases h
theorem linesL_snoc (a : List Lnt) (l : Lnt) : linesL (a ++ [l]) = linesL a ++ (lineL l ++ [10]) := by simp [linesL]
end Go.Proofs.YtlnlcdnpgjhaaacGreatDoor.Co
/-
 Messages: the lines of a message, checked by the program and by the reference.
-/
namespace Go.Proofs.YtlnlcdnpgjhaaacGreatDoor.Co
open Go Go.Evl
def prevO (ls : List Lnt) (k : Nat) : Option Lnt := if k = 0 then none else ls[k - 1]?
theorem prevO_succ {ls : List Lnt} {k : Nat} (h : k < ls.length) : prevO ls (k + 1) = some ls[k] := by simp [prevO, h]
theorem act_find (s : List UInt8) : ∃ r, findE (.str s) actM = some r ∧ outV (.str []) false r = S (actK s) := by
 rcases act_cases s with h | ⟨h, h1, h2⟩
 ·simp only [askL, repL, List.cons_append, List.nil_append, List.mem_cons, List.not_mem_nil, or_false] at h
  rcases h with rfl | rfl | rfl | rfl | rfl | rfl | rfl | rfl | rfl
  all_goals exact ⟨_, rfl, rfl⟩
 ·exact ⟨_, h, by unfold actK; rw [h1, h2]; rfl⟩
theorem PickW.part {α : Type} {cell : α → List D} {w : Nat} (hw : ∀ a, (cell a).length = w) {l : List α} {i : Int} {j n : Nat} {ds : List D} {K : List D → Prop} (k : Nat) (hi : i = k) (h : k < l.length) (hj : j + n ≤ w) (hd : win (cell l[k]) j n = ds) (hk : K ds) : PickW (l.flatMap cell) (i.toNat * w + j) n K := by
 subst hi
 rw [Int.toNat_natCast]
 have h1 := flatR_length cell w hw l
 have h2 : (k + 1) * w ≤ l.length * w := Nat.mul_le_mul_right _ h
 rw [Nat.succ_mul] at h2
 refine ⟨by omega, ?_⟩
 have e : win (l.flatMap cell) (k * w + j) n = ds := by
  rw [← hd]
  unfold win
  rw [← List.drop_drop, flatR_drop cell w hw, List.drop_eq_getElem_cons h, List.flatMap_cons, List.drop_append_of_le_length (by rw [hw]; omega), List.take_append_of_le_length (by rw [List.length_drop, hw]; omega)]
 rw [e]; exact hk
section
variable {E : Oracle} (g : Good E)
include g
set_option maxRecDepth 100000
theorem s_twins (a b : Rqt) : Fc E n_message_twins [Rqv a, Rqv b] (B (twinB a b)) := by
 refine g.fn rfl rfl ?_
 unfold twinB
 by_cases h1 : a.ca = b.ca
 ·rw [decide_eq_true h1]
  by_cases h2 : a.nm = b.nm
  ·rw [decide_eq_true h2]
   repeat' ((conv => whnf); first
   | refine Yz ?_
    | (refine Cmp.tt h1 ?_)
    | (refine Cmp.tt h2 ?_)
    | (refine Ret.mk rfl))
  ·rw [decide_eq_false h2]
   repeat' ((conv => whnf); first
   | refine Yz ?_
    | (refine Cmp.tt h1 ?_)
    | (refine Cmp.ff h2 ?_)
    | (refine Ret.mk rfl))
 ·rw [decide_eq_false h1]
  repeat' ((conv => whnf); first
  | refine Yz ?_
   | (refine Cmp.ff h1 ?_)
   | (refine Ret.mk rfl))
set_option maxHeartbeats 16000000 in
theorem rnd_checkLines (kind : List UInt8) (ls : List Lnt) (k : Nat) (hlt : k < ls.length) {K : Ex → Env → Mem → Prop} {R : V} (hl : ls.length ≤ 1000000) (hK : ∀ e m, K .ret e m = resultsW m e [.tmp 4, .tmp 5] fun v => thawW m v fun d => Ret d R)
  (hF : lnE kind (prevO ls k) ls[k] ≠ 0 → .tup [I k, I (lnE kind (prevO ls k) ls[k])] = R)
  (ih : lnE kind (prevO ls k) ls[k] = 0 → LoopW E ⟨0, 1⟩ [0, 1, 12, 13, 14] [] b_message_checkLines_1 [(0, S kind), (1, LL ls), (12, LL ls), (13, I ls.length), (14, I (k + 1 : Nat))] [] K) :
  wpC E ⟨0, 1⟩ b_message_checkLines_1 [(0, S kind), (1, LL ls), (12, LL ls), (13, I ls.length), (14, I k)] [] (againK E ⟨0, 1⟩ [0, 1, 12, 13, 14] [] b_message_checkLines_1 K) := by
 have hcl := s_CheckLine g ls[k]
 obtain ⟨r, hf, hr⟩ := act_find ls[k].ac
 have fin : ∀ a b c, lnE kind (prevO ls k) ls[k] = firstI [a, b, c] → (firstI [a, b, c] = 0 → lnE kind (prevO ls k) ls[k] = 0) ∧ (firstI [a, b, c] ≠ 0 → .tup [I k, I (firstI [a, b, c])] = R) := by
  intro a b c h
  rw [← h]
  exact ⟨id, hF⟩
 by_cases hk : actK ls[k].ac = kind
 ·by_cases h0 : k = 0
  ·have hp : prevO ls k = none := if_pos h0
   by_cases hR : ls[k].ac = [82]
   ·have he : lnE kind (prevO ls k) ls[k] = firstI [chkLn ls[k], 0, 11] := by
     unfold lnE
     rw [hp, if_pos hk]
     simp [hR, openO, twinO]
    by_cases hz : lnE kind (prevO ls k) ls[k] = 0
    all_goals repeat' ((conv => whnf); first
    | refine Yz ?_
     | (refine PickW.rec Lnt.cells_length k rfl hlt ?_)
     | (refine CallI.of hcl ?_)
     | (refine CallS.actions g rfl ?_)
     | (refine Find.mk ⟨_, hf, ?_⟩ <;> (dsimp only; rw [hr]))
     | (refine Cmp.tt (by assumption) ?_)
     | (refine Cmp.ff (by assumption) ?_)
     | (refine CallI.of (s_mwhen g _ _) ?_)
     | (refine CallI.of (s_mfirst3 g _ _ _) ?_)
     | (refine Cmp.tt (he.symm.trans hz) ?_)
     | (refine Cmp.ff (fun h => hz (he.trans h)) ?_)
     | (refine LoopW.to (ih hz) rfl rfl)
     | (refine (hK _ _).mpr ?_)
     | (refine Ret.mk ((fin _ _ _ he).2 (fun h => hz (he.trans h)))))
   ·have he : lnE kind (prevO ls k) ls[k] = firstI [chkLn ls[k], 0, 0] := by
     unfold lnE
     rw [hp, if_pos hk]
     simp [hR, openO, twinO]
    by_cases hz : lnE kind (prevO ls k) ls[k] = 0
    all_goals repeat' ((conv => whnf); first
    | refine Yz ?_
     | (refine PickW.rec Lnt.cells_length k rfl hlt ?_)
     | (refine CallI.of hcl ?_)
     | (refine CallS.actions g rfl ?_)
     | (refine Find.mk ⟨_, hf, ?_⟩ <;> (dsimp only; rw [hr]))
     | (refine Cmp.tt (by assumption) ?_)
     | (refine Cmp.ff (by assumption) ?_)
     | (refine CallI.of (s_mwhen g _ _) ?_)
     | (refine CallI.of (s_mfirst3 g _ _ _) ?_)
     | (refine Cmp.tt (he.symm.trans hz) ?_)
     | (refine Cmp.ff (fun h => hz (he.trans h)) ?_)
     | (refine LoopW.to (ih hz) rfl rfl)
     | (refine (hK _ _).mpr ?_)
     | (refine Ret.mk ((fin _ _ _ he).2 (fun h => hz (he.trans h)))))
  ·have hlp : k - 1 < ls.length := by omega
   have hp : prevO ls k = some ls[k - 1] := by simp [prevO, h0, hlp]
   have ht := s_twins g ls[k - 1].rq ls[k].rq
   by_cases hC : ls[k - 1].ac = [67]
   ·by_cases hR : ls[k].ac = [82]
    ·cases htw : twinB ls[k - 1].rq ls[k].rq
     all_goals rw [htw] at ht
     ·have he : lnE kind (prevO ls k) ls[k] = firstI [chkLn ls[k], 0, 11] := by
       unfold lnE
       rw [hp, if_pos hk]
       simp [hR, hC, htw, openO, twinO]
      by_cases hz : lnE kind (prevO ls k) ls[k] = 0
      all_goals repeat' ((conv => whnf); first
      | refine Yz ?_
       | (refine PickW.rec Lnt.cells_length k rfl hlt ?_)
       | (refine CallI.of hcl ?_)
       | (refine CallS.actions g rfl ?_)
       | (refine Find.mk ⟨_, hf, ?_⟩ <;> (dsimp only; rw [hr]))
       | (refine Pick.rec Lnt.cells_length (k - 1) (by omega) hlp rfl ?_)
       | (refine PickW.part Lnt.cells_length (k - 1) (by omega) hlp (by decide) rfl ?_)
       | (refine CallI.of ht ?_)
       | (refine Cmp.tt (by assumption) ?_)
       | (refine Cmp.ff (by assumption) ?_)
       | (refine CallI.of (s_mwhen g _ _) ?_)
       | (refine CallI.of (s_mfirst3 g _ _ _) ?_)
       | (refine Cmp.tt (he.symm.trans hz) ?_)
       | (refine Cmp.ff (fun h => hz (he.trans h)) ?_)
       | (refine LoopW.to (ih hz) rfl rfl)
       | (refine (hK _ _).mpr ?_)
       | (refine Ret.mk ((fin _ _ _ he).2 (fun h => hz (he.trans h)))))
     ·have he : lnE kind (prevO ls k) ls[k] = firstI [chkLn ls[k], 0, 0] := by
       unfold lnE
       rw [hp, if_pos hk]
       simp [hR, hC, htw, openO, twinO]
      by_cases hz : lnE kind (prevO ls k) ls[k] = 0
      all_goals repeat' ((conv => whnf); first
      | refine Yz ?_
       | (refine PickW.rec Lnt.cells_length k rfl hlt ?_)
       | (refine CallI.of hcl ?_)
       | (refine CallS.actions g rfl ?_)
       | (refine Find.mk ⟨_, hf, ?_⟩ <;> (dsimp only; rw [hr]))
       | (refine Pick.rec Lnt.cells_length (k - 1) (by omega) hlp rfl ?_)
       | (refine PickW.part Lnt.cells_length (k - 1) (by omega) hlp (by decide) rfl ?_)
       | (refine CallI.of ht ?_)
       | (refine Cmp.tt (by assumption) ?_)
       | (refine Cmp.ff (by assumption) ?_)
       | (refine CallI.of (s_mwhen g _ _) ?_)
       | (refine CallI.of (s_mfirst3 g _ _ _) ?_)
       | (refine Cmp.tt (he.symm.trans hz) ?_)
       | (refine Cmp.ff (fun h => hz (he.trans h)) ?_)
       | (refine LoopW.to (ih hz) rfl rfl)
       | (refine (hK _ _).mpr ?_)
       | (refine Ret.mk ((fin _ _ _ he).2 (fun h => hz (he.trans h)))))
    ·have he : lnE kind (prevO ls k) ls[k] = firstI [chkLn ls[k], 0, 11] := by
      unfold lnE
      rw [hp, if_pos hk]
      simp [hR, hC, openO, twinO]
     by_cases hz : lnE kind (prevO ls k) ls[k] = 0
     all_goals repeat' ((conv => whnf); first
     | refine Yz ?_
      | (refine PickW.rec Lnt.cells_length k rfl hlt ?_)
      | (refine CallI.of hcl ?_)
      | (refine CallS.actions g rfl ?_)
      | (refine Find.mk ⟨_, hf, ?_⟩ <;> (dsimp only; rw [hr]))
      | (refine Pick.rec Lnt.cells_length (k - 1) (by omega) hlp rfl ?_)
      | (refine PickW.part Lnt.cells_length (k - 1) (by omega) hlp (by decide) rfl ?_)
      | (refine CallI.of ht ?_)
      | (refine Cmp.tt (by assumption) ?_)
      | (refine Cmp.ff (by assumption) ?_)
      | (refine CallI.of (s_mwhen g _ _) ?_)
      | (refine CallI.of (s_mfirst3 g _ _ _) ?_)
      | (refine Cmp.tt (he.symm.trans hz) ?_)
      | (refine Cmp.ff (fun h => hz (he.trans h)) ?_)
      | (refine LoopW.to (ih hz) rfl rfl)
      | (refine (hK _ _).mpr ?_)
      | (refine Ret.mk ((fin _ _ _ he).2 (fun h => hz (he.trans h)))))
   ·by_cases hR : ls[k].ac = [82]
    ·have he : lnE kind (prevO ls k) ls[k] = firstI [chkLn ls[k], 0, 11] := by
      unfold lnE
      rw [hp, if_pos hk]
      simp [hR, hC, openO, twinO]
     by_cases hz : lnE kind (prevO ls k) ls[k] = 0
     all_goals repeat' ((conv => whnf); first
     | refine Yz ?_
      | (refine PickW.rec Lnt.cells_length k rfl hlt ?_)
      | (refine CallI.of hcl ?_)
      | (refine CallS.actions g rfl ?_)
      | (refine Find.mk ⟨_, hf, ?_⟩ <;> (dsimp only; rw [hr]))
      | (refine Pick.rec Lnt.cells_length (k - 1) (by omega) hlp rfl ?_)
      | (refine PickW.part Lnt.cells_length (k - 1) (by omega) hlp (by decide) rfl ?_)
      | (refine CallI.of ht ?_)
      | (refine Cmp.tt (by assumption) ?_)
      | (refine Cmp.ff (by assumption) ?_)
      | (refine CallI.of (s_mwhen g _ _) ?_)
      | (refine CallI.of (s_mfirst3 g _ _ _) ?_)
      | (refine Cmp.tt (he.symm.trans hz) ?_)
      | (refine Cmp.ff (fun h => hz (he.trans h)) ?_)
      | (refine LoopW.to (ih hz) rfl rfl)
      | (refine (hK _ _).mpr ?_)
      | (refine Ret.mk ((fin _ _ _ he).2 (fun h => hz (he.trans h)))))
    ·have he : lnE kind (prevO ls k) ls[k] = firstI [chkLn ls[k], 0, 0] := by
      unfold lnE
      rw [hp, if_pos hk]
      simp [hR, hC, openO, twinO]
     by_cases hz : lnE kind (prevO ls k) ls[k] = 0
     all_goals repeat' ((conv => whnf); first
     | refine Yz ?_
      | (refine PickW.rec Lnt.cells_length k rfl hlt ?_)
      | (refine CallI.of hcl ?_)
      | (refine CallS.actions g rfl ?_)
      | (refine Find.mk ⟨_, hf, ?_⟩ <;> (dsimp only; rw [hr]))
      | (refine Pick.rec Lnt.cells_length (k - 1) (by omega) hlp rfl ?_)
      | (refine PickW.part Lnt.cells_length (k - 1) (by omega) hlp (by decide) rfl ?_)
      | (refine CallI.of ht ?_)
      | (refine Cmp.tt (by assumption) ?_)
      | (refine Cmp.ff (by assumption) ?_)
      | (refine CallI.of (s_mwhen g _ _) ?_)
      | (refine CallI.of (s_mfirst3 g _ _ _) ?_)
      | (refine Cmp.tt (he.symm.trans hz) ?_)
      | (refine Cmp.ff (fun h => hz (he.trans h)) ?_)
      | (refine LoopW.to (ih hz) rfl rfl)
      | (refine (hK _ _).mpr ?_)
      | (refine Ret.mk ((fin _ _ _ he).2 (fun h => hz (he.trans h)))))
 ·by_cases h0 : k = 0
  ·have hp : prevO ls k = none := if_pos h0
   by_cases hR : ls[k].ac = [82]
   ·have he : lnE kind (prevO ls k) ls[k] = firstI [chkLn ls[k], 18, 11] := by
     unfold lnE
     rw [hp, if_neg hk]
     simp [hR, openO, twinO]
    by_cases hz : lnE kind (prevO ls k) ls[k] = 0
    all_goals repeat' ((conv => whnf); first
    | refine Yz ?_
     | (refine PickW.rec Lnt.cells_length k rfl hlt ?_)
     | (refine CallI.of hcl ?_)
     | (refine CallS.actions g rfl ?_)
     | (refine Find.mk ⟨_, hf, ?_⟩ <;> (dsimp only; rw [hr]))
     | (refine Cmp.tt (by assumption) ?_)
     | (refine Cmp.ff (by assumption) ?_)
     | (refine CallI.of (s_mwhen g _ _) ?_)
     | (refine CallI.of (s_mfirst3 g _ _ _) ?_)
     | (refine Cmp.tt (he.symm.trans hz) ?_)
     | (refine Cmp.ff (fun h => hz (he.trans h)) ?_)
     | (refine LoopW.to (ih hz) rfl rfl)
     | (refine (hK _ _).mpr ?_)
     | (refine Ret.mk ((fin _ _ _ he).2 (fun h => hz (he.trans h)))))
   ·have he : lnE kind (prevO ls k) ls[k] = firstI [chkLn ls[k], 18, 0] := by
     unfold lnE
     rw [hp, if_neg hk]
     simp [hR, openO, twinO]
    by_cases hz : lnE kind (prevO ls k) ls[k] = 0
    all_goals repeat' ((conv => whnf); first
    | refine Yz ?_
     | (refine PickW.rec Lnt.cells_length k rfl hlt ?_)
     | (refine CallI.of hcl ?_)
     | (refine CallS.actions g rfl ?_)
     | (refine Find.mk ⟨_, hf, ?_⟩ <;> (dsimp only; rw [hr]))
     | (refine Cmp.tt (by assumption) ?_)
     | (refine Cmp.ff (by assumption) ?_)
     | (refine CallI.of (s_mwhen g _ _) ?_)
     | (refine CallI.of (s_mfirst3 g _ _ _) ?_)
     | (refine Cmp.tt (he.symm.trans hz) ?_)
     | (refine Cmp.ff (fun h => hz (he.trans h)) ?_)
     | (refine LoopW.to (ih hz) rfl rfl)
     | (refine (hK _ _).mpr ?_)
     | (refine Ret.mk ((fin _ _ _ he).2 (fun h => hz (he.trans h)))))
  ·have hlp : k - 1 < ls.length := by omega
   have hp : prevO ls k = some ls[k - 1] := by simp [prevO, h0, hlp]
   have ht := s_twins g ls[k - 1].rq ls[k].rq
   by_cases hC : ls[k - 1].ac = [67]
   ·by_cases hR : ls[k].ac = [82]
    ·cases htw : twinB ls[k - 1].rq ls[k].rq
     all_goals rw [htw] at ht
     ·have he : lnE kind (prevO ls k) ls[k] = firstI [chkLn ls[k], 18, 11] := by
       unfold lnE
       rw [hp, if_neg hk]
       simp [hR, hC, htw, openO, twinO]
      by_cases hz : lnE kind (prevO ls k) ls[k] = 0
      all_goals repeat' ((conv => whnf); first
      | refine Yz ?_
       | (refine PickW.rec Lnt.cells_length k rfl hlt ?_)
       | (refine CallI.of hcl ?_)
       | (refine CallS.actions g rfl ?_)
       | (refine Find.mk ⟨_, hf, ?_⟩ <;> (dsimp only; rw [hr]))
       | (refine Pick.rec Lnt.cells_length (k - 1) (by omega) hlp rfl ?_)
       | (refine PickW.part Lnt.cells_length (k - 1) (by omega) hlp (by decide) rfl ?_)
       | (refine CallI.of ht ?_)
       | (refine Cmp.tt (by assumption) ?_)
       | (refine Cmp.ff (by assumption) ?_)
       | (refine CallI.of (s_mwhen g _ _) ?_)
       | (refine CallI.of (s_mfirst3 g _ _ _) ?_)
       | (refine Cmp.tt (he.symm.trans hz) ?_)
       | (refine Cmp.ff (fun h => hz (he.trans h)) ?_)
       | (refine LoopW.to (ih hz) rfl rfl)
       | (refine (hK _ _).mpr ?_)
       | (refine Ret.mk ((fin _ _ _ he).2 (fun h => hz (he.trans h)))))
     ·have he : lnE kind (prevO ls k) ls[k] = firstI [chkLn ls[k], 18, 0] := by
       unfold lnE
       rw [hp, if_neg hk]
       simp [hR, hC, htw, openO, twinO]
      by_cases hz : lnE kind (prevO ls k) ls[k] = 0
      all_goals repeat' ((conv => whnf); first
      | refine Yz ?_
       | (refine PickW.rec Lnt.cells_length k rfl hlt ?_)
       | (refine CallI.of hcl ?_)
       | (refine CallS.actions g rfl ?_)
       | (refine Find.mk ⟨_, hf, ?_⟩ <;> (dsimp only; rw [hr]))
       | (refine Pick.rec Lnt.cells_length (k - 1) (by omega) hlp rfl ?_)
       | (refine PickW.part Lnt.cells_length (k - 1) (by omega) hlp (by decide) rfl ?_)
       | (refine CallI.of ht ?_)
       | (refine Cmp.tt (by assumption) ?_)
       | (refine Cmp.ff (by assumption) ?_)
       | (refine CallI.of (s_mwhen g _ _) ?_)
       | (refine CallI.of (s_mfirst3 g _ _ _) ?_)
       | (refine Cmp.tt (he.symm.trans hz) ?_)
       | (refine Cmp.ff (fun h => hz (he.trans h)) ?_)
       | (refine LoopW.to (ih hz) rfl rfl)
       | (refine (hK _ _).mpr ?_)
       | (refine Ret.mk ((fin _ _ _ he).2 (fun h => hz (he.trans h)))))
    ·have he : lnE kind (prevO ls k) ls[k] = firstI [chkLn ls[k], 18, 11] := by
      unfold lnE
      rw [hp, if_neg hk]
      simp [hR, hC, openO, twinO]
     by_cases hz : lnE kind (prevO ls k) ls[k] = 0
     all_goals repeat' ((conv => whnf); first
     | refine Yz ?_
      | (refine PickW.rec Lnt.cells_length k rfl hlt ?_)
      | (refine CallI.of hcl ?_)
      | (refine CallS.actions g rfl ?_)
      | (refine Find.mk ⟨_, hf, ?_⟩ <;> (dsimp only; rw [hr]))
      | (refine Pick.rec Lnt.cells_length (k - 1) (by omega) hlp rfl ?_)
      | (refine PickW.part Lnt.cells_length (k - 1) (by omega) hlp (by decide) rfl ?_)
      | (refine CallI.of ht ?_)
      | (refine Cmp.tt (by assumption) ?_)
      | (refine Cmp.ff (by assumption) ?_)
      | (refine CallI.of (s_mwhen g _ _) ?_)
      | (refine CallI.of (s_mfirst3 g _ _ _) ?_)
      | (refine Cmp.tt (he.symm.trans hz) ?_)
      | (refine Cmp.ff (fun h => hz (he.trans h)) ?_)
      | (refine LoopW.to (ih hz) rfl rfl)
      | (refine (hK _ _).mpr ?_)
      | (refine Ret.mk ((fin _ _ _ he).2 (fun h => hz (he.trans h)))))
   ·by_cases hR : ls[k].ac = [82]
    ·have he : lnE kind (prevO ls k) ls[k] = firstI [chkLn ls[k], 18, 11] := by
      unfold lnE
      rw [hp, if_neg hk]
      simp [hR, hC, openO, twinO]
     by_cases hz : lnE kind (prevO ls k) ls[k] = 0
     all_goals repeat' ((conv => whnf); first
     | refine Yz ?_
      | (refine PickW.rec Lnt.cells_length k rfl hlt ?_)
      | (refine CallI.of hcl ?_)
      | (refine CallS.actions g rfl ?_)
      | (refine Find.mk ⟨_, hf, ?_⟩ <;> (dsimp only; rw [hr]))
      | (refine Pick.rec Lnt.cells_length (k - 1) (by omega) hlp rfl ?_)
      | (refine PickW.part Lnt.cells_length (k - 1) (by omega) hlp (by decide) rfl ?_)
      | (refine CallI.of ht ?_)
      | (refine Cmp.tt (by assumption) ?_)
      | (refine Cmp.ff (by assumption) ?_)
      | (refine CallI.of (s_mwhen g _ _) ?_)
      | (refine CallI.of (s_mfirst3 g _ _ _) ?_)
      | (refine Cmp.tt (he.symm.trans hz) ?_)
      | (refine Cmp.ff (fun h => hz (he.trans h)) ?_)
      | (refine LoopW.to (ih hz) rfl rfl)
      | (refine (hK _ _).mpr ?_)
      | (refine Ret.mk ((fin _ _ _ he).2 (fun h => hz (he.trans h)))))
    ·have he : lnE kind (prevO ls k) ls[k] = firstI [chkLn ls[k], 18, 0] := by
      unfold lnE
      rw [hp, if_neg hk]
      simp [hR, hC, openO, twinO]
     by_cases hz : lnE kind (prevO ls k) ls[k] = 0
     all_goals repeat' ((conv => whnf); first
     | refine Yz ?_
      | (refine PickW.rec Lnt.cells_length k rfl hlt ?_)
      | (refine CallI.of hcl ?_)
      | (refine CallS.actions g rfl ?_)
      | (refine Find.mk ⟨_, hf, ?_⟩ <;> (dsimp only; rw [hr]))
      | (refine Pick.rec Lnt.cells_length (k - 1) (by omega) hlp rfl ?_)
      | (refine PickW.part Lnt.cells_length (k - 1) (by omega) hlp (by decide) rfl ?_)
      | (refine CallI.of ht ?_)
      | (refine Cmp.tt (by assumption) ?_)
      | (refine Cmp.ff (by assumption) ?_)
      | (refine CallI.of (s_mwhen g _ _) ?_)
      | (refine CallI.of (s_mfirst3 g _ _ _) ?_)
      | (refine Cmp.tt (he.symm.trans hz) ?_)
      | (refine Cmp.ff (fun h => hz (he.trans h)) ?_)
      | (refine LoopW.to (ih hz) rfl rfl)
      | (refine (hK _ _).mpr ?_)
      | (refine Ret.mk ((fin _ _ _ he).2 (fun h => hz (he.trans h)))))
end
end Go.Proofs.YtlnlcdnpgjhaaacGreatDoor.Co
/-
 Entries: what messages leave, in plain terms.
-/
namespace Go.Proofs.YtlnlcdnpgjhaaacGreatDoor.Co
open Go Go.Evl
structure Ent where
 rq : Rqt
 hi : Bool
 da : Int
def Ent.cells (e : Ent) : List D := [.str e.rq.nm, .str e.rq.ca, .str e.rq.ki, .str e.rq.te, .str e.rq.pa, .str e.rq.li, DI e.rq.fr, DI e.rq.to, DI e.rq.da, DI e.rq.mi, DI e.rq.se, DI e.rq.si, DI e.rq.no, .bool e.hi, DI e.da]
theorem Ent.cells_length (e : Ent) : e.cells.length = 15 := rfl
abbrev LE (l : List Ent) : V := .d (.list l.length (l.flatMap Ent.cells))
def plc (s : List UInt8) : List Ent → Option Nat
 | [] => none
 | e :: r => if e.rq.nm = s then some 0 else (plc s r).map (· + 1)
theorem plc_some {s : List UInt8} : ∀ {l : List Ent} {k : Nat}, plc s l = some k → ∃ h : k < l.length, l[k].rq.nm = s ∧ ∀ (j : Nat) (hj : j < k), ¬ (l[j]'(Nat.lt_trans hj h)).rq.nm = s
 | [], k, h => by cases h
 | e :: r, k, h => by
  rw [plc] at h
  by_cases hx : e.rq.nm = s
  ·rw [if_pos hx] at h
   cases h
   exact ⟨by simp, hx, fun j hj => absurd hj (Nat.not_lt_zero _)⟩
  ·rw [if_neg hx] at h
   cases hp : plc s r with
   | none => rw [hp] at h; cases h
   | some i =>
    rw [hp] at h
    cases h
    obtain ⟨a, b, c⟩ := plc_some hp
    refine ⟨by simpa using a, by simpa using b, fun j hj => ?_⟩
    cases j with
    | zero => simpa using hx
    | succ j => simpa using c j (by have hj : j + 1 < i + 1 := hj; omega)
def stpE (l : List Ent) (x : Lnt) : Int :=
 match plc x.rq.nm l with
 | none => if x.ac = [78] ∨ x.ac = [72] then (if 64 ≤ l.length then 5 else 0) else if x.ac = [82] then 0 else 10
 | some k => if x.ac = [78] ∨ x.ac = [72] then 9 else if x.ac = [82] then 0 else if (l[k]?.map (·.rq)) = some x.rq then 0 else 29
def stpL (l : List Ent) (x : Lnt) (da : Int) : List Ent :=
 match plc x.rq.nm l with
 | none => l ++ [⟨x.rq, decide (x.ac = [72]), da⟩]
 | some k => if x.ac = [82] then l.set k ⟨x.rq, (l[k]?.map (·.hi)).getD false, da⟩ else if x.ac = [68] then l.eraseIdx k else l
def linG (da : Int) : List Ent → List Lnt → List Ent × Int
 | l, [] => (l, 0)
 | l, x :: r => if stpE l x = 0 then linG da (stpL l x da) r else (l, stpE l x)
def msgE (f p m : Mst) : Int := firstI [chkMs m, if m.ki = REQ then 0 else 13, if m.ai = f.ai ∧ m.se = f.se then 0 else 29, if m.da < p.da then 11 else 0]
def reqG (f : Mst) : Mst → Nat → List Ent → List Mst → List Ent × Nat × Int
 | _, _, l, [] => (l, 0, 0)
 | p, i, l, m :: r =>
  if msgE f p m = 0 then (if (linG m.da l m.ls).2 = 0 then reqG f m (i + 1) (linG m.da l m.ls).1 r else ([], i, (linG m.da l m.ls).2))
  else ([], i, msgE f p m)
def reqs (l : List Mst) : List Ent × Nat × Int :=
 if 64 < l.length then ([], 0, 5) else
 match l with
 | [] => ([], 0, 0)
 | f :: r => reqG f f 0 [] (f :: r)
def plcOk (da : Int) : List Ent → List Lnt → Prop
 | _, [] => True
 | l, x :: r => (x.ac = [82] → (plc x.rq.nm l).isSome) ∧ (stpE l x = 0 → plcOk da (stpL l x da) r)
theorem lnE_open {p : Option Lnt} {x : Lnt} (h : lnE REQ p x = 0) (hx : x.ac = [82]) : ∃ y, p = some y ∧ y.ac = [67] ∧ y.rq.nm = x.rq.nm := by
 unfold lnE at h
 rw [firstI_zero] at h
 have h3 := h (if (openO p || decide (x.ac = [82])) && !(openO p && decide (x.ac = [82]) && twinO x p) then 11 else 0) (by simp)
 rw [decide_eq_true hx] at h3
 cases p with
 | none => simp [openO] at h3
 | some y =>
  refine ⟨y, rfl, ?_⟩
  cases ho : openO (some y) with
  | false => rw [ho] at h3; simp at h3
  | true =>
   cases ht : twinO x (some y) with
   | false => rw [ho, ht] at h3; simp at h3
   | true =>
    simp only [openO, decide_eq_true_eq] at ho
    simp only [twinO, twinB, Bool.and_eq_true, decide_eq_true_eq] at ht
    exact ⟨ho, ht.2⟩
theorem plcOk_of (da : Int) : ∀ (ls : List Lnt) (l : List Ent) (p : Option Lnt) (i : Nat), (chkLs REQ p i ls).2 = 0 → (∀ y, p = some y → y.ac = [67] → (plc y.rq.nm l).isSome) → plcOk da l ls
 | [], _, _, _, _, _ => trivial
 | x :: r, l, p, i, h, hp => by
  rw [chkLs] at h
  by_cases hz : lnE REQ p x = 0
  ·rw [if_pos hz] at h
   refine ⟨fun hx => ?_, fun he => plcOk_of da r _ (some x) (i + 1) h fun y hy hc => ?_⟩
   ·obtain ⟨y, hy, hc, hn⟩ := lnE_open hz hx
    rw [← hn]
    exact hp y hy hc
   ·obtain rfl := Option.some.inj hy
    cases hq : plc x.rq.nm l with
    | none =>
     unfold stpE at he
     rw [hq] at he
     simp only at he
     rw [hc, if_neg (by decide), if_neg (by decide)] at he
     cases he
    | some k =>
     have e : stpL l x da = l := by
      unfold stpL
      rw [hq]
      simp only
      rw [hc, if_neg (by decide), if_neg (by decide)]
     rw [e, hq]
     rfl
  ·rw [if_neg hz] at h
   exact absurd h hz
theorem Mst.cells_length (m : Mst) : m.cells.length = 5 := rfl
abbrev LMs (l : List Mst) : V := .d (.list l.length (l.flatMap Mst.cells))
theorem stp_len {l : List Ent} {x : Lnt} {da : Int} (h : l.length ≤ 64) (he : stpE l x = 0) (hr : x.ac = [82] → (plc x.rq.nm l).isSome) : (stpL l x da).length ≤ 64 := by
 unfold stpE at he
 unfold stpL
 cases hp : plc x.rq.nm l with
 | none =>
  rw [hp] at he hr
  simp only at he
  by_cases h1 : x.ac = [78] ∨ x.ac = [72]
  ·rw [if_pos h1] at he
   split at he
   ·cases he
   ·simp; omega
  ·rw [if_neg h1] at he
   by_cases h2 : x.ac = [82]
   ·have := hr h2; cases this
   ·rw [if_neg h2] at he; cases he
 | some k =>
  simp only
  split
  ·simpa using h
  ·split
   ·have := List.length_eraseIdx_le l k; omega
   ·exact h
end Go.Proofs.YtlnlcdnpgjhaaacGreatDoor.Co
/-
 Messages: a round of the reference's checkLines, for requests.
-/
namespace Go.Proofs.YtlnlcdnpgjhaaacGreatDoor.Co
open Go Go.Evl
theorem chkLs_step {kind : List UInt8} {ls : List Lnt} {k : Nat} (h : k < ls.length) : chkLs kind (prevO ls k) k (ls.drop k) = if lnE kind (prevO ls k) ls[k] = 0 then chkLs kind (prevO ls (k + 1)) (k + 1) (ls.drop (k + 1)) else (k, lnE kind (prevO ls k) ls[k]) := by
 rw [List.drop_eq_getElem_cons h, chkLs, prevO_succ h]
theorem chkLs_end {kind : List UInt8} {ls : List Lnt} : chkLs kind (prevO ls ls.length) ls.length (ls.drop ls.length) = if openO (prevO ls ls.length) then (ls.length - 1, 11) else (0, 0) := by
 rw [List.drop_length, chkLs]
open Go Go.Evl
open Go Go.Evl
end Go.Proofs.YtlnlcdnpgjhaaacGreatDoor.Co
/-
 Messages: Changed, by the program and by the reference.
-/
namespace Go.Proofs.YtlnlcdnpgjhaaacGreatDoor.Co
open Go Go.Evl
set_option maxRecDepth 100000
theorem rq_ext {a b : Rqt} (h : a.nm = b.nm ∧ a.ca = b.ca ∧ a.ki = b.ki ∧ a.te = b.te ∧ a.pa = b.pa ∧ a.li = b.li ∧ a.fr = b.fr ∧ a.to = b.to ∧ a.da = b.da ∧ a.mi = b.mi ∧ a.se = b.se ∧ a.si = b.si ∧ a.no = b.no) : a = b := by
 obtain ⟨h1, h2, h3, h4, h5, h6, h7, h8, h9, h10, h11, h12, h13⟩ := h
 cases a
 cases b
 simp only at h1 h2 h3 h4 h5 h6 h7 h8 h9 h10 h11 h12 h13
 simp only [h1, h2, h3, h4, h5, h6, h7, h8, h9, h10, h11, h12, h13]
end Go.Proofs.YtlnlcdnpgjhaaacGreatDoor.Co
/-
 Entries: one line, by the reference.
-/
namespace Go.Proofs.YtlnlcdnpgjhaaacGreatDoor.Co
open Go Go.Evl
def plcI (s : List UInt8) (l : List Ent) : Int :=
 match plc s l with
 | some k => k
 | none => -1
theorem plc_at {s : List UInt8} : ∀ {l : List Ent} {k : Nat} (h : k < l.length), (∀ (j : Nat) (hj : j < l.length), j < k → ¬ l[j].rq.nm = s) → l[k].rq.nm = s → plc s l = some k
 | [], k, h, _, _ => absurd h (Nat.not_lt_zero _)
 | e :: r, 0, _, _, h1 => by
  have h1 : e.rq.nm = s := h1
  rw [plc, if_pos h1]
 | e :: r, k + 1, h, h0, h1 => by
  have h2 : ¬ e.rq.nm = s := h0 0 (by simp) (by omega)
  rw [plc, if_neg h2, plc_at (k := k) (by simpa using h) (fun j hj hjk => h0 (j + 1) (by simpa using hj) (by omega)) h1]
  rfl
theorem plc_non {s : List UInt8} : ∀ {l : List Ent}, (∀ (j : Nat) (hj : j < l.length), ¬ l[j].rq.nm = s) → plc s l = none
 | [], _ => rfl
 | e :: r, h => by
  have h2 : ¬ e.rq.nm = s := h 0 (by simp)
  rw [plc, if_neg h2, plc_non fun j hj => h (j + 1) (by simpa using hj)]
  rfl
theorem win_take15 (l : List Ent) (k : Nat) (h : k ≤ l.length) : (l.flatMap Ent.cells).take (k * 15) = (l.take k).flatMap Ent.cells := by
 have e : l.flatMap Ent.cells = (l.take k).flatMap Ent.cells ++ (l.drop k).flatMap Ent.cells := by
  rw [← List.flatMap_append, List.take_append_drop]
 rw [e]
 refine List.take_left' ?_
 rw [flatR_length Ent.cells 15 Ent.cells_length, List.length_take]
 omega
theorem ent_patch (l : List Ent) (k : Nat) (e : Ent) (h : k < l.length) : patch (l.flatMap Ent.cells) (k * 15) e.cells = (l.set k e).flatMap Ent.cells := by
 unfold patch
 rw [List.set_eq_take_append_cons_drop, if_pos h, List.flatMap_append, List.flatMap_cons]
 have h1 := flatR_drop Ent.cells 15 Ent.cells_length l (k + 1)
 have h2 : (l.flatMap Ent.cells).take (k * 15) = (l.take k).flatMap Ent.cells := by
  have := win_take15 l k (by omega)
  exact this
 rw [h2, Ent.cells_length, show k * 15 + 15 = (k + 1) * 15 by omega, h1, List.append_assoc]
theorem stp_new {l : List Ent} {q : Rqt} {s : List UInt8} {da : Int} (hp : plc q.nm l = none) (hs : s = [78] ∨ s = [72]) : stpE l ⟨s, q⟩ = (if 64 ≤ l.length then 5 else 0) ∧ stpL l ⟨s, q⟩ da = l ++ [⟨q, decide (s = [72]), da⟩] := by
 unfold stpE stpL
 simp only [hp]
 exact ⟨if_pos hs, trivial⟩
theorem stp_twice {l : List Ent} {q : Rqt} {s : List UInt8} {k : Nat} (hp : plc q.nm l = some k) (hs : s = [78] ∨ s = [72]) : stpE l ⟨s, q⟩ = 9 := by
 unfold stpE
 simp only [hp]
 exact if_pos hs
theorem stp_none {l : List Ent} {q : Rqt} {s : List UInt8} (hp : plc q.nm l = none) (h1 : ¬ s = [78]) (h2 : ¬ s = [72]) (h3 : ¬ s = [82]) : stpE l ⟨s, q⟩ = 10 := by
 unfold stpE
 simp only [hp]
 rw [if_neg (by rintro (h | h) <;> contradiction), if_neg h3]
theorem stp_repl {l : List Ent} {q : Rqt} {da : Int} {k : Nat} (hp : plc q.nm l = some k) (hk : k < l.length) : stpE l ⟨[82], q⟩ = 0 ∧ stpL l ⟨[82], q⟩ da = l.set k ⟨q, l[k].hi, da⟩ := by
 unfold stpE stpL
 simp only [hp, List.getElem?_eq_getElem hk, Option.map_some, Option.getD_some]
 exact ⟨by rw [if_neg (by decide)]; rfl, rfl⟩
theorem stp_some {l : List Ent} {q : Rqt} {s : List UInt8} {da : Int} {k : Nat} (hp : plc q.nm l = some k) (hk : k < l.length) (h1 : ¬ s = [78]) (h2 : ¬ s = [72]) (h3 : ¬ s = [82]) : stpE l ⟨s, q⟩ = (if l[k].rq = q then 0 else 29) ∧ stpL l ⟨s, q⟩ da = if s = [68] then l.eraseIdx k else l := by
 unfold stpE stpL
 simp only [hp, List.getElem?_eq_getElem hk, Option.map_some, Option.some.injEq]
 exact ⟨by rw [if_neg (by rintro (h | h) <;> contradiction), if_neg h3], by rw [if_neg h3]⟩
end Go.Proofs.YtlnlcdnpgjhaaacGreatDoor.Co
/-
 Messages: checkLines and CheckMessage, by the program and by the reference.
-/
namespace Go.Proofs.YtlnlcdnpgjhaaacGreatDoor.Co
open Go Go.Evl
section
variable {E : Oracle} (g : Good E)
include g
set_option maxRecDepth 100000
set_option maxHeartbeats 4000000 in
theorem s_checkLines (kind : List UInt8) (ls : List Lnt) (hl : ls.length ≤ 1000000) : Fc E n_message_checkLines [S kind, LL ls] (.tup [I ((chkLs kind none 0 ls).1 : Nat), I (chkLs kind none 0 ls).2]) := by
 refine g.fn rfl rfl ?_
 repeat' ((conv => whnf); first
 | refine Yz ?_)
 refine LoopW.to (LoopW.upP g (fun k => [(0, S kind), (1, LL ls), (12, LL ls), (13, I ls.length), (14, I k)]) (fun _ => []) (fun k => chkLs kind (prevO ls k) k (ls.drop k) = chkLs kind none 0 ls) ls.length (fun k hk hp ih => ?_) 0 (Nat.zero_le _) rfl) rfl rfl
 by_cases hlt : k < ls.length
 ·have hs := chkLs_step (kind := kind) hlt
  refine rnd_checkLines g kind ls k hlt hl (fun _ _ => rfl) (fun hz => ?_) (fun hz => ?_)
  ·rw [if_neg hz, hp] at hs
   rw [hs]
  ·rw [if_pos hz, hp] at hs
   exact ih hlt hs.symm
 ·obtain rfl : k = ls.length := by omega
  rw [← hp, chkLs_end]
  by_cases h0 : ls.length = 0
  ·have hz : prevO ls ls.length = none := if_pos h0
   rw [hz]
   repeat' ((conv => whnf); first
   | refine Yz ?_
    | (refine Ret.mk rfl))
  ·have hlp : ls.length - 1 < ls.length := by omega
   have hz : prevO ls ls.length = some ls[ls.length - 1] := by simp [prevO, h0, hlp]
   rw [hz]
   by_cases hC : ls[ls.length - 1].ac = [67]
   ·have ho : openO (some ls[ls.length - 1]) = true := decide_eq_true hC
    rw [ho]
    repeat' ((conv => whnf); first
    | refine Yz ?_
     | (refine Pick.rec Lnt.cells_length (ls.length - 1) (by omega) hlp rfl ?_)
     | (refine Cmp.tt hC ?_)
     | (refine Ret.mk ?_))
    rw [if_pos rfl, show ((ls.length : Int) - 1) = ((ls.length - 1 : Nat) : Int) by omega]
   ·have ho : openO (some ls[ls.length - 1]) = false := decide_eq_false hC
    rw [ho]
    repeat' ((conv => whnf); first
    | refine Yz ?_
     | (refine Pick.rec Lnt.cells_length (ls.length - 1) (by omega) hlp rfl ?_)
     | (refine Cmp.ff hC ?_)
     | (refine Ret.mk rfl))
omit g in
theorem chkMs_eq (m : Mst) : chkMs m = if firstI [if (!msgB m.ki) = true then 13 else 0, headE m.ai m.se m.da, if 64 < m.ls.length then 5 else 0] = 0 then (chkLs m.ki none 0 m.ls).2 else firstI [if (!msgB m.ki) = true then 13 else 0, headE m.ai m.se m.da, if 64 < m.ls.length then 5 else 0] := by
 unfold chkMs
 generalize (if (!msgB m.ki) = true then (13 : Int) else 0) = a
 generalize headE m.ai m.se m.da = b
 generalize (if 64 < m.ls.length then (5 : Int) else 0) = c
 generalize (chkLs m.ki none 0 m.ls).2 = d
 by_cases ha : a = 0 <;> by_cases hb : b = 0 <;> by_cases hc : c = 0 <;> by_cases hd : d = 0 <;> simp [firstI, ha, hb, hc, hd]
set_option maxHeartbeats 4000000 in
theorem s_CheckMessage (m : Mst) (hl : m.ls.length ≤ 1000000) : Fc E n_message_CheckMessage [Msv m] (I (chkMs m)) := by
 refine g.fn rfl rfl ?_
 have h1 := s_isMessage g m.ki
 have h2 := s_checkHead g m.ai m.se m.da
 have h3 := s_checkLines g m.ki m.ls hl
 rw [chkMs_eq]
 generalize headE m.ai m.se m.da = b at *
 generalize msgB m.ki = a at *
 by_cases hn : 64 < m.ls.length
 ·rw [if_pos hn]
  by_cases hz : firstI [if (!a) = true then 13 else 0, b, 5] = 0
  ·rw [if_pos hz]
   repeat' ((conv => whnf); first
   | refine Yz ?_
    | (apply CallI.of; assumption)
    | (refine CallI.of (s_mwhen g _ _) ?_)
    | (refine CallI.of (s_mfirst3 g _ _ _) ?_)
    | (refine Cmp.tt hz ?_)
    | (refine Ret.mk rfl))
  ·rw [if_neg hz]
   repeat' ((conv => whnf); first
   | refine Yz ?_
    | (apply CallI.of; assumption)
    | (refine CallI.of (s_mwhen g _ _) ?_)
    | (refine CallI.of (s_mfirst3 g _ _ _) ?_)
    | (refine Cmp.ff hz ?_)
    | (refine Ret.mk rfl))
 ·rw [if_neg hn]
  by_cases hz : firstI [if (!a) = true then 13 else 0, b, 0] = 0
  ·rw [if_pos hz]
   repeat' ((conv => whnf); first
   | refine Yz ?_
    | (apply CallI.of; assumption)
    | (refine CallI.of (s_mwhen g _ _) ?_)
    | (refine CallI.of (s_mfirst3 g _ _ _) ?_)
    | (refine Cmp.tt hz ?_)
    | (refine Ret.mk rfl))
  ·rw [if_neg hz]
   repeat' ((conv => whnf); first
   | refine Yz ?_
    | (apply CallI.of; assumption)
    | (refine CallI.of (s_mwhen g _ _) ?_)
    | (refine CallI.of (s_mfirst3 g _ _ _) ?_)
    | (refine Cmp.ff hz ?_)
    | (refine Ret.mk rfl))
end
end Go.Proofs.YtlnlcdnpgjhaaacGreatDoor.Co
/-
 Requests, by the reference.
-/
namespace Go.Proofs.YtlnlcdnpgjhaaacGreatDoor.Co
open Go Go.Evl
abbrev lnV (x : Lnt) : List V := [.d (.str x.ac), .d (.str x.rq.nm), .d (.str x.rq.ca), .d (.str x.rq.ki), .d (.str x.rq.te), .d (.str x.rq.pa), .d (.str x.rq.li), .d (DI x.rq.fr), .d (DI x.rq.to), .d (DI x.rq.da), .d (DI x.rq.mi), .d (DI x.rq.se), .d (DI x.rq.si), .d (DI x.rq.no)]
theorem linG_drop {da : Int} {l : List Ent} {ls : List Lnt} {k : Nat} (h : k < ls.length) : linG da l (ls.drop k) = if stpE l ls[k] = 0 then linG da (stpL l ls[k] da) (ls.drop (k + 1)) else (l, stpE l ls[k]) := by
 rw [List.drop_eq_getElem_cons h, linG]
theorem reqs_eq {ms : List Mst} (h0 : 0 < ms.length) (h : ms.length ≤ 64) : reqs ms = reqG (ms.getD 0 zeroM) (ms.getD 0 zeroM) 0 [] ms := by
 unfold reqs
 rw [if_neg (by omega)]
 cases ms with
 | nil => cases h0
 | cons f r => rfl
theorem reqG_drop {f p : Mst} {i : Nat} {l : List Ent} {ms : List Mst} (h : i < ms.length) : reqG f p i l (ms.drop i) = if msgE f p ms[i] = 0 then (if (linG ms[i].da l ms[i].ls).2 = 0 then reqG f ms[i] (i + 1) (linG ms[i].da l ms[i].ls).1 (ms.drop (i + 1)) else ([], i, (linG ms[i].da l ms[i].ls).2)) else ([], i, msgE f p ms[i]) := by
 rw [List.drop_eq_getElem_cons h, reqG]
theorem ms_get {ms : List Mst} {i : Nat} (h : i < ms.length) : ms.getD i zeroM = ms[i] := by simp [List.getD, h]
end Go.Proofs.YtlnlcdnpgjhaaacGreatDoor.Co
/-
 Entries: what the program's and the reference's steps have in common.
-/
namespace Go.Proofs.YtlnlcdnpgjhaaacGreatDoor.Co
open Go Go.Evl
abbrev msV (m : Mst) : List V := [S m.ki, S m.ai, S m.se, I m.da, LL m.ls]
structure Hold (p : Prop) : Prop where
 go : p
theorem Mf {A B : Prop} : (b : Bool) → b = false → B → (match b with | true => A | false => B)
 | false, _, k => k
 | true, h, _ => Bool.noConfusion h
theorem Mt {A B : Prop} : (b : Bool) → b = true → A → (match b with | true => A | false => B)
 | true, _, k => k
 | false, h, _ => Bool.noConfusion h
theorem PickW.part0 {α : Type} {cell : α → List D} {w : Nat} (hw : ∀ a, (cell a).length = w) {l : List α} {i : Int} {j n : Nat} {ds : List D} {K : List D → Prop} (k : Nat) (hi : i = k) (h : k < l.length) (hj : j + n ≤ w) (hd : win (cell l[k]) j n = ds) (hk : K ds) : PickW (l.flatMap cell) ((0 + i.toNat) * w + j) n K := by
 rw [Nat.zero_add]
 exact PickW.part hw k hi h hj hd hk
theorem ent_copy (l : List Ent) (k : Nat) (h : k < l.length) : (if 0 + 0 = 0 ∧ k - 0 = l.length then l.flatMap Ent.cells else win (l.flatMap Ent.cells) ((0 + 0) * 15) ((k - 0) * 15)) = (l.take k).flatMap Ent.cells ∧ (if 0 + (k + 1) = 0 ∧ l.length - (k + 1) = l.length then l.flatMap Ent.cells else win (l.flatMap Ent.cells) ((0 + (k + 1)) * 15) ((l.length - (k + 1)) * 15)) = (l.drop (k + 1)).flatMap Ent.cells := by
 constructor
 ·rw [if_neg (by omega)]
  unfold win
  rw [show (0 + 0) * 15 = 0 from rfl, List.drop_zero, Nat.sub_zero, win_take15 l k (by omega)]
 ·rw [if_neg (by omega)]
  unfold win
  rw [show (0 + (k + 1)) * 15 = (k + 1) * 15 by omega, flatR_drop Ent.cells 15 Ent.cells_length, List.take_of_length_le (by rw [flatR_length Ent.cells 15 Ent.cells_length, List.length_drop]; omega)]
theorem ent_made (l : List Ent) (k : Nat) (h : k < l.length) {X Y : List D} (hX : X = (l.take k).flatMap Ent.cells) (hY : Y = (l.drop (k + 1)).flatMap Ent.cells) : patch (patch (List.replicate ((l.length : Int) - 1).toNat [D.str [], D.str [], D.str [], D.str [], D.str [], D.str [], D.int IntKind.i64 0, D.int IntKind.i64 0, D.int IntKind.i64 0, D.int IntKind.i64 0, D.int IntKind.i64 0, D.int IntKind.i64 0, D.int IntKind.i64 0, D.bool false, D.int IntKind.i64 0]).flatten (0 * 15) (List.take (min (k - 0) ((l.length : Int) - 1).toNat * 15) X)) ((0 + k) * 15) (List.take (min (l.length - (k + 1)) (l.length - 1 - k) * 15) Y) = (l.eraseIdx k).flatMap Ent.cells := by
 have hn : ((l.length : Int) - 1).toNat = l.length - 1 := by omega
 have hXl : X.length = k * 15 := by rw [hX, flatR_length Ent.cells 15 Ent.cells_length, List.length_take]; omega
 have hYl : Y.length = (l.length - (k + 1)) * 15 := by rw [hY, flatR_length Ent.cells 15 Ent.cells_length, List.length_drop]
 rw [hn, List.take_of_length_le (by rw [hXl]; omega), List.take_of_length_le (by rw [hYl]; omega)]
 generalize hZ : (List.replicate (l.length - 1) [D.str [], D.str [], D.str [], D.str [], D.str [], D.str [], D.int IntKind.i64 0, D.int IntKind.i64 0, D.int IntKind.i64 0, D.int IntKind.i64 0, D.int IntKind.i64 0, D.int IntKind.i64 0, D.int IntKind.i64 0, D.bool false, D.int IntKind.i64 0]).flatten = Z
 have hZl : Z.length = (l.length - 1) * 15 := by
  rw [← hZ, List.length_flatten, List.map_replicate, List.sum_replicate_nat]
  rfl
 unfold patch
 rw [show 0 * 15 = 0 from rfl, List.take_zero, List.nil_append, Nat.zero_add, Nat.zero_add, List.take_left' hXl, List.drop_eq_nil_of_le (by rw [List.length_append, List.length_drop, hXl, hYl, hZl]; omega), List.append_nil, hX, hY, List.eraseIdx_eq_take_drop_succ, List.flatMap_append]
theorem mI_hit {u t : Evl.Id} {l : List Evl.Id} (h : idB u t = true) : memI (u :: l) t = true := by
 unfold memI
 rw [h]
theorem mI_skip {u t : Evl.Id} {l : List Evl.Id} {b : Bool} (h : idB u t = false) (k : memI l t = b) : memI (u :: l) t = b := by
 unfold memI
 rw [h]
 exact k
theorem beq_ne {a b : Nat} (h : ¬ a = b) : Nat.beq a b = false := by
 cases hb : Nat.beq a b with
 | false => rfl
 | true => exact absurd (Nat.eq_of_beq_eq_true hb) h
theorem beq_en {a b : Nat} (h : ¬ a = b) : Nat.beq b a = false := beq_ne fun e => h e.symm
end Go.Proofs.YtlnlcdnpgjhaaacGreatDoor.Co
/-
 Entries: one line, by the program, in its caller's memory (form A).
-/
namespace Go.Proofs.YtlnlcdnpgjhaaacGreatDoor.Co
open Go Go.Evl
set_option maxRecDepth 100000
abbrev mA (a b : Mst) (l : List Ent) (x : Lnt) : Mem := [(⟨0, 2, 0⟩, .row true ty_message_Entry 15 0 []), (⟨0, 5, 0⟩, .row true ty_message_Entry 15 l.length (l.flatMap Ent.cells)), (⟨0, 9, 0⟩, .cells ty_message_Message (msV a)), (⟨0, 10, 0⟩, .cells ty_message_Message (msV b)), (⟨0, 12, 0⟩, .cells ty_message_Line (lnV x))]
abbrev nA (a b : Mst) (l : List Ent) (x : Lnt) : Mem := [(⟨0, 2, 0⟩, .row true ty_message_Entry 15 0 []), (⟨0, 5, 0⟩, .row true ty_message_Entry 15 l.length (l.flatMap Ent.cells)), (⟨0, 9, 0⟩, .cells ty_message_Message (msV a)), (⟨0, 10, 0⟩, .cells ty_message_Message (msV b)), (⟨0, 12, 0⟩, .cells ty_message_Line (lnV x)), (⟨1, 4, 0⟩, .cells ty_message_Line (lnV x)), (⟨1, 6, 0⟩, .row true ty_message_Entry 15 0 [])]
abbrev pA (a b : Mst) (l : List Ent) (x : Lnt) : Mem := [(⟨0, 2, 0⟩, .row true ty_message_Entry 15 0 []), (⟨0, 5, 0⟩, .row true ty_message_Entry 15 l.length (l.flatMap Ent.cells)), (⟨0, 9, 0⟩, .cells ty_message_Message (msV a)), (⟨0, 10, 0⟩, .cells ty_message_Message (msV b)), (⟨0, 12, 0⟩, .cells ty_message_Line (lnV x)), (⟨1, 4, 0⟩, .cells ty_message_Line (lnV x)), (⟨1, 6, 0⟩, .row true ty_message_Entry 15 0 []), (⟨2, 3, 0⟩, .cells ty_string [S x.rq.nm])]
section
variable {E : Oracle} (g : Good E)
include g
set_option maxHeartbeats 8000000 in
theorem in_findA (a b : Mst) (l : List Ent) (x : Lnt) (hl : l.length ≤ 64) {K : V → Mem → Prop} (hK : K (I (plcI x.rq.nm l)) (pA a b l x)) : In E 2 n_message_find [.ref ⟨0, 5, 0⟩ 0 l.length l.length, S x.rq.nm] (nA a b l x) K := by
 refine In.enter (f := n_message_find) g.lim rfl rfl ?_
 repeat' ((conv => whnf); first
 | refine Yz ?_
  | (refine In.enter (f := n_slices_IndexFunc_Lmessage_Entry_message_Entry) g.lim rfl rfl ?_))
 refine LoopW.to (LoopW.upP g (fun k => [(0, .ref ⟨0, 5, 0⟩ 0 l.length l.length), (1, .fn n_message_find_1 [] [.ptr ⟨2, 3, 0⟩ 0 0]), (7, I l.length), (8, I k)]) (fun _ => pA a b l x) (fun k => ∀ (j : Nat) (hj : j < l.length), j < k → ¬ l[j].rq.nm = x.rq.nm) l.length (fun k hk hp ih => ?_) 0 (Nat.zero_le _) (fun j _ h => absurd h (Nat.not_lt_zero _))) rfl rfl
 by_cases hlt : k < l.length
 ·by_cases he : l[k].rq.nm = x.rq.nm
  ·have e : plcI x.rq.nm l = k := by unfold plcI; rw [plc_at hlt hp he]
   rw [e] at hK
   repeat' ((conv => whnf); first
   | refine Yz ?_
    | (refine PickW.rec0 Ent.cells_length k rfl hlt ?_)
    | (refine In.enter (f := n_message_find_1) g.lim rfl rfl ?_)
    | (refine Cmp.tt he ?_)
    | (exact hK))
  ·have ih := ih hlt fun j hj hjk => by
    by_cases e : j = k
    ·subst e; exact he
    ·exact hp j hj (by omega)
   repeat' ((conv => whnf); first
   | refine Yz ?_
    | (refine PickW.rec0 Ent.cells_length k rfl hlt ?_)
    | (refine In.enter (f := n_message_find_1) g.lim rfl rfl ?_)
    | (refine Cmp.ff he ?_)
    | (refine LoopW.to ih rfl rfl))
 ·have e : plcI x.rq.nm l = -1 := by unfold plcI; rw [plc_non fun j hj => hp j hj (by omega)]
  rw [e] at hK
  repeat' ((conv => whnf); first
  | refine Yz ?_
   | (exact hK))
set_option maxHeartbeats 16000000 in
theorem in_stepA (a b : Mst) (l : List Ent) (x : Lnt) (da : Int) (hl : l.length ≤ 64) (hr : x.ac = [82] → (plc x.rq.nm l).isSome) {K : V → Mem → Prop}
  (hE : ∀ e : Int, stpE l x = e → e ≠ 0 → K (.tup [.ref ⟨1, 6, 1⟩ 0 0 0, I e]) (nA a b l x ++ [(⟨1, 6, 1⟩, .row true ty_message_Entry 15 0 [])]))
  (hS : stpE l x = 0 → x.ac ≠ [68] → K (.tup [.ref ⟨0, 5, 0⟩ 0 (stpL l x da).length (stpL l x da).length, I 0]) (nA a b (stpL l x da) x))
  (hD : stpE l x = 0 → x.ac = [68] → K (.tup [.ref ⟨1, 74, 0⟩ 0 (stpL l x da).length (stpL l x da).length, I 0]) (nA a b l x ++ [(⟨1, 74, 0⟩, .row true ty_message_Entry 15 (stpL l x da).length ((stpL l x da).flatMap Ent.cells))])) :
  In E 1 n_message_step [.ref ⟨0, 5, 0⟩ 0 l.length l.length, Lnv x, I da] (mA a b l x) K := by
 have hF := fun {K} => in_findA g a b l x hl (K := K)
 have hfl := fun (_ : Unit) => flatR_length Ent.cells 15 Ent.cells_length l
 obtain ⟨s, q⟩ := x
 dsimp only at hr hF hS hD
 refine In.enter (f := n_message_step) g.lim rfl rfl ?_
 cases hp : plc q.nm l with
 | none =>
  have e : plcI q.nm l = -1 := by unfold plcI; rw [hp]
  rw [e] at hF
  by_cases h1 : s = [78] ∨ s = [72]
  ·obtain ⟨eE, eL⟩ := stp_new (da := da) hp h1
   by_cases h64 : 64 ≤ l.length
   ·have hE := hE 5 (by rw [eE, if_pos h64]) (by decide)
    rcases h1 with rfl | rfl
    all_goals
     repeat' ((conv => whnf); first
     | refine Yz ?_
      | (refine hF ?_)
      | (refine Cmp.tt rfl ?_)
      | (refine Cmp.ff (by intro h; cases h) ?_)
      | (refine CallI.of (s_mwhen g _ _) ?_)
      | (refine CallI.of (s_mfirst2 g _ _) ?_)
      | (exact hE))
   ·rw [if_neg h64] at eE
    rcases h1 with rfl | rfl
    all_goals
     have hS := hS eE (by decide)
     rw [eL] at hS
     dsimp only [nA] at hS
     rw [List.length_append, List.flatMap_append] at hS
     repeat' ((conv => whnf); first
     | refine Yz ?_
      | (refine hF ?_)
      | (refine Cmp.tt rfl ?_)
      | (refine Cmp.ff (by intro h; cases h) ?_)
      | (refine CallI.of (s_mwhen g _ _) ?_)
      | (refine CallI.of (s_mfirst2 g _ _) ?_)
      | (refine Need.mk ⟨rfl, rfl, rfl, rfl, rfl, rfl, by show (l.length + 1) * 168 ≤ _; omega, by omega⟩ ?_)
      | (exact hS))
  ·have h2 : ¬ s = [78] := fun h => h1 (.inl h)
   have h3 : ¬ s = [72] := fun h => h1 (.inr h)
   have h4 : ¬ s = [82] := fun h => by have := hr h; rw [hp] at this; cases this
   have hE := hE 10 (stp_none hp h2 h3 h4) (by decide)
   repeat' ((conv => whnf); first
   | refine Yz ?_
    | (refine hF ?_)
    | (refine Cmp.ff h2 ?_)
    | (refine Cmp.ff h3 ?_)
    | (refine Cmp.ff h4 ?_)
    | (exact hE))
 | some k =>
  have e : plcI q.nm l = k := by unfold plcI; rw [hp]
  rw [e] at hF
  obtain ⟨hk, hnm, _⟩ := plc_some hp
  by_cases h1 : s = [78] ∨ s = [72]
  ·have hE := hE 9 (stp_twice hp h1) (by decide)
   rcases h1 with rfl | rfl
   all_goals
    repeat' ((conv => whnf); first
    | refine Yz ?_
     | (refine hF ?_)
     | (refine Cmp.tt rfl ?_)
     | (refine Cmp.ff (by intro h; cases h) ?_)
     | (refine CallI.of (s_mwhen g _ _) ?_)
     | (refine CallI.of (s_mfirst2 g _ _) ?_)
     | (exact hE)
     | (refine Cmp.mk (fun h => ?_) (fun h => ?_)) | (refine Rem.any (by omega) (fun r hr he => ?_)) | (refine Br.mk (fun h => ?_) (fun h => ?_))
     | (exfalso; omega))
  ·have h2 : ¬ s = [78] := fun h => h1 (.inl h)
   have h3 : ¬ s = [72] := fun h => h1 (.inr h)
   by_cases h4 : s = [82]
   ·subst h4
    obtain ⟨eE, eL⟩ := stp_repl (da := da) hp hk
    have hS := hS eE (by decide)
    have ep : patch (l.flatMap Ent.cells) ((0 + ((k : Nat) : Int).toNat) * 15) (Ent.cells ⟨q, l[k].hi, da⟩) = (l.set k ⟨q, l[k].hi, da⟩).flatMap Ent.cells := by
     rw [show (0 + ((k : Nat) : Int).toNat) * 15 = k * 15 by omega]
     exact ent_patch l k ⟨q, l[k].hi, da⟩ hk
    rw [eL] at hS
    dsimp only [nA] at hS
    rw [List.length_set, ← ep] at hS
    repeat' ((conv => whnf); first
    | refine Yz ?_
     | (refine hF ?_)
     | (refine Cmp.tt rfl ?_)
     | (refine Cmp.ff (by intro h; cases h) ?_)
     | (refine Pick.rec0 (d := .bool l[k].hi) Ent.cells_length k rfl hk rfl ?_)
     | (refine Need.mk ⟨by omega, by omega, rfl, by omega, rfl⟩ ?_)
     | (refine Need.mk ⟨rfl, by simp only [hfl ()]; omega, rfl⟩ ?_)
     | (exact hS))
   ·obtain ⟨eE, eL⟩ := stp_some (da := da) hp hk h2 h3 h4
    by_cases hq : l[k].rq = q
    ·rw [if_pos hq] at eE
     have hpp : l[k].rq.nm = q.nm ∧ l[k].rq.ca = q.ca ∧ l[k].rq.ki = q.ki ∧ l[k].rq.te = q.te ∧ l[k].rq.pa = q.pa ∧ l[k].rq.li = q.li ∧ l[k].rq.fr = q.fr ∧ l[k].rq.to = q.to ∧ l[k].rq.da = q.da ∧ l[k].rq.mi = q.mi ∧ l[k].rq.se = q.se ∧ l[k].rq.si = q.si ∧ l[k].rq.no = q.no := by
      rw [hq]
      exact ⟨rfl, rfl, rfl, rfl, rfl, rfl, rfl, rfl, rfl, rfl, rfl, rfl, rfl⟩
     by_cases h5 : s = [68]
     ·subst h5
      have hD := hD eE rfl
      rw [eL, if_pos rfl] at hD
      dsimp only [nA] at hD
      obtain ⟨eA, eB⟩ := ent_copy l k hk
      have eAn := (congrArg List.length eA).trans (show _ = (k - 0) * 15 by rw [flatR_length Ent.cells 15 Ent.cells_length, List.length_take]; omega)
      have eBn := (congrArg List.length eB).trans (show _ = (l.length - (k + 1)) * 15 by rw [flatR_length Ent.cells 15 Ent.cells_length, List.length_drop])
      have hlen : (l.eraseIdx k).length = ((l.length : Int) - 1).toNat := by rw [List.length_eraseIdx_of_lt hk]; omega
      rw [hlen] at hD
      repeat' ((conv => whnf); first
      | refine Yz ?_
       | (refine hF ?_)
       | (refine Cmp.tt rfl ?_)
       | (refine Cmp.ff (by intro h; cases h) ?_)
       | (refine Cmp.tt hpp ?_)
       | (refine PickW.part0 Ent.cells_length (j := 0) k rfl hk (by omega) rfl ?_)
       | (refine Bounds.at 0 k (by omega) (by omega) (by omega) ?_)
       | (refine Bounds.at k (l.length - 1) (by omega) (by omega) (by omega) ?_)
       | (refine Bounds.at (k + 1) l.length (by omega) (by omega) (by omega) ?_)
       | (refine Need.mk ⟨rfl, by omega, rfl, eAn⟩ ?_)
       | (refine Need.mk ⟨rfl, by omega, rfl, eBn⟩ ?_))
      rw [← ent_made l k hk eA eB] at hD
      exact hD
     ·have hS := hS eE h5
      rw [eL, if_neg h5] at hS
      repeat' ((conv => whnf); first
      | refine Yz ?_
       | (refine hF ?_)
       | (refine Cmp.ff h2 ?_)
       | (refine Cmp.ff h3 ?_)
       | (refine Cmp.ff h4 ?_)
       | (refine Cmp.ff h5 ?_)
       | (refine Cmp.tt hpp ?_)
       | (refine PickW.part0 Ent.cells_length (j := 0) k rfl hk (by omega) rfl ?_)
       | (exact hS))
    ·rw [if_neg hq] at eE
     have hE := hE 29 eE (by decide)
     have hpp : ¬ (l[k].rq.nm = q.nm ∧ l[k].rq.ca = q.ca ∧ l[k].rq.ki = q.ki ∧ l[k].rq.te = q.te ∧ l[k].rq.pa = q.pa ∧ l[k].rq.li = q.li ∧ l[k].rq.fr = q.fr ∧ l[k].rq.to = q.to ∧ l[k].rq.da = q.da ∧ l[k].rq.mi = q.mi ∧ l[k].rq.se = q.se ∧ l[k].rq.si = q.si ∧ l[k].rq.no = q.no) := fun h => hq (rq_ext h)
     repeat' ((conv => whnf); first
     | refine Yz ?_
      | (refine hF ?_)
      | (refine Cmp.ff h2 ?_)
      | (refine Cmp.ff h3 ?_)
      | (refine Cmp.ff h4 ?_)
      | (refine Cmp.ff hpp ?_)
      | (refine PickW.part0 Ent.cells_length (j := 0) k rfl hk (by omega) rfl ?_)
      | (exact hE))
end
end Go.Proofs.YtlnlcdnpgjhaaacGreatDoor.Co
/-
 Entries: one line, by the program, in its caller's memory (form B).
-/
namespace Go.Proofs.YtlnlcdnpgjhaaacGreatDoor.Co
open Go Go.Evl
set_option maxRecDepth 100000
abbrev mB (a b : Mst) (l1 : List Ent) (c : Nat) (l : List Ent) (x : Lnt) : Mem := [(⟨0, 2, 0⟩, .row true ty_message_Entry 15 0 []), (⟨0, 5, 0⟩, .row true ty_message_Entry 15 l1.length (l1.flatMap Ent.cells)), (⟨0, 9, 0⟩, .cells ty_message_Message (msV a)), (⟨0, 10, 0⟩, .cells ty_message_Message (msV b)), (⟨0, 75, c⟩, .row true ty_message_Entry 15 l.length (l.flatMap Ent.cells)), (⟨0, 12, 0⟩, .cells ty_message_Line (lnV x))]
abbrev nB (a b : Mst) (l1 : List Ent) (c : Nat) (l : List Ent) (x : Lnt) : Mem := [(⟨0, 2, 0⟩, .row true ty_message_Entry 15 0 []), (⟨0, 5, 0⟩, .row true ty_message_Entry 15 l1.length (l1.flatMap Ent.cells)), (⟨0, 9, 0⟩, .cells ty_message_Message (msV a)), (⟨0, 10, 0⟩, .cells ty_message_Message (msV b)), (⟨0, 75, c⟩, .row true ty_message_Entry 15 l.length (l.flatMap Ent.cells)), (⟨0, 12, 0⟩, .cells ty_message_Line (lnV x)), (⟨1, 4, 0⟩, .cells ty_message_Line (lnV x)), (⟨1, 6, 0⟩, .row true ty_message_Entry 15 0 [])]
abbrev pB (a b : Mst) (l1 : List Ent) (c : Nat) (l : List Ent) (x : Lnt) : Mem := [(⟨0, 2, 0⟩, .row true ty_message_Entry 15 0 []), (⟨0, 5, 0⟩, .row true ty_message_Entry 15 l1.length (l1.flatMap Ent.cells)), (⟨0, 9, 0⟩, .cells ty_message_Message (msV a)), (⟨0, 10, 0⟩, .cells ty_message_Message (msV b)), (⟨0, 75, c⟩, .row true ty_message_Entry 15 l.length (l.flatMap Ent.cells)), (⟨0, 12, 0⟩, .cells ty_message_Line (lnV x)), (⟨1, 4, 0⟩, .cells ty_message_Line (lnV x)), (⟨1, 6, 0⟩, .row true ty_message_Entry 15 0 []), (⟨2, 3, 0⟩, .cells ty_string [S x.rq.nm])]
section
variable {E : Oracle} (g : Good E)
include g
set_option maxHeartbeats 8000000 in
theorem in_findB (a b : Mst) (l1 : List Ent) (c : Nat) (l : List Ent) (x : Lnt) (hl : l.length ≤ 64) {K : V → Mem → Prop} (hK : K (I (plcI x.rq.nm l)) (pB a b l1 c l x)) : In E 2 n_message_find [.ref ⟨0, 75, c⟩ 0 l.length l.length, S x.rq.nm] (nB a b l1 c l x) K := by
 refine In.enter (f := n_message_find) g.lim rfl rfl ?_
 repeat' ((conv => whnf); first
 | refine Yz ?_
  | (refine Mt _ (Nat.beq_refl _) ?_)
  | ((refine Mt _ ?_ ?_); focus ((repeat' (first | exact mI_hit rfl | exact mI_hit (Nat.beq_refl _) | ((refine mI_skip ?h ?_); (case h => first | rfl | assumption)))); done))
  | (refine In.enter (f := n_slices_IndexFunc_Lmessage_Entry_message_Entry) g.lim rfl rfl ?_))
 refine LoopW.to (LoopW.upP g (fun k => [(0, .ref ⟨0, 75, c⟩ 0 l.length l.length), (1, .fn n_message_find_1 [] [.ptr ⟨2, 3, 0⟩ 0 0]), (7, I l.length), (8, I k)]) (fun _ => pB a b l1 c l x) (fun k => ∀ (j : Nat) (hj : j < l.length), j < k → ¬ l[j].rq.nm = x.rq.nm) l.length (fun k hk hp ih => ?_) 0 (Nat.zero_le _) (fun j _ h => absurd h (Nat.not_lt_zero _))) rfl rfl
 by_cases hlt : k < l.length
 ·by_cases he : l[k].rq.nm = x.rq.nm
  ·have e : plcI x.rq.nm l = k := by unfold plcI; rw [plc_at hlt hp he]
   rw [e] at hK
   repeat' ((conv => whnf); first
   | refine Yz ?_
    | (refine PickW.rec0 Ent.cells_length k rfl hlt ?_)
    | (refine In.enter (f := n_message_find_1) g.lim rfl rfl ?_)
    | (refine Cmp.tt he ?_)
     | (refine Mt _ (Nat.beq_refl _) ?_)
     | ((refine Mt _ ?_ ?_); focus ((repeat' (first | exact mI_hit rfl | exact mI_hit (Nat.beq_refl _) | ((refine mI_skip ?h ?_); (case h => first | rfl | assumption)))); done))
    | (exact hK))
  ·have ih := ih hlt fun j hj hjk => by
    by_cases e : j = k
    ·subst e; exact he
    ·exact hp j hj (by omega)
   repeat' ((conv => whnf); first
   | refine Yz ?_
    | (refine PickW.rec0 Ent.cells_length k rfl hlt ?_)
    | (refine In.enter (f := n_message_find_1) g.lim rfl rfl ?_)
    | (refine Cmp.ff he ?_)
     | (refine Mt _ (Nat.beq_refl _) ?_)
     | ((refine Mt _ ?_ ?_); focus ((repeat' (first | exact mI_hit rfl | exact mI_hit (Nat.beq_refl _) | ((refine mI_skip ?h ?_); (case h => first | rfl | assumption)))); done))
    | (refine LoopW.to ih rfl rfl))
 ·have e : plcI x.rq.nm l = -1 := by unfold plcI; rw [plc_non fun j hj => hp j hj (by omega)]
  rw [e] at hK
  repeat' ((conv => whnf); first
  | refine Yz ?_
     | (refine Mt _ (Nat.beq_refl _) ?_)
     | ((refine Mt _ ?_ ?_); focus ((repeat' (first | exact mI_hit rfl | exact mI_hit (Nat.beq_refl _) | ((refine mI_skip ?h ?_); (case h => first | rfl | assumption)))); done))
   | (exact hK))
set_option maxHeartbeats 16000000 in
theorem in_stepB (a b : Mst) (l1 : List Ent) (c : Nat) (l : List Ent) (x : Lnt) (da : Int) (hl : l.length ≤ 64) (hr : x.ac = [82] → (plc x.rq.nm l).isSome) {K : V → Mem → Prop}
  (hE : ∀ e : Int, stpE l x = e → e ≠ 0 → K (.tup [.ref ⟨1, 6, 1⟩ 0 0 0, I e]) (nB a b l1 c l x ++ [(⟨1, 6, 1⟩, .row true ty_message_Entry 15 0 [])]))
  (hS : stpE l x = 0 → x.ac ≠ [68] → K (.tup [.ref ⟨0, 75, c⟩ 0 (stpL l x da).length (stpL l x da).length, I 0]) (nB a b l1 c (stpL l x da) x))
  (hD : stpE l x = 0 → x.ac = [68] → K (.tup [.ref ⟨1, 74, 0⟩ 0 (stpL l x da).length (stpL l x da).length, I 0]) (nB a b l1 c l x ++ [(⟨1, 74, 0⟩, .row true ty_message_Entry 15 (stpL l x da).length ((stpL l x da).flatMap Ent.cells))])) :
  In E 1 n_message_step [.ref ⟨0, 75, c⟩ 0 l.length l.length, Lnv x, I da] (mB a b l1 c l x) K := by
 have hF := fun {K} => in_findB g a b l1 c l x hl (K := K)
 have hfl := fun (_ : Unit) => flatR_length Ent.cells 15 Ent.cells_length l
 obtain ⟨s, q⟩ := x
 dsimp only at hr hF hS hD
 refine In.enter (f := n_message_step) g.lim rfl rfl ?_
 cases hp : plc q.nm l with
 | none =>
  have e : plcI q.nm l = -1 := by unfold plcI; rw [hp]
  rw [e] at hF
  by_cases h1 : s = [78] ∨ s = [72]
  ·obtain ⟨eE, eL⟩ := stp_new (da := da) hp h1
   by_cases h64 : 64 ≤ l.length
   ·have hE := hE 5 (by rw [eE, if_pos h64]) (by decide)
    rcases h1 with rfl | rfl
    all_goals
     repeat' ((conv => whnf); first
     | refine Yz ?_
       | (refine Mt _ (Nat.beq_refl _) ?_)
       | ((refine Mt _ ?_ ?_); focus ((repeat' (first | exact mI_hit rfl | exact mI_hit (Nat.beq_refl _) | ((refine mI_skip ?h ?_); (case h => first | rfl | assumption)))); done))
      | (refine hF ?_)
      | (refine Cmp.tt rfl ?_)
      | (refine Cmp.ff (by intro h; cases h) ?_)
      | (refine CallI.of (s_mwhen g _ _) ?_)
      | (refine CallI.of (s_mfirst2 g _ _) ?_)
      | (exact hE))
   ·rw [if_neg h64] at eE
    rcases h1 with rfl | rfl
    all_goals
     have hS := hS eE (by decide)
     rw [eL] at hS
     dsimp only [nB] at hS
     rw [List.length_append, List.flatMap_append] at hS
     repeat' ((conv => whnf); first
     | refine Yz ?_
       | (refine Mt _ (Nat.beq_refl _) ?_)
       | ((refine Mt _ ?_ ?_); focus ((repeat' (first | exact mI_hit rfl | exact mI_hit (Nat.beq_refl _) | ((refine mI_skip ?h ?_); (case h => first | rfl | assumption)))); done))
      | (refine hF ?_)
      | (refine Cmp.tt rfl ?_)
      | (refine Cmp.ff (by intro h; cases h) ?_)
      | (refine CallI.of (s_mwhen g _ _) ?_)
      | (refine CallI.of (s_mfirst2 g _ _) ?_)
      | (refine Need.mk ⟨rfl, rfl, rfl, rfl, rfl, rfl, by show (l.length + 1) * 168 ≤ _; omega, by omega⟩ ?_)
      | (exact hS))
  ·have h2 : ¬ s = [78] := fun h => h1 (.inl h)
   have h3 : ¬ s = [72] := fun h => h1 (.inr h)
   have h4 : ¬ s = [82] := fun h => by have := hr h; rw [hp] at this; cases this
   have hE := hE 10 (stp_none hp h2 h3 h4) (by decide)
   repeat' ((conv => whnf); first
   | refine Yz ?_
     | (refine Mt _ (Nat.beq_refl _) ?_)
     | ((refine Mt _ ?_ ?_); focus ((repeat' (first | exact mI_hit rfl | exact mI_hit (Nat.beq_refl _) | ((refine mI_skip ?h ?_); (case h => first | rfl | assumption)))); done))
    | (refine hF ?_)
    | (refine Cmp.ff h2 ?_)
    | (refine Cmp.ff h3 ?_)
    | (refine Cmp.ff h4 ?_)
    | (exact hE))
 | some k =>
  have e : plcI q.nm l = k := by unfold plcI; rw [hp]
  rw [e] at hF
  obtain ⟨hk, hnm, _⟩ := plc_some hp
  by_cases h1 : s = [78] ∨ s = [72]
  ·have hE := hE 9 (stp_twice hp h1) (by decide)
   rcases h1 with rfl | rfl
   all_goals
    repeat' ((conv => whnf); first
    | refine Yz ?_
     | (refine Mt _ (Nat.beq_refl _) ?_)
     | ((refine Mt _ ?_ ?_); focus ((repeat' (first | exact mI_hit rfl | exact mI_hit (Nat.beq_refl _) | ((refine mI_skip ?h ?_); (case h => first | rfl | assumption)))); done))
     | (refine hF ?_)
     | (refine Cmp.tt rfl ?_)
     | (refine Cmp.ff (by intro h; cases h) ?_)
     | (refine CallI.of (s_mwhen g _ _) ?_)
     | (refine CallI.of (s_mfirst2 g _ _) ?_)
     | (exact hE)
     | (refine Cmp.mk (fun h => ?_) (fun h => ?_)) | (refine Rem.any (by omega) (fun r hr he => ?_)) | (refine Br.mk (fun h => ?_) (fun h => ?_))
     | (exfalso; omega))
  ·have h2 : ¬ s = [78] := fun h => h1 (.inl h)
   have h3 : ¬ s = [72] := fun h => h1 (.inr h)
   by_cases h4 : s = [82]
   ·subst h4
    obtain ⟨eE, eL⟩ := stp_repl (da := da) hp hk
    have hS := hS eE (by decide)
    have ep : patch (l.flatMap Ent.cells) ((0 + ((k : Nat) : Int).toNat) * 15) (Ent.cells ⟨q, l[k].hi, da⟩) = (l.set k ⟨q, l[k].hi, da⟩).flatMap Ent.cells := by
     rw [show (0 + ((k : Nat) : Int).toNat) * 15 = k * 15 by omega]
     exact ent_patch l k ⟨q, l[k].hi, da⟩ hk
    rw [eL] at hS
    dsimp only [nB] at hS
    rw [List.length_set, ← ep] at hS
    repeat' ((conv => whnf); first
    | refine Yz ?_
       | (refine Mt _ (Nat.beq_refl _) ?_)
       | ((refine Mt _ ?_ ?_); focus ((repeat' (first | exact mI_hit rfl | exact mI_hit (Nat.beq_refl _) | ((refine mI_skip ?h ?_); (case h => first | rfl | assumption)))); done))
     | (refine hF ?_)
     | (refine Cmp.tt rfl ?_)
     | (refine Cmp.ff (by intro h; cases h) ?_)
     | (refine Pick.rec0 (d := .bool l[k].hi) Ent.cells_length k rfl hk rfl ?_)
     | (refine Need.mk ⟨by omega, by omega, rfl, by omega, rfl⟩ ?_)
     | (refine Need.mk ⟨rfl, by simp only [hfl ()]; omega, rfl⟩ ?_)
     | (exact hS))
   ·obtain ⟨eE, eL⟩ := stp_some (da := da) hp hk h2 h3 h4
    by_cases hq : l[k].rq = q
    ·rw [if_pos hq] at eE
     have hpp : l[k].rq.nm = q.nm ∧ l[k].rq.ca = q.ca ∧ l[k].rq.ki = q.ki ∧ l[k].rq.te = q.te ∧ l[k].rq.pa = q.pa ∧ l[k].rq.li = q.li ∧ l[k].rq.fr = q.fr ∧ l[k].rq.to = q.to ∧ l[k].rq.da = q.da ∧ l[k].rq.mi = q.mi ∧ l[k].rq.se = q.se ∧ l[k].rq.si = q.si ∧ l[k].rq.no = q.no := by
      rw [hq]
      exact ⟨rfl, rfl, rfl, rfl, rfl, rfl, rfl, rfl, rfl, rfl, rfl, rfl, rfl⟩
     by_cases h5 : s = [68]
     ·subst h5
      have hD := hD eE rfl
      rw [eL, if_pos rfl] at hD
      dsimp only [nB] at hD
      obtain ⟨eA, eB⟩ := ent_copy l k hk
      have eAn := (congrArg List.length eA).trans (show _ = (k - 0) * 15 by rw [flatR_length Ent.cells 15 Ent.cells_length, List.length_take]; omega)
      have eBn := (congrArg List.length eB).trans (show _ = (l.length - (k + 1)) * 15 by rw [flatR_length Ent.cells 15 Ent.cells_length, List.length_drop])
      have hlen : (l.eraseIdx k).length = ((l.length : Int) - 1).toNat := by rw [List.length_eraseIdx_of_lt hk]; omega
      rw [hlen] at hD
      repeat' ((conv => whnf); first
      | refine Yz ?_
       | (refine Mt _ (Nat.beq_refl _) ?_)
       | ((refine Mt _ ?_ ?_); focus ((repeat' (first | exact mI_hit rfl | exact mI_hit (Nat.beq_refl _) | ((refine mI_skip ?h ?_); (case h => first | rfl | assumption)))); done))
       | (refine hF ?_)
       | (refine Cmp.tt rfl ?_)
       | (refine Cmp.ff (by intro h; cases h) ?_)
       | (refine Cmp.tt hpp ?_)
       | (refine PickW.part0 Ent.cells_length (j := 0) k rfl hk (by omega) rfl ?_)
       | (refine Bounds.at 0 k (by omega) (by omega) (by omega) ?_)
       | (refine Bounds.at k (l.length - 1) (by omega) (by omega) (by omega) ?_)
       | (refine Bounds.at (k + 1) l.length (by omega) (by omega) (by omega) ?_)
       | (refine Need.mk ⟨rfl, by omega, rfl, eAn⟩ ?_)
       | (refine Need.mk ⟨rfl, by omega, rfl, eBn⟩ ?_))
      rw [← ent_made l k hk eA eB] at hD
      exact hD
     ·have hS := hS eE h5
      rw [eL, if_neg h5] at hS
      repeat' ((conv => whnf); first
      | refine Yz ?_
       | (refine Mt _ (Nat.beq_refl _) ?_)
       | ((refine Mt _ ?_ ?_); focus ((repeat' (first | exact mI_hit rfl | exact mI_hit (Nat.beq_refl _) | ((refine mI_skip ?h ?_); (case h => first | rfl | assumption)))); done))
       | (refine hF ?_)
       | (refine Cmp.ff h2 ?_)
       | (refine Cmp.ff h3 ?_)
       | (refine Cmp.ff h4 ?_)
       | (refine Cmp.ff h5 ?_)
       | (refine Cmp.tt hpp ?_)
       | (refine PickW.part0 Ent.cells_length (j := 0) k rfl hk (by omega) rfl ?_)
       | (exact hS))
    ·rw [if_neg hq] at eE
     have hE := hE 29 eE (by decide)
     have hpp : ¬ (l[k].rq.nm = q.nm ∧ l[k].rq.ca = q.ca ∧ l[k].rq.ki = q.ki ∧ l[k].rq.te = q.te ∧ l[k].rq.pa = q.pa ∧ l[k].rq.li = q.li ∧ l[k].rq.fr = q.fr ∧ l[k].rq.to = q.to ∧ l[k].rq.da = q.da ∧ l[k].rq.mi = q.mi ∧ l[k].rq.se = q.se ∧ l[k].rq.si = q.si ∧ l[k].rq.no = q.no) := fun h => hq (rq_ext h)
     repeat' ((conv => whnf); first
     | refine Yz ?_
       | (refine Mt _ (Nat.beq_refl _) ?_)
       | ((refine Mt _ ?_ ?_); focus ((repeat' (first | exact mI_hit rfl | exact mI_hit (Nat.beq_refl _) | ((refine mI_skip ?h ?_); (case h => first | rfl | assumption)))); done))
      | (refine hF ?_)
      | (refine Cmp.ff h2 ?_)
      | (refine Cmp.ff h3 ?_)
      | (refine Cmp.ff h4 ?_)
      | (refine Cmp.ff hpp ?_)
      | (refine PickW.part0 Ent.cells_length (j := 0) k rfl hk (by omega) rfl ?_)
      | (exact hE))
end
end Go.Proofs.YtlnlcdnpgjhaaacGreatDoor.Co
/-
 Entries: one line, by the program, in its caller's memory (form C).
-/
namespace Go.Proofs.YtlnlcdnpgjhaaacGreatDoor.Co
open Go Go.Evl
set_option maxRecDepth 100000
abbrev mC (a b : Mst) (l1 : List Ent) (c : Nat) (l : List Ent) (x : Lnt) : Mem := [(⟨0, 2, 0⟩, .row true ty_message_Entry 15 0 []), (⟨0, 5, 0⟩, .row true ty_message_Entry 15 l1.length (l1.flatMap Ent.cells)), (⟨0, 75, c⟩, .row true ty_message_Entry 15 l.length (l.flatMap Ent.cells)), (⟨0, 9, 0⟩, .cells ty_message_Message (msV a)), (⟨0, 10, 0⟩, .cells ty_message_Message (msV b)), (⟨0, 12, 0⟩, .cells ty_message_Line (lnV x))]
abbrev nC (a b : Mst) (l1 : List Ent) (c : Nat) (l : List Ent) (x : Lnt) : Mem := [(⟨0, 2, 0⟩, .row true ty_message_Entry 15 0 []), (⟨0, 5, 0⟩, .row true ty_message_Entry 15 l1.length (l1.flatMap Ent.cells)), (⟨0, 75, c⟩, .row true ty_message_Entry 15 l.length (l.flatMap Ent.cells)), (⟨0, 9, 0⟩, .cells ty_message_Message (msV a)), (⟨0, 10, 0⟩, .cells ty_message_Message (msV b)), (⟨0, 12, 0⟩, .cells ty_message_Line (lnV x)), (⟨1, 4, 0⟩, .cells ty_message_Line (lnV x)), (⟨1, 6, 0⟩, .row true ty_message_Entry 15 0 [])]
abbrev pC (a b : Mst) (l1 : List Ent) (c : Nat) (l : List Ent) (x : Lnt) : Mem := [(⟨0, 2, 0⟩, .row true ty_message_Entry 15 0 []), (⟨0, 5, 0⟩, .row true ty_message_Entry 15 l1.length (l1.flatMap Ent.cells)), (⟨0, 75, c⟩, .row true ty_message_Entry 15 l.length (l.flatMap Ent.cells)), (⟨0, 9, 0⟩, .cells ty_message_Message (msV a)), (⟨0, 10, 0⟩, .cells ty_message_Message (msV b)), (⟨0, 12, 0⟩, .cells ty_message_Line (lnV x)), (⟨1, 4, 0⟩, .cells ty_message_Line (lnV x)), (⟨1, 6, 0⟩, .row true ty_message_Entry 15 0 []), (⟨2, 3, 0⟩, .cells ty_string [S x.rq.nm])]
section
variable {E : Oracle} (g : Good E)
include g
set_option maxHeartbeats 8000000 in
theorem in_findC (a b : Mst) (l1 : List Ent) (c : Nat) (l : List Ent) (x : Lnt) (hl : l.length ≤ 64) {K : V → Mem → Prop} (hK : K (I (plcI x.rq.nm l)) (pC a b l1 c l x)) : In E 2 n_message_find [.ref ⟨0, 75, c⟩ 0 l.length l.length, S x.rq.nm] (nC a b l1 c l x) K := by
 refine In.enter (f := n_message_find) g.lim rfl rfl ?_
 repeat' ((conv => whnf); first
 | refine Yz ?_
  | (refine Mt _ (Nat.beq_refl _) ?_)
  | ((refine Mt _ ?_ ?_); focus ((repeat' (first | exact mI_hit rfl | exact mI_hit (Nat.beq_refl _) | ((refine mI_skip ?h ?_); (case h => first | rfl | assumption)))); done))
  | (refine In.enter (f := n_slices_IndexFunc_Lmessage_Entry_message_Entry) g.lim rfl rfl ?_))
 refine LoopW.to (LoopW.upP g (fun k => [(0, .ref ⟨0, 75, c⟩ 0 l.length l.length), (1, .fn n_message_find_1 [] [.ptr ⟨2, 3, 0⟩ 0 0]), (7, I l.length), (8, I k)]) (fun _ => pC a b l1 c l x) (fun k => ∀ (j : Nat) (hj : j < l.length), j < k → ¬ l[j].rq.nm = x.rq.nm) l.length (fun k hk hp ih => ?_) 0 (Nat.zero_le _) (fun j _ h => absurd h (Nat.not_lt_zero _))) rfl rfl
 by_cases hlt : k < l.length
 ·by_cases he : l[k].rq.nm = x.rq.nm
  ·have e : plcI x.rq.nm l = k := by unfold plcI; rw [plc_at hlt hp he]
   rw [e] at hK
   repeat' ((conv => whnf); first
   | refine Yz ?_
    | (refine PickW.rec0 Ent.cells_length k rfl hlt ?_)
    | (refine In.enter (f := n_message_find_1) g.lim rfl rfl ?_)
    | (refine Cmp.tt he ?_)
     | (refine Mt _ (Nat.beq_refl _) ?_)
     | ((refine Mt _ ?_ ?_); focus ((repeat' (first | exact mI_hit rfl | exact mI_hit (Nat.beq_refl _) | ((refine mI_skip ?h ?_); (case h => first | rfl | assumption)))); done))
    | (exact hK))
  ·have ih := ih hlt fun j hj hjk => by
    by_cases e : j = k
    ·subst e; exact he
    ·exact hp j hj (by omega)
   repeat' ((conv => whnf); first
   | refine Yz ?_
    | (refine PickW.rec0 Ent.cells_length k rfl hlt ?_)
    | (refine In.enter (f := n_message_find_1) g.lim rfl rfl ?_)
    | (refine Cmp.ff he ?_)
     | (refine Mt _ (Nat.beq_refl _) ?_)
     | ((refine Mt _ ?_ ?_); focus ((repeat' (first | exact mI_hit rfl | exact mI_hit (Nat.beq_refl _) | ((refine mI_skip ?h ?_); (case h => first | rfl | assumption)))); done))
    | (refine LoopW.to ih rfl rfl))
 ·have e : plcI x.rq.nm l = -1 := by unfold plcI; rw [plc_non fun j hj => hp j hj (by omega)]
  rw [e] at hK
  repeat' ((conv => whnf); first
  | refine Yz ?_
     | (refine Mt _ (Nat.beq_refl _) ?_)
     | ((refine Mt _ ?_ ?_); focus ((repeat' (first | exact mI_hit rfl | exact mI_hit (Nat.beq_refl _) | ((refine mI_skip ?h ?_); (case h => first | rfl | assumption)))); done))
   | (exact hK))
set_option maxHeartbeats 16000000 in
theorem in_stepC (a b : Mst) (l1 : List Ent) (c : Nat) (l : List Ent) (x : Lnt) (da : Int) (hl : l.length ≤ 64) (hr : x.ac = [82] → (plc x.rq.nm l).isSome) {K : V → Mem → Prop}
  (hE : ∀ e : Int, stpE l x = e → e ≠ 0 → K (.tup [.ref ⟨1, 6, 1⟩ 0 0 0, I e]) (nC a b l1 c l x ++ [(⟨1, 6, 1⟩, .row true ty_message_Entry 15 0 [])]))
  (hS : stpE l x = 0 → x.ac ≠ [68] → K (.tup [.ref ⟨0, 75, c⟩ 0 (stpL l x da).length (stpL l x da).length, I 0]) (nC a b l1 c (stpL l x da) x))
  (hD : stpE l x = 0 → x.ac = [68] → K (.tup [.ref ⟨1, 74, 0⟩ 0 (stpL l x da).length (stpL l x da).length, I 0]) (nC a b l1 c l x ++ [(⟨1, 74, 0⟩, .row true ty_message_Entry 15 (stpL l x da).length ((stpL l x da).flatMap Ent.cells))])) :
  In E 1 n_message_step [.ref ⟨0, 75, c⟩ 0 l.length l.length, Lnv x, I da] (mC a b l1 c l x) K := by
 have hF := fun {K} => in_findC g a b l1 c l x hl (K := K)
 have hfl := fun (_ : Unit) => flatR_length Ent.cells 15 Ent.cells_length l
 obtain ⟨s, q⟩ := x
 dsimp only at hr hF hS hD
 refine In.enter (f := n_message_step) g.lim rfl rfl ?_
 cases hp : plc q.nm l with
 | none =>
  have e : plcI q.nm l = -1 := by unfold plcI; rw [hp]
  rw [e] at hF
  by_cases h1 : s = [78] ∨ s = [72]
  ·obtain ⟨eE, eL⟩ := stp_new (da := da) hp h1
   by_cases h64 : 64 ≤ l.length
   ·have hE := hE 5 (by rw [eE, if_pos h64]) (by decide)
    rcases h1 with rfl | rfl
    all_goals
     repeat' ((conv => whnf); first
     | refine Yz ?_
       | (refine Mt _ (Nat.beq_refl _) ?_)
       | ((refine Mt _ ?_ ?_); focus ((repeat' (first | exact mI_hit rfl | exact mI_hit (Nat.beq_refl _) | ((refine mI_skip ?h ?_); (case h => first | rfl | assumption)))); done))
      | (refine hF ?_)
      | (refine Cmp.tt rfl ?_)
      | (refine Cmp.ff (by intro h; cases h) ?_)
      | (refine CallI.of (s_mwhen g _ _) ?_)
      | (refine CallI.of (s_mfirst2 g _ _) ?_)
      | (exact hE))
   ·rw [if_neg h64] at eE
    rcases h1 with rfl | rfl
    all_goals
     have hS := hS eE (by decide)
     rw [eL] at hS
     dsimp only [nC] at hS
     rw [List.length_append, List.flatMap_append] at hS
     repeat' ((conv => whnf); first
     | refine Yz ?_
       | (refine Mt _ (Nat.beq_refl _) ?_)
       | ((refine Mt _ ?_ ?_); focus ((repeat' (first | exact mI_hit rfl | exact mI_hit (Nat.beq_refl _) | ((refine mI_skip ?h ?_); (case h => first | rfl | assumption)))); done))
      | (refine hF ?_)
      | (refine Cmp.tt rfl ?_)
      | (refine Cmp.ff (by intro h; cases h) ?_)
      | (refine CallI.of (s_mwhen g _ _) ?_)
      | (refine CallI.of (s_mfirst2 g _ _) ?_)
      | (refine Need.mk ⟨rfl, rfl, rfl, rfl, rfl, rfl, by show (l.length + 1) * 168 ≤ _; omega, by omega⟩ ?_)
      | (exact hS))
  ·have h2 : ¬ s = [78] := fun h => h1 (.inl h)
   have h3 : ¬ s = [72] := fun h => h1 (.inr h)
   have h4 : ¬ s = [82] := fun h => by have := hr h; rw [hp] at this; cases this
   have hE := hE 10 (stp_none hp h2 h3 h4) (by decide)
   repeat' ((conv => whnf); first
   | refine Yz ?_
     | (refine Mt _ (Nat.beq_refl _) ?_)
     | ((refine Mt _ ?_ ?_); focus ((repeat' (first | exact mI_hit rfl | exact mI_hit (Nat.beq_refl _) | ((refine mI_skip ?h ?_); (case h => first | rfl | assumption)))); done))
    | (refine hF ?_)
    | (refine Cmp.ff h2 ?_)
    | (refine Cmp.ff h3 ?_)
    | (refine Cmp.ff h4 ?_)
    | (exact hE))
 | some k =>
  have e : plcI q.nm l = k := by unfold plcI; rw [hp]
  rw [e] at hF
  obtain ⟨hk, hnm, _⟩ := plc_some hp
  by_cases h1 : s = [78] ∨ s = [72]
  ·have hE := hE 9 (stp_twice hp h1) (by decide)
   rcases h1 with rfl | rfl
   all_goals
    repeat' ((conv => whnf); first
    | refine Yz ?_
     | (refine Mt _ (Nat.beq_refl _) ?_)
     | ((refine Mt _ ?_ ?_); focus ((repeat' (first | exact mI_hit rfl | exact mI_hit (Nat.beq_refl _) | ((refine mI_skip ?h ?_); (case h => first | rfl | assumption)))); done))
     | (refine hF ?_)
     | (refine Cmp.tt rfl ?_)
     | (refine Cmp.ff (by intro h; cases h) ?_)
     | (refine CallI.of (s_mwhen g _ _) ?_)
     | (refine CallI.of (s_mfirst2 g _ _) ?_)
     | (exact hE)
     | (refine Cmp.mk (fun h => ?_) (fun h => ?_)) | (refine Rem.any (by omega) (fun r hr he => ?_)) | (refine Br.mk (fun h => ?_) (fun h => ?_))
     | (exfalso; omega))
  ·have h2 : ¬ s = [78] := fun h => h1 (.inl h)
   have h3 : ¬ s = [72] := fun h => h1 (.inr h)
   by_cases h4 : s = [82]
   ·subst h4
    obtain ⟨eE, eL⟩ := stp_repl (da := da) hp hk
    have hS := hS eE (by decide)
    have ep : patch (l.flatMap Ent.cells) ((0 + ((k : Nat) : Int).toNat) * 15) (Ent.cells ⟨q, l[k].hi, da⟩) = (l.set k ⟨q, l[k].hi, da⟩).flatMap Ent.cells := by
     rw [show (0 + ((k : Nat) : Int).toNat) * 15 = k * 15 by omega]
     exact ent_patch l k ⟨q, l[k].hi, da⟩ hk
    rw [eL] at hS
    dsimp only [nC] at hS
    rw [List.length_set, ← ep] at hS
    repeat' ((conv => whnf); first
    | refine Yz ?_
       | (refine Mt _ (Nat.beq_refl _) ?_)
       | ((refine Mt _ ?_ ?_); focus ((repeat' (first | exact mI_hit rfl | exact mI_hit (Nat.beq_refl _) | ((refine mI_skip ?h ?_); (case h => first | rfl | assumption)))); done))
     | (refine hF ?_)
     | (refine Cmp.tt rfl ?_)
     | (refine Cmp.ff (by intro h; cases h) ?_)
     | (refine Pick.rec0 (d := .bool l[k].hi) Ent.cells_length k rfl hk rfl ?_)
     | (refine Need.mk ⟨by omega, by omega, rfl, by omega, rfl⟩ ?_)
     | (refine Need.mk ⟨rfl, by simp only [hfl ()]; omega, rfl⟩ ?_)
     | (exact hS))
   ·obtain ⟨eE, eL⟩ := stp_some (da := da) hp hk h2 h3 h4
    by_cases hq : l[k].rq = q
    ·rw [if_pos hq] at eE
     have hpp : l[k].rq.nm = q.nm ∧ l[k].rq.ca = q.ca ∧ l[k].rq.ki = q.ki ∧ l[k].rq.te = q.te ∧ l[k].rq.pa = q.pa ∧ l[k].rq.li = q.li ∧ l[k].rq.fr = q.fr ∧ l[k].rq.to = q.to ∧ l[k].rq.da = q.da ∧ l[k].rq.mi = q.mi ∧ l[k].rq.se = q.se ∧ l[k].rq.si = q.si ∧ l[k].rq.no = q.no := by
      rw [hq]
      exact ⟨rfl, rfl, rfl, rfl, rfl, rfl, rfl, rfl, rfl, rfl, rfl, rfl, rfl⟩
     by_cases h5 : s = [68]
     ·subst h5
      have hD := hD eE rfl
      rw [eL, if_pos rfl] at hD
      dsimp only [nC] at hD
      obtain ⟨eA, eB⟩ := ent_copy l k hk
      have eAn := (congrArg List.length eA).trans (show _ = (k - 0) * 15 by rw [flatR_length Ent.cells 15 Ent.cells_length, List.length_take]; omega)
      have eBn := (congrArg List.length eB).trans (show _ = (l.length - (k + 1)) * 15 by rw [flatR_length Ent.cells 15 Ent.cells_length, List.length_drop])
      have hlen : (l.eraseIdx k).length = ((l.length : Int) - 1).toNat := by rw [List.length_eraseIdx_of_lt hk]; omega
      rw [hlen] at hD
      repeat' ((conv => whnf); first
      | refine Yz ?_
       | (refine Mt _ (Nat.beq_refl _) ?_)
       | ((refine Mt _ ?_ ?_); focus ((repeat' (first | exact mI_hit rfl | exact mI_hit (Nat.beq_refl _) | ((refine mI_skip ?h ?_); (case h => first | rfl | assumption)))); done))
       | (refine hF ?_)
       | (refine Cmp.tt rfl ?_)
       | (refine Cmp.ff (by intro h; cases h) ?_)
       | (refine Cmp.tt hpp ?_)
       | (refine PickW.part0 Ent.cells_length (j := 0) k rfl hk (by omega) rfl ?_)
       | (refine Bounds.at 0 k (by omega) (by omega) (by omega) ?_)
       | (refine Bounds.at k (l.length - 1) (by omega) (by omega) (by omega) ?_)
       | (refine Bounds.at (k + 1) l.length (by omega) (by omega) (by omega) ?_)
       | (refine Need.mk ⟨rfl, by omega, rfl, eAn⟩ ?_)
       | (refine Need.mk ⟨rfl, by omega, rfl, eBn⟩ ?_))
      rw [← ent_made l k hk eA eB] at hD
      exact hD
     ·have hS := hS eE h5
      rw [eL, if_neg h5] at hS
      repeat' ((conv => whnf); first
      | refine Yz ?_
       | (refine Mt _ (Nat.beq_refl _) ?_)
       | ((refine Mt _ ?_ ?_); focus ((repeat' (first | exact mI_hit rfl | exact mI_hit (Nat.beq_refl _) | ((refine mI_skip ?h ?_); (case h => first | rfl | assumption)))); done))
       | (refine hF ?_)
       | (refine Cmp.ff h2 ?_)
       | (refine Cmp.ff h3 ?_)
       | (refine Cmp.ff h4 ?_)
       | (refine Cmp.ff h5 ?_)
       | (refine Cmp.tt hpp ?_)
       | (refine PickW.part0 Ent.cells_length (j := 0) k rfl hk (by omega) rfl ?_)
       | (exact hS))
    ·rw [if_neg hq] at eE
     have hE := hE 29 eE (by decide)
     have hpp : ¬ (l[k].rq.nm = q.nm ∧ l[k].rq.ca = q.ca ∧ l[k].rq.ki = q.ki ∧ l[k].rq.te = q.te ∧ l[k].rq.pa = q.pa ∧ l[k].rq.li = q.li ∧ l[k].rq.fr = q.fr ∧ l[k].rq.to = q.to ∧ l[k].rq.da = q.da ∧ l[k].rq.mi = q.mi ∧ l[k].rq.se = q.se ∧ l[k].rq.si = q.si ∧ l[k].rq.no = q.no) := fun h => hq (rq_ext h)
     repeat' ((conv => whnf); first
     | refine Yz ?_
       | (refine Mt _ (Nat.beq_refl _) ?_)
       | ((refine Mt _ ?_ ?_); focus ((repeat' (first | exact mI_hit rfl | exact mI_hit (Nat.beq_refl _) | ((refine mI_skip ?h ?_); (case h => first | rfl | assumption)))); done))
      | (refine hF ?_)
      | (refine Cmp.ff h2 ?_)
      | (refine Cmp.ff h3 ?_)
      | (refine Cmp.ff h4 ?_)
      | (refine Cmp.ff hpp ?_)
      | (refine PickW.part0 Ent.cells_length (j := 0) k rfl hk (by omega) rfl ?_)
      | (exact hE))
end
end Go.Proofs.YtlnlcdnpgjhaaacGreatDoor.Co
/-
 Entries: one line, by the program, in its caller's memory (form D).
-/
namespace Go.Proofs.YtlnlcdnpgjhaaacGreatDoor.Co
open Go Go.Evl
set_option maxRecDepth 100000
abbrev mD (a b : Mst) (l1 l2 : List Ent) (d c : Nat) (l : List Ent) (x : Lnt) : Mem := [(⟨0, 2, 0⟩, .row true ty_message_Entry 15 0 []), (⟨0, 5, 0⟩, .row true ty_message_Entry 15 l1.length (l1.flatMap Ent.cells)), (⟨0, 75, d⟩, .row true ty_message_Entry 15 l2.length (l2.flatMap Ent.cells)), (⟨0, 9, 0⟩, .cells ty_message_Message (msV a)), (⟨0, 10, 0⟩, .cells ty_message_Message (msV b)), (⟨0, 75, c⟩, .row true ty_message_Entry 15 l.length (l.flatMap Ent.cells)), (⟨0, 12, 0⟩, .cells ty_message_Line (lnV x))]
abbrev nD (a b : Mst) (l1 l2 : List Ent) (d c : Nat) (l : List Ent) (x : Lnt) : Mem := [(⟨0, 2, 0⟩, .row true ty_message_Entry 15 0 []), (⟨0, 5, 0⟩, .row true ty_message_Entry 15 l1.length (l1.flatMap Ent.cells)), (⟨0, 75, d⟩, .row true ty_message_Entry 15 l2.length (l2.flatMap Ent.cells)), (⟨0, 9, 0⟩, .cells ty_message_Message (msV a)), (⟨0, 10, 0⟩, .cells ty_message_Message (msV b)), (⟨0, 75, c⟩, .row true ty_message_Entry 15 l.length (l.flatMap Ent.cells)), (⟨0, 12, 0⟩, .cells ty_message_Line (lnV x)), (⟨1, 4, 0⟩, .cells ty_message_Line (lnV x)), (⟨1, 6, 0⟩, .row true ty_message_Entry 15 0 [])]
abbrev pD (a b : Mst) (l1 l2 : List Ent) (d c : Nat) (l : List Ent) (x : Lnt) : Mem := [(⟨0, 2, 0⟩, .row true ty_message_Entry 15 0 []), (⟨0, 5, 0⟩, .row true ty_message_Entry 15 l1.length (l1.flatMap Ent.cells)), (⟨0, 75, d⟩, .row true ty_message_Entry 15 l2.length (l2.flatMap Ent.cells)), (⟨0, 9, 0⟩, .cells ty_message_Message (msV a)), (⟨0, 10, 0⟩, .cells ty_message_Message (msV b)), (⟨0, 75, c⟩, .row true ty_message_Entry 15 l.length (l.flatMap Ent.cells)), (⟨0, 12, 0⟩, .cells ty_message_Line (lnV x)), (⟨1, 4, 0⟩, .cells ty_message_Line (lnV x)), (⟨1, 6, 0⟩, .row true ty_message_Entry 15 0 []), (⟨2, 3, 0⟩, .cells ty_string [S x.rq.nm])]
section
variable {E : Oracle} (g : Good E)
include g
set_option maxHeartbeats 8000000 in
theorem in_findD (a b : Mst) (l1 l2 : List Ent) (d c : Nat) (hdc : ¬ d = c) (l : List Ent) (x : Lnt) (hl : l.length ≤ 64) {K : V → Mem → Prop} (hK : K (I (plcI x.rq.nm l)) (pD a b l1 l2 d c l x)) : In E 2 n_message_find [.ref ⟨0, 75, c⟩ 0 l.length l.length, S x.rq.nm] (nD a b l1 l2 d c l x) K := by
 have b1 := beq_ne hdc
 have b2 := beq_en hdc
 refine In.enter (f := n_message_find) g.lim rfl rfl ?_
 repeat' ((conv => whnf); first
 | refine Yz ?_
  | (refine Mt _ (Nat.beq_refl _) ?_)
  | (refine Mf _ b1 ?_)
  | (refine Mf _ b2 ?_)
  | ((refine Mt _ ?_ ?_); focus ((repeat' (first | exact mI_hit rfl | exact mI_hit (Nat.beq_refl _) | ((refine mI_skip ?h ?_); (case h => first | rfl | assumption)))); done))
  | ((refine Mf _ ?_ ?_); focus ((repeat' (first | exact rfl | ((refine mI_skip ?h ?_); (case h => first | rfl | assumption)))); done))
  | (refine In.enter (f := n_slices_IndexFunc_Lmessage_Entry_message_Entry) g.lim rfl rfl ?_))
 refine LoopW.to (LoopW.upP g (fun k => [(0, .ref ⟨0, 75, c⟩ 0 l.length l.length), (1, .fn n_message_find_1 [] [.ptr ⟨2, 3, 0⟩ 0 0]), (7, I l.length), (8, I k)]) (fun _ => pD a b l1 l2 d c l x) (fun k => ∀ (j : Nat) (hj : j < l.length), j < k → ¬ l[j].rq.nm = x.rq.nm) l.length (fun k hk hp ih => ?_) 0 (Nat.zero_le _) (fun j _ h => absurd h (Nat.not_lt_zero _))) rfl rfl
 by_cases hlt : k < l.length
 ·by_cases he : l[k].rq.nm = x.rq.nm
  ·have e : plcI x.rq.nm l = k := by unfold plcI; rw [plc_at hlt hp he]
   rw [e] at hK
   repeat' ((conv => whnf); first
   | refine Yz ?_
    | (refine PickW.rec0 Ent.cells_length k rfl hlt ?_)
    | (refine In.enter (f := n_message_find_1) g.lim rfl rfl ?_)
    | (refine Cmp.tt he ?_)
     | (refine Mt _ (Nat.beq_refl _) ?_)
     | (refine Mf _ b1 ?_)
     | (refine Mf _ b2 ?_)
     | ((refine Mt _ ?_ ?_); focus ((repeat' (first | exact mI_hit rfl | exact mI_hit (Nat.beq_refl _) | ((refine mI_skip ?h ?_); (case h => first | rfl | assumption)))); done))
     | ((refine Mf _ ?_ ?_); focus ((repeat' (first | exact rfl | ((refine mI_skip ?h ?_); (case h => first | rfl | assumption)))); done))
    | (exact hK))
  ·have ih := ih hlt fun j hj hjk => by
    by_cases e : j = k
    ·subst e; exact he
    ·exact hp j hj (by omega)
   repeat' ((conv => whnf); first
   | refine Yz ?_
    | (refine PickW.rec0 Ent.cells_length k rfl hlt ?_)
    | (refine In.enter (f := n_message_find_1) g.lim rfl rfl ?_)
    | (refine Cmp.ff he ?_)
     | (refine Mt _ (Nat.beq_refl _) ?_)
     | (refine Mf _ b1 ?_)
     | (refine Mf _ b2 ?_)
     | ((refine Mt _ ?_ ?_); focus ((repeat' (first | exact mI_hit rfl | exact mI_hit (Nat.beq_refl _) | ((refine mI_skip ?h ?_); (case h => first | rfl | assumption)))); done))
     | ((refine Mf _ ?_ ?_); focus ((repeat' (first | exact rfl | ((refine mI_skip ?h ?_); (case h => first | rfl | assumption)))); done))
    | (refine LoopW.to ih rfl rfl))
 ·have e : plcI x.rq.nm l = -1 := by unfold plcI; rw [plc_non fun j hj => hp j hj (by omega)]
  rw [e] at hK
  repeat' ((conv => whnf); first
  | refine Yz ?_
     | (refine Mt _ (Nat.beq_refl _) ?_)
     | (refine Mf _ b1 ?_)
     | (refine Mf _ b2 ?_)
     | ((refine Mt _ ?_ ?_); focus ((repeat' (first | exact mI_hit rfl | exact mI_hit (Nat.beq_refl _) | ((refine mI_skip ?h ?_); (case h => first | rfl | assumption)))); done))
     | ((refine Mf _ ?_ ?_); focus ((repeat' (first | exact rfl | ((refine mI_skip ?h ?_); (case h => first | rfl | assumption)))); done))
   | (exact hK))
set_option maxHeartbeats 16000000 in
theorem in_stepD (a b : Mst) (l1 l2 : List Ent) (d c : Nat) (hdc : ¬ d = c) (l : List Ent) (x : Lnt) (da : Int) (hl : l.length ≤ 64) (hr : x.ac = [82] → (plc x.rq.nm l).isSome) {K : V → Mem → Prop}
  (hE : ∀ e : Int, stpE l x = e → e ≠ 0 → K (.tup [.ref ⟨1, 6, 1⟩ 0 0 0, I e]) (nD a b l1 l2 d c l x ++ [(⟨1, 6, 1⟩, .row true ty_message_Entry 15 0 [])]))
  (hS : stpE l x = 0 → x.ac ≠ [68] → K (.tup [.ref ⟨0, 75, c⟩ 0 (stpL l x da).length (stpL l x da).length, I 0]) (nD a b l1 l2 d c (stpL l x da) x))
  (hD : stpE l x = 0 → x.ac = [68] → K (.tup [.ref ⟨1, 74, 0⟩ 0 (stpL l x da).length (stpL l x da).length, I 0]) (nD a b l1 l2 d c l x ++ [(⟨1, 74, 0⟩, .row true ty_message_Entry 15 (stpL l x da).length ((stpL l x da).flatMap Ent.cells))])) :
  In E 1 n_message_step [.ref ⟨0, 75, c⟩ 0 l.length l.length, Lnv x, I da] (mD a b l1 l2 d c l x) K := by
 have b1 := beq_ne hdc
 have b2 := beq_en hdc
 have hF := fun {K} => in_findD g a b l1 l2 d c hdc l x hl (K := K)
 have hfl := fun (_ : Unit) => flatR_length Ent.cells 15 Ent.cells_length l
 obtain ⟨s, q⟩ := x
 dsimp only at hr hF hS hD
 refine In.enter (f := n_message_step) g.lim rfl rfl ?_
 cases hp : plc q.nm l with
 | none =>
  have e : plcI q.nm l = -1 := by unfold plcI; rw [hp]
  rw [e] at hF
  by_cases h1 : s = [78] ∨ s = [72]
  ·obtain ⟨eE, eL⟩ := stp_new (da := da) hp h1
   by_cases h64 : 64 ≤ l.length
   ·have hE := hE 5 (by rw [eE, if_pos h64]) (by decide)
    rcases h1 with rfl | rfl
    all_goals
     repeat' ((conv => whnf); first
     | refine Yz ?_
       | (refine Mt _ (Nat.beq_refl _) ?_)
       | (refine Mf _ b1 ?_)
       | (refine Mf _ b2 ?_)
       | ((refine Mt _ ?_ ?_); focus ((repeat' (first | exact mI_hit rfl | exact mI_hit (Nat.beq_refl _) | ((refine mI_skip ?h ?_); (case h => first | rfl | assumption)))); done))
       | ((refine Mf _ ?_ ?_); focus ((repeat' (first | exact rfl | ((refine mI_skip ?h ?_); (case h => first | rfl | assumption)))); done))
      | (refine hF ?_)
      | (refine Cmp.tt rfl ?_)
      | (refine Cmp.ff (by intro h; cases h) ?_)
      | (refine CallI.of (s_mwhen g _ _) ?_)
      | (refine CallI.of (s_mfirst2 g _ _) ?_)
      | (exact hE))
   ·rw [if_neg h64] at eE
    rcases h1 with rfl | rfl
    all_goals
     have hS := hS eE (by decide)
     rw [eL] at hS
     dsimp only [nD] at hS
     rw [List.length_append, List.flatMap_append] at hS
     repeat' ((conv => whnf); first
     | refine Yz ?_
       | (refine Mt _ (Nat.beq_refl _) ?_)
       | (refine Mf _ b1 ?_)
       | (refine Mf _ b2 ?_)
       | ((refine Mt _ ?_ ?_); focus ((repeat' (first | exact mI_hit rfl | exact mI_hit (Nat.beq_refl _) | ((refine mI_skip ?h ?_); (case h => first | rfl | assumption)))); done))
       | ((refine Mf _ ?_ ?_); focus ((repeat' (first | exact rfl | ((refine mI_skip ?h ?_); (case h => first | rfl | assumption)))); done))
      | (refine hF ?_)
      | (refine Cmp.tt rfl ?_)
      | (refine Cmp.ff (by intro h; cases h) ?_)
      | (refine CallI.of (s_mwhen g _ _) ?_)
      | (refine CallI.of (s_mfirst2 g _ _) ?_)
      | (refine Need.mk ⟨rfl, rfl, rfl, rfl, rfl, rfl, by show (l.length + 1) * 168 ≤ _; omega, by omega⟩ ?_)
      | (exact hS))
  ·have h2 : ¬ s = [78] := fun h => h1 (.inl h)
   have h3 : ¬ s = [72] := fun h => h1 (.inr h)
   have h4 : ¬ s = [82] := fun h => by have := hr h; rw [hp] at this; cases this
   have hE := hE 10 (stp_none hp h2 h3 h4) (by decide)
   repeat' ((conv => whnf); first
   | refine Yz ?_
     | (refine Mt _ (Nat.beq_refl _) ?_)
     | (refine Mf _ b1 ?_)
     | (refine Mf _ b2 ?_)
     | ((refine Mt _ ?_ ?_); focus ((repeat' (first | exact mI_hit rfl | exact mI_hit (Nat.beq_refl _) | ((refine mI_skip ?h ?_); (case h => first | rfl | assumption)))); done))
     | ((refine Mf _ ?_ ?_); focus ((repeat' (first | exact rfl | ((refine mI_skip ?h ?_); (case h => first | rfl | assumption)))); done))
    | (refine hF ?_)
    | (refine Cmp.ff h2 ?_)
    | (refine Cmp.ff h3 ?_)
    | (refine Cmp.ff h4 ?_)
    | (exact hE))
 | some k =>
  have e : plcI q.nm l = k := by unfold plcI; rw [hp]
  rw [e] at hF
  obtain ⟨hk, hnm, _⟩ := plc_some hp
  by_cases h1 : s = [78] ∨ s = [72]
  ·have hE := hE 9 (stp_twice hp h1) (by decide)
   rcases h1 with rfl | rfl
   all_goals
    repeat' ((conv => whnf); first
    | refine Yz ?_
     | (refine Mt _ (Nat.beq_refl _) ?_)
     | (refine Mf _ b1 ?_)
     | (refine Mf _ b2 ?_)
     | ((refine Mt _ ?_ ?_); focus ((repeat' (first | exact mI_hit rfl | exact mI_hit (Nat.beq_refl _) | ((refine mI_skip ?h ?_); (case h => first | rfl | assumption)))); done))
     | ((refine Mf _ ?_ ?_); focus ((repeat' (first | exact rfl | ((refine mI_skip ?h ?_); (case h => first | rfl | assumption)))); done))
     | (refine hF ?_)
     | (refine Cmp.tt rfl ?_)
     | (refine Cmp.ff (by intro h; cases h) ?_)
     | (refine CallI.of (s_mwhen g _ _) ?_)
     | (refine CallI.of (s_mfirst2 g _ _) ?_)
     | (exact hE)
     | (refine Cmp.mk (fun h => ?_) (fun h => ?_)) | (refine Rem.any (by omega) (fun r hr he => ?_)) | (refine Br.mk (fun h => ?_) (fun h => ?_))
     | (exfalso; omega))
  ·have h2 : ¬ s = [78] := fun h => h1 (.inl h)
   have h3 : ¬ s = [72] := fun h => h1 (.inr h)
   by_cases h4 : s = [82]
   ·subst h4
    obtain ⟨eE, eL⟩ := stp_repl (da := da) hp hk
    have hS := hS eE (by decide)
    have ep : patch (l.flatMap Ent.cells) ((0 + ((k : Nat) : Int).toNat) * 15) (Ent.cells ⟨q, l[k].hi, da⟩) = (l.set k ⟨q, l[k].hi, da⟩).flatMap Ent.cells := by
     rw [show (0 + ((k : Nat) : Int).toNat) * 15 = k * 15 by omega]
     exact ent_patch l k ⟨q, l[k].hi, da⟩ hk
    rw [eL] at hS
    dsimp only [nD] at hS
    rw [List.length_set, ← ep] at hS
    repeat' ((conv => whnf); first
    | refine Yz ?_
       | (refine Mt _ (Nat.beq_refl _) ?_)
       | (refine Mf _ b1 ?_)
       | (refine Mf _ b2 ?_)
       | ((refine Mt _ ?_ ?_); focus ((repeat' (first | exact mI_hit rfl | exact mI_hit (Nat.beq_refl _) | ((refine mI_skip ?h ?_); (case h => first | rfl | assumption)))); done))
       | ((refine Mf _ ?_ ?_); focus ((repeat' (first | exact rfl | ((refine mI_skip ?h ?_); (case h => first | rfl | assumption)))); done))
     | (refine hF ?_)
     | (refine Cmp.tt rfl ?_)
     | (refine Cmp.ff (by intro h; cases h) ?_)
     | (refine Pick.rec0 (d := .bool l[k].hi) Ent.cells_length k rfl hk rfl ?_)
     | (refine Need.mk ⟨by omega, by omega, rfl, by omega, rfl⟩ ?_)
     | (refine Need.mk ⟨rfl, by simp only [hfl ()]; omega, rfl⟩ ?_)
     | (exact hS))
   ·obtain ⟨eE, eL⟩ := stp_some (da := da) hp hk h2 h3 h4
    by_cases hq : l[k].rq = q
    ·rw [if_pos hq] at eE
     have hpp : l[k].rq.nm = q.nm ∧ l[k].rq.ca = q.ca ∧ l[k].rq.ki = q.ki ∧ l[k].rq.te = q.te ∧ l[k].rq.pa = q.pa ∧ l[k].rq.li = q.li ∧ l[k].rq.fr = q.fr ∧ l[k].rq.to = q.to ∧ l[k].rq.da = q.da ∧ l[k].rq.mi = q.mi ∧ l[k].rq.se = q.se ∧ l[k].rq.si = q.si ∧ l[k].rq.no = q.no := by
      rw [hq]
      exact ⟨rfl, rfl, rfl, rfl, rfl, rfl, rfl, rfl, rfl, rfl, rfl, rfl, rfl⟩
     by_cases h5 : s = [68]
     ·subst h5
      have hD := hD eE rfl
      rw [eL, if_pos rfl] at hD
      dsimp only [nD] at hD
      obtain ⟨eA, eB⟩ := ent_copy l k hk
      have eAn := (congrArg List.length eA).trans (show _ = (k - 0) * 15 by rw [flatR_length Ent.cells 15 Ent.cells_length, List.length_take]; omega)
      have eBn := (congrArg List.length eB).trans (show _ = (l.length - (k + 1)) * 15 by rw [flatR_length Ent.cells 15 Ent.cells_length, List.length_drop])
      have hlen : (l.eraseIdx k).length = ((l.length : Int) - 1).toNat := by rw [List.length_eraseIdx_of_lt hk]; omega
      rw [hlen] at hD
      repeat' ((conv => whnf); first
      | refine Yz ?_
       | (refine Mt _ (Nat.beq_refl _) ?_)
       | (refine Mf _ b1 ?_)
       | (refine Mf _ b2 ?_)
       | ((refine Mt _ ?_ ?_); focus ((repeat' (first | exact mI_hit rfl | exact mI_hit (Nat.beq_refl _) | ((refine mI_skip ?h ?_); (case h => first | rfl | assumption)))); done))
       | ((refine Mf _ ?_ ?_); focus ((repeat' (first | exact rfl | ((refine mI_skip ?h ?_); (case h => first | rfl | assumption)))); done))
       | (refine hF ?_)
       | (refine Cmp.tt rfl ?_)
       | (refine Cmp.ff (by intro h; cases h) ?_)
       | (refine Cmp.tt hpp ?_)
       | (refine PickW.part0 Ent.cells_length (j := 0) k rfl hk (by omega) rfl ?_)
       | (refine Bounds.at 0 k (by omega) (by omega) (by omega) ?_)
       | (refine Bounds.at k (l.length - 1) (by omega) (by omega) (by omega) ?_)
       | (refine Bounds.at (k + 1) l.length (by omega) (by omega) (by omega) ?_)
       | (refine Need.mk ⟨rfl, by omega, rfl, eAn⟩ ?_)
       | (refine Need.mk ⟨rfl, by omega, rfl, eBn⟩ ?_))
      rw [← ent_made l k hk eA eB] at hD
      exact hD
     ·have hS := hS eE h5
      rw [eL, if_neg h5] at hS
      repeat' ((conv => whnf); first
      | refine Yz ?_
       | (refine Mt _ (Nat.beq_refl _) ?_)
       | (refine Mf _ b1 ?_)
       | (refine Mf _ b2 ?_)
       | ((refine Mt _ ?_ ?_); focus ((repeat' (first | exact mI_hit rfl | exact mI_hit (Nat.beq_refl _) | ((refine mI_skip ?h ?_); (case h => first | rfl | assumption)))); done))
       | ((refine Mf _ ?_ ?_); focus ((repeat' (first | exact rfl | ((refine mI_skip ?h ?_); (case h => first | rfl | assumption)))); done))
       | (refine hF ?_)
       | (refine Cmp.ff h2 ?_)
       | (refine Cmp.ff h3 ?_)
       | (refine Cmp.ff h4 ?_)
       | (refine Cmp.ff h5 ?_)
       | (refine Cmp.tt hpp ?_)
       | (refine PickW.part0 Ent.cells_length (j := 0) k rfl hk (by omega) rfl ?_)
       | (exact hS))
    ·rw [if_neg hq] at eE
     have hE := hE 29 eE (by decide)
     have hpp : ¬ (l[k].rq.nm = q.nm ∧ l[k].rq.ca = q.ca ∧ l[k].rq.ki = q.ki ∧ l[k].rq.te = q.te ∧ l[k].rq.pa = q.pa ∧ l[k].rq.li = q.li ∧ l[k].rq.fr = q.fr ∧ l[k].rq.to = q.to ∧ l[k].rq.da = q.da ∧ l[k].rq.mi = q.mi ∧ l[k].rq.se = q.se ∧ l[k].rq.si = q.si ∧ l[k].rq.no = q.no) := fun h => hq (rq_ext h)
     repeat' ((conv => whnf); first
     | refine Yz ?_
       | (refine Mt _ (Nat.beq_refl _) ?_)
       | (refine Mf _ b1 ?_)
       | (refine Mf _ b2 ?_)
       | ((refine Mt _ ?_ ?_); focus ((repeat' (first | exact mI_hit rfl | exact mI_hit (Nat.beq_refl _) | ((refine mI_skip ?h ?_); (case h => first | rfl | assumption)))); done))
       | ((refine Mf _ ?_ ?_); focus ((repeat' (first | exact rfl | ((refine mI_skip ?h ?_); (case h => first | rfl | assumption)))); done))
      | (refine hF ?_)
      | (refine Cmp.ff h2 ?_)
      | (refine Cmp.ff h3 ?_)
      | (refine Cmp.ff h4 ?_)
      | (refine Cmp.ff hpp ?_)
      | (refine PickW.part0 Ent.cells_length (j := 0) k rfl hk (by omega) rfl ?_)
      | (exact hE))
end
end Go.Proofs.YtlnlcdnpgjhaaacGreatDoor.Co
