/-
  PriorityOrders: what its law leans on, part 1.
-/
import Derived.Laws.RangeAny
import Derived.Lib.SplitLaws
import Derived.Test.YtlnlcdnpgjhaaaaGreatDoorEvE
import Derived.Test.YtlnlcdnpgjhaaaaGreatDoorEvX
import Derived.Test.YtlnlcdnpgjhaaaaGreatDoorGood
import Derived.Test.YtlnlcdnpgjhaaaaGreatDoorRead
/-
 Ways to show what a function of the program gives: how data stand for Go's values; steps; loops.
-/
namespace Go.Proofs.YtlnlcdnpgjhaaaaGreatDoor.Co
open Go Go.Evl
abbrev I (x : Int) : V := .d (.int .i64 x)
abbrev B (b : Bool) : V := .d (.bool b)
abbrev S (s : List UInt8) : V := .d (.str s)
abbrev DI (x : Int) : D := .int .i64 x
abbrev LI (l : List Int) : V := .d (.list l.length (l.map DI))
abbrev Per (a b c : Int) : V := .d (.agg [DI a, DI b, DI c])
theorem wrap_id {x : Int} (h : -9223372036854775808 ≤ x ∧ x ≤ 9223372036854775807) : IntKind.i64.wrap x = x := by
 have hb : IntKind.i64.wrap x = (if x % 18446744073709551616 ≥ 9223372036854775808 then x % 18446744073709551616 - 18446744073709551616 else x % 18446744073709551616) := by
  simp [IntKind.wrap, IntKind.signed, IntKind.bits]
 rw [hb]
 split <;> omega
section
variable {E : Oracle}
theorem Wr.keep {x : Int} {K : Int → Prop} (h : -9223372036854775808 ≤ x ∧ x ≤ 9223372036854775807) (k : K x) : Wr .i64 x K := ⟨by rw [wrap_id h]; exact k⟩
theorem Br.tt {a b : Prop} (h : a) : Br true a b := ⟨fun _ => h, fun h => nomatch h⟩
theorem Br.ff {a b : Prop} (h : b) : Br false a b := ⟨fun h => (nomatch h), fun _ => h⟩
theorem Cmp.tt {p a b : Prop} (hp : p) (h : a) : Cmp p a b := ⟨fun _ => h, fun hn => absurd hp hn⟩
theorem Cmp.ff {p a b : Prop} (hp : ¬ p) (h : b) : Cmp p a b := ⟨fun hn => absurd hn hp, fun _ => h⟩
theorem Rem.pos {a b : Int} {K : Int → Prop} (hb : 0 < b ∧ 0 ≤ a) (k : K (a % b)) : Rem a b K := ⟨by omega, by rw [Int.tmod_eq_emod_of_nonneg hb.2]; exact k⟩
theorem Rem.any {a b : Int} {K : Int → Prop} (hb : 0 < b) (k : ∀ r, -b < r ∧ r < b → r = a.tmod b → K r) : Rem a b K :=
 by
 refine ⟨by omega, k _ ⟨?_, Int.tmod_lt_of_pos a hb⟩ rfl⟩
 rw [Int.tmod_eq_emod]
 have h1 := Int.emod_nonneg a (show b ≠ 0 by omega)
 have h2 := Int.emod_lt_of_pos a hb
 split
 ·omega
 ·rename_i hn
  have : a % b ≠ 0 := fun e => hn (.inr (Int.dvd_of_emod_eq_zero e))
  omega
theorem Quo.pos {a b : Int} {K : Int → Prop} (hb : 0 < b ∧ 0 ≤ a ∧ a ≤ 9223372036854775807) (k : K (a / b)) : Quo .i64 a b K := by
 have h1 : a / b ≤ a := Int.ediv_le_self b hb.2.1
 have h2 : 0 ≤ a / b := Int.ediv_nonneg hb.2.1 (by omega)
 exact ⟨by omega, by rw [Int.tdiv_eq_ediv_of_nonneg hb.2.1, wrap_id (by omega)]; exact k⟩
theorem Pick.now {cs : List D} {off : Nat} {K : D → Prop} {d : D} (h : cs[off]? = some d) (k : K d) : Pick cs off K := ⟨⟨d, h, k⟩⟩
theorem PickV.now {cs : List V} {off : Nat} {K : V → Prop} {d : V} (h : cs[off]? = some d) (k : K d) : PickV cs off K := ⟨⟨d, h, k⟩⟩
theorem PickW.now {cs ds : List D} {off n : Nat} {K : List D → Prop} (hl : off + n ≤ cs.length) (h : win cs off n = ds) (k : K ds) : PickW cs off n K := ⟨hl, by rw [h]; exact k⟩
theorem Ya {a b : Prop} (h : a) : Br true a b := Br.tt h
theorem Yb {a b : Prop} (h : b) : Br false a b := Br.ff h
theorem Yi {cs : List V} {off : Nat} {K : V → Prop} {d : V} (h : cs[off]? = some d) (k : K d) : PickV cs off K := PickV.now h k
theorem Yj {cs : List D} {off : Nat} {K : D → Prop} {d : D} (h : cs[off]? = some d) (k : K d) : Pick cs off K := Pick.now h k
theorem Yk {b : Bool} {k : Prop} (h : b = true) (hk : k) : Chk b k := ⟨h, hk⟩
theorem Ye {p a b : Prop} (h : a) (hp : p := by first | omega | decide) : Cmp p a b := Cmp.tt hp h
theorem Yf {p a b : Prop} (h : b) (hp : ¬ p := by first | omega | decide) : Cmp p a b := Cmp.ff hp h
theorem Yc {p k : Prop} (h : k) (hp : p := by first | omega | (simp; done) | (simp; omega)) : Need p k := ⟨hp, h⟩
theorem Yd {x : Int} {K : Int → Prop} (k : K x) (h : -9223372036854775808 ≤ x ∧ x ≤ 9223372036854775807 := by omega) : Wr .i64 x K := Wr.keep h k
theorem Yg {a b : Int} {K : Int → Prop} (k : K (a % b)) (hb : 0 < b ∧ 0 ≤ a := by omega) : Rem a b K := Rem.pos hb k
theorem Yh {a b : Int} {K : Int → Prop} (k : K (a / b)) (hb : 0 < b ∧ 0 ≤ a ∧ a ≤ 9223372036854775807 := by omega) : Quo .i64 a b K := Quo.pos hb k
theorem Yl {cs ds : List D} {off n : Nat} {K : List D → Prop} (h : win cs off n = ds) (k : K ds) (hl : off + n ≤ cs.length := by first | omega | decide) : PickW cs off n K := PickW.now hl h k
theorem Bounds.at {n : Nat} {l h : Int} {K : Nat → Nat → Prop} (a b : Nat) (hl : l = a) (hh : h = b) (hb : a ≤ b ∧ b ≤ n) (k : K a b) : Bounds n l h K := by
 subst hl
 subst hh
 exact ⟨by omega, k⟩
theorem Pick.int {l : List Int} {i : Int} {K : D → Prop} (h : 0 ≤ i ∧ i < l.length) (k : K (DI (l.getD i.toNat 0))) : Pick (l.map DI) (i.toNat * 1) K := by
 refine ⟨⟨_, ?_, k⟩⟩
 have hi : i.toNat < l.length := by omega
 simp [List.getD, hi]
theorem Pick.int0 {l : List Int} {i : Int} {K : D → Prop} (h : 0 ≤ i ∧ i < l.length) (k : K (DI (l.getD i.toNat 0))) : Pick (l.map DI) ((0 + i.toNat) * 1) K := by
 refine ⟨⟨_, ?_, k⟩⟩
 have hi : i.toNat < l.length := by omega
 simp [List.getD, hi]
theorem LoopW.to {cx : Cx} {live : List Nat} {keep : List Evl.Id} {body : C} {e1 e2 : Env} {m1 m2 : Mem} {K : Ex → Env → Mem → Prop} (h : LoopW E cx live keep body e1 m1 K) (he : e1 = e2) (hm : m1 = m2) : LoopW E cx live keep body e2 m2 K := by
 subst he; subst hm; exact h
theorem LoopW.up (g : Good E) {cx : Cx} {live : List Nat} {keep : List Evl.Id} {body : C} {K : Ex → Env → Mem → Prop} (env : Nat → Env) (mem : Nat → Mem) (b : Nat)
  (h : ∀ k, k ≤ b → (k < b → LoopW E cx live keep body (env (k + 1)) (mem (k + 1)) K) → wpC E cx body (env k) (mem k) (againK E cx live keep body K)) : ∀ a, a ≤ b → LoopW E cx live keep body (env a) (mem a) K := by
 have key : ∀ n a, a + n = b → LoopW E cx live keep body (env a) (mem a) K := by
  intro n
  induction n with
  | zero => exact fun a ha => LoopW.step g.lim (h a (by omega) fun hlt => absurd hlt (by omega))
  | succ n ih => exact fun a ha => LoopW.step g.lim (h a (by omega) fun _ => ih (a + 1) (by omega))
 exact fun a ha => key (b - a) a (by omega)
theorem LoopW.upP (g : Good E) {cx : Cx} {live : List Nat} {keep : List Evl.Id} {body : C} {K : Ex → Env → Mem → Prop} (env : Nat → Env) (mem : Nat → Mem) (P : Nat → Prop) (b : Nat)
  (h : ∀ k, k ≤ b → P k → (k < b → P (k + 1) → LoopW E cx live keep body (env (k + 1)) (mem (k + 1)) K) → wpC E cx body (env k) (mem k) (againK E cx live keep body K)) : ∀ a, a ≤ b → P a → LoopW E cx live keep body (env a) (mem a) K := by
 have key : ∀ n a, a + n = b → P a → LoopW E cx live keep body (env a) (mem a) K := by
  intro n
  induction n with
  | zero => exact fun a ha hp => LoopW.step g.lim (h a (by omega) hp fun hlt => absurd hlt (by omega))
  | succ n ih => exact fun a ha hp => LoopW.step g.lim (h a (by omega) hp fun _ hp' => ih (a + 1) (by omega) hp')
 exact fun a ha => key (b - a) a (by omega)
theorem LoopW.by {σ : Type} (g : Good E) {cx : Cx} {live : List Nat} {keep : List Evl.Id} {body : C} {K : Ex → Env → Mem → Prop} (inv : σ → Prop) (env : σ → Env) (mem : σ → Mem) (μ : σ → Nat)
  (h : ∀ s, inv s → (∀ s', inv s' → μ s' < μ s → LoopW E cx live keep body (env s') (mem s') K) → wpC E cx body (env s) (mem s) (againK E cx live keep body K)) : ∀ s, inv s → LoopW E cx live keep body (env s) (mem s) K := by
 have key : ∀ n s, μ s < n → inv s → LoopW E cx live keep body (env s) (mem s) K := by
  intro n
  induction n with
  | zero => exact fun s hs => absurd hs (Nat.not_lt_zero _)
  | succ n ih => exact fun s hs hi => LoopW.step g.lim (h s hi fun s' hi' hlt => ih s' (by omega) hi')
 exact fun s hi => key (μ s + 1) s (Nat.lt_succ_self _) hi
theorem Good.fn (g : Good E) {f : Nat} {args : List V} {r : V} {cf : CF} (hc : code f = some cf) (hX : ext f = none) (h : bodyW E 0 cf args [] fun v m' => thawW m' v fun d => Ret d r) : Fc E f args r := Fc.enter g.lim hX hc h
def isTrue : Option Res → Bool
 | some (.val (.d (.bool b)) _) => b
 | _ => false
theorem Good.comp (g : Good E) (n : Nat) {f : Nat} {args : List V} (h : isTrue (iter code ext n (.call 0 f args [])) = true) : Fc E f args (B true) := by
 cases hr : iter code ext n (.call 0 f args []) with
 | none => rw [hr] at h; cases h
 | some r =>
  rw [hr] at h
  unfold isTrue at h
  split at h
  ·rename_i b m e
   obtain rfl := Option.some.inj e
   subst h
   exact ⟨_, _, g.lim.of_iter n _ _ hr, rfl⟩
  ·cases h
def sameR : V → V → Bool
 | .d a, .d b => sameD a b
 | .tup as1, .tup bs =>
  match allD as1, allD bs with
  | some xs, some ys => sameDL xs ys
  | _, _ => false
 | _, _ => false
theorem sameR_eq (a b : V) (h : sameR a b = true) : a = b := by
 unfold sameR at h
 split at h
 ·rw [sameD_eq _ _ h]
 ·split at h
  ·rename_i h1 h2
   rw [sameDL_eq _ _ h] at h1
   rw [allD_eq _ _ _ h1 h2]
  ·cases h
 ·cases h
def isRes (o : Option Res) (r : V) : Bool :=
 match o with
 | some (.val v m) =>
  (match thaw m v with
  | some x => sameR x r
  | none => false)
 | _ => false
theorem Good.compR (g : Good E) (n : Nat) {f : Nat} {args : List V} {r : V} (h : isRes (iter code ext n (.call 0 f args [])) r = true) : Fc E f args r := by
 cases hr : iter code ext n (.call 0 f args []) with
 | none => rw [hr] at h; cases h
 | some x =>
  rw [hr] at h
  unfold isRes at h
  split at h
  ·rename_i v m e
   obtain rfl := Option.some.inj e
   split at h
   ·rename_i y hy
    exact ⟨_, _, g.lim.of_iter n _ _ hr, by rw [hy, sameR_eq _ _ h]⟩
   ·cases h
  ·cases h
end
end Go.Proofs.YtlnlcdnpgjhaaaaGreatDoor.Co
/-
 Periods: errors, masks, moves: what the program's functions and the reference's give.
-/
namespace Go.Proofs.YtlnlcdnpgjhaaaaGreatDoor.Co
open Go Go.Evl
def rng (n a b : Int) : Int := if n < a ∨ b < n then 3 else 0
def firstI : List Int → Int
 | [] => 0
 | x :: r => if x = 0 then firstI r else x
theorem rng_range (n a b : Int) : 0 ≤ rng n a b ∧ rng n a b ≤ 3 := by unfold rng; split <;> omega
theorem rng_zero {n a b : Int} : rng n a b = 0 ↔ a ≤ n ∧ n ≤ b := by unfold rng; split <;> omega
section
variable {E : Oracle} (g : Good E)
include g
theorem s_when (b : Bool) (e : Int) : Fc E n_calendar_when [B b, I e] (I (if b then e else 0)) := by
 refine g.fn code_calendar_when rfl ?_
 cases b
 all_goals repeat' ((conv => whnf); first
 | refine Ya ?_ | refine Yb ?_ | refine Yc ?_ | refine Yd ?_ | refine Ye ?_ | refine Yf ?_ | refine Yg ?_ | refine Yh ?_ | refine Yi rfl ?_ | refine Yj rfl ?_ | refine Yk rfl ?_ | refine Yl rfl ?_
  | (refine Ret.mk rfl))
theorem s_within (n a b : Int) : Fc E n_calendar_within [I n, I a, I b] (I (rng n a b)) := by
 refine g.fn code_calendar_within rfl ?_
 repeat' ((conv => whnf); first
 | refine Ya ?_ | refine Yb ?_ | refine Yc ?_ | refine Yd ?_ | refine Ye ?_ | refine Yf ?_ | refine Yg ?_ | refine Yh ?_ | refine Yi rfl ?_ | refine Yj rfl ?_ | refine Yk rfl ?_ | refine Yl rfl ?_
  | (refine Cmp.mk (fun h => ?_) (fun h => ?_)) | (refine Rem.any (by omega) (fun r hr he => ?_)) | (refine Br.mk (fun h => ?_) (fun h => ?_))
  | (refine CallI.of (s_when g _ _) ?_)
  | (refine Ret.mk ?_))
 all_goals (simp only [V.d.injEq, D.int.injEq, true_and, rng]; simp_all)
omit g in
theorem firstI_drop (l : List Int) (k : Nat) (h : k < l.length) : firstI (l.drop k) = if l.getD k 0 = 0 then firstI (l.drop (k + 1)) else l.getD k 0 := by
 rw [List.drop_eq_getElem_cons h]
 simp [firstI, List.getD, h]
theorem s_first (l : List Int) (hl : l.length ≤ 140737488355328) : Fc E n_calendar_first [LI l] (I (firstI l)) := by
 refine g.fn code_calendar_first rfl ?_
 conv => whnf
 refine LoopW.upP g (fun k => [(5, LI l), (6, I l.length), (7, I k)]) (fun _ => []) (fun k => firstI l = firstI (l.drop k)) l.length (fun k hk hp ih => ?_) 0 (Nat.zero_le _) (by simp)
 by_cases hlt : k < l.length
 ·have hd := firstI_drop l k hlt
  repeat' ((conv => whnf); first
  | refine Ya ?_ | refine Yb ?_ | refine Yc ?_ | refine Yd ?_ | refine Ye ?_ | refine Yf ?_ | refine Yg ?_ | refine Yh ?_ | refine Yi rfl ?_ | refine Yj rfl ?_ | refine Yk rfl ?_ | refine Yl rfl ?_
   | (refine Pick.int (by omega) ?_)
   | (refine Cmp.mk (fun h => ?_) (fun h => ?_)) | (refine Rem.any (by omega) (fun r hr he => ?_)) | (refine Br.mk (fun h => ?_) (fun h => ?_))
   | (refine LoopW.to (ih hlt ?_) ?_ rfl)
   | (refine Ret.mk ?_))
  all_goals simp_all
 ·have : l.drop k = [] := List.drop_eq_nil_of_le (by omega)
  repeat' ((conv => whnf); first
  | refine Ya ?_ | refine Yb ?_ | refine Yc ?_ | refine Yd ?_ | refine Ye ?_ | refine Yf ?_ | refine Yg ?_ | refine Yh ?_ | refine Yi rfl ?_ | refine Yj rfl ?_ | refine Yk rfl ?_ | refine Yl rfl ?_
   | (refine Ret.mk ?_))
  simp [hp, this, firstI]
theorem s_first2 (a b : Int) : Fc E n_calendar_first [.d (.list 2 [DI a, DI b])] (I (firstI [a, b])) := s_first g [a, b] (by simp)
theorem s_first3 (a b c : Int) : Fc E n_calendar_first [.d (.list 3 [DI a, DI b, DI c])] (I (firstI [a, b, c])) := s_first g [a, b, c] (by simp)
theorem s_checkDay (n : Int) : Fc E n_calendar_checkDay [I n] (I (rng n 0 99999)) := by
 refine g.fn code_calendar_checkDay rfl ?_
 repeat' ((conv => whnf); first
 | refine Ya ?_ | refine Yb ?_ | refine Yc ?_ | refine Yd ?_ | refine Ye ?_ | refine Yf ?_ | refine Yg ?_ | refine Yh ?_ | refine Yi rfl ?_ | refine Yj rfl ?_ | refine Yk rfl ?_ | refine Yl rfl ?_
  | (refine CallI.of (s_within g _ _ _) ?_)
  | (refine Ret.mk rfl))
theorem r_CheckRange (n a b : Int) : Fc E n_ref01_CheckRange [I n, I a, I b] (I (rng n a b)) := by
 refine g.fn code_ref01_CheckRange rfl ?_
 repeat' ((conv => whnf); first
 | refine Ya ?_ | refine Yb ?_ | refine Yc ?_ | refine Yd ?_ | refine Ye ?_ | refine Yf ?_ | refine Yg ?_ | refine Yh ?_ | refine Yi rfl ?_ | refine Yj rfl ?_ | refine Yk rfl ?_ | refine Yl rfl ?_
  | (refine Cmp.mk (fun h => ?_) (fun h => ?_)) | (refine Rem.any (by omega) (fun r hr he => ?_)) | (refine Br.mk (fun h => ?_) (fun h => ?_))
  | (refine Ret.mk ?_))
 all_goals (simp only [V.d.injEq, D.int.injEq, true_and, rng]; simp_all)
theorem r_CheckDay (n : Int) : Fc E n_ref01_CheckDay [I n] (I (rng n 0 99999)) := by
 refine g.fn code_ref01_CheckDay rfl ?_
 repeat' ((conv => whnf); first
 | refine Ya ?_ | refine Yb ?_ | refine Yc ?_ | refine Yd ?_ | refine Ye ?_ | refine Yf ?_ | refine Yg ?_ | refine Yh ?_ | refine Yi rfl ?_ | refine Yj rfl ?_ | refine Yk rfl ?_ | refine Yl rfl ?_
  | (refine CallI.of (r_CheckRange g _ _ _) ?_)
  | (refine Ret.mk rfl))
theorem r_First (l : List Int) (hl : l.length ≤ 140737488355328) : Fc E n_ref01_First [LI l] (I (firstI l)) := by
 refine g.fn code_ref01_First rfl ?_
 conv => whnf
 refine LoopW.upP g (fun k => [(0, LI l), (3, I k)]) (fun _ => []) (fun k => firstI l = firstI (l.drop k)) l.length (fun k hk hp ih => ?_) 0 (Nat.zero_le _) (by simp)
 by_cases hlt : k < l.length
 ·have hd := firstI_drop l k hlt
  repeat' ((conv => whnf); first
  | refine Ya ?_ | refine Yb ?_ | refine Yc ?_ | refine Yd ?_ | refine Ye ?_ | refine Yf ?_ | refine Yg ?_ | refine Yh ?_ | refine Yi rfl ?_ | refine Yj rfl ?_ | refine Yk rfl ?_ | refine Yl rfl ?_
   | (refine Pick.int (by omega) ?_)
   | (refine Cmp.mk (fun h => ?_) (fun h => ?_)) | (refine Rem.any (by omega) (fun r hr he => ?_)) | (refine Br.mk (fun h => ?_) (fun h => ?_))
   | (refine LoopW.to (ih hlt ?_) ?_ rfl)
   | (refine Ret.mk ?_))
  all_goals simp_all
 ·have : l.drop k = [] := List.drop_eq_nil_of_le (by omega)
  repeat' ((conv => whnf); first
  | refine Ya ?_ | refine Yb ?_ | refine Yc ?_ | refine Yd ?_ | refine Ye ?_ | refine Yf ?_ | refine Yg ?_ | refine Yh ?_ | refine Yi rfl ?_ | refine Yj rfl ?_ | refine Yk rfl ?_ | refine Yl rfl ?_
   | (refine Ret.mk ?_))
  simp [hp, this, firstI]
omit g in
def chkPer (f t d : Int) : Int := if f < 0 ∨ 99999 < f ∨ t < 0 ∨ 99999 < t then 3 else if t < f then 11 else if 400 < t - f then 4 else rng d 1 127
omit g in
theorem chkPer_zero {f t d : Int} : chkPer f t d = 0 ↔ 0 ≤ f ∧ f ≤ t ∧ t ≤ 99999 ∧ t - f ≤ 400 ∧ 1 ≤ d ∧ d ≤ 127 := by
 unfold chkPer rng
 repeat' split
 all_goals omega
omit g in
theorem two_zero (f t : Int) : firstI [rng f 0 99999, rng t 0 99999] = 0 ↔ (0 ≤ f ∧ f ≤ 99999 ∧ 0 ≤ t ∧ t ≤ 99999) := by
 simp only [firstI]; unfold rng
 repeat' split
 all_goals omega
omit g in
theorem two_val (f t : Int) (h : firstI [rng f 0 99999, rng t 0 99999] ≠ 0) : firstI [rng f 0 99999, rng t 0 99999] = 3 := by
 simp only [firstI] at h ⊢; unfold rng at h ⊢
 repeat' split
 all_goals (try omega)
 all_goals simp_all
theorem s_CheckPeriod (f t d : Int) : Fc E n_calendar_CheckPeriod [Per f t d] (I (chkPer f t d)) := by
 refine g.fn code_calendar_CheckPeriod rfl ?_
 have k1 := two_zero f t
 have k2 := two_val f t
 have k3 := rng_range d 1 127
 repeat' ((conv => whnf); first
 | refine Ya ?_ | refine Yb ?_ | refine Yc ?_ | refine Yd ?_ | refine Ye ?_ | refine Yf ?_ | refine Yg ?_ | refine Yh ?_ | refine Yi rfl ?_ | refine Yj rfl ?_ | refine Yk rfl ?_ | refine Yl rfl ?_
  | (refine CallI.of (s_checkDay g _) ?_)
  | (refine CallI.of (s_first2 g _ _) ?_)
  | (refine CallI.of (s_when g _ _) ?_)
  | (refine CallI.of (s_within g _ _ _) ?_)
  | (refine CallI.of (s_first3 g _ _ _) ?_)
  | (refine Cmp.mk (fun h => ?_) (fun h => ?_)) | (refine Rem.any (by omega) (fun r hr he => ?_)) | (refine Br.mk (fun h => ?_) (fun h => ?_))
  | (refine Ret.mk ?_))
 all_goals (simp only [V.d.injEq, D.int.injEq, true_and, chkPer])
 all_goals first
  | (rw [if_pos (by omega)]; omega)
  | (simp [firstI]; repeat' split; all_goals omega)
theorem r_CheckPeriod (f t d : Int) : Fc E n_ref01_CheckPeriod [Per f t d] (I (chkPer f t d)) := by
 refine g.fn code_ref01_CheckPeriod rfl ?_
 have k1 := @rng_zero f 0 99999
 have k2 := @rng_zero t 0 99999
 repeat' ((conv => whnf); first
 | refine Ya ?_ | refine Yb ?_ | refine Yc ?_ | refine Yd ?_ | refine Ye ?_ | refine Yf ?_ | refine Yg ?_ | refine Yh ?_ | refine Yi rfl ?_ | refine Yj rfl ?_ | refine Yk rfl ?_ | refine Yl rfl ?_
  | (refine CallI.of (r_CheckDay g _) ?_)
  | (refine CallI.of (r_CheckRange g _ _ _) ?_)
  | (refine Cmp.mk (fun h => ?_) (fun h => ?_)) | (refine Rem.any (by omega) (fun r hr he => ?_)) | (refine Br.mk (fun h => ?_) (fun h => ?_))
  | (refine Ret.mk ?_))
 all_goals (simp only [V.d.injEq, D.int.injEq, true_and, chkPer])
 all_goals (repeat' split)
 all_goals first
  | rfl
  | omega
omit g in
def inM (m w : Int) : Bool := decide (m / 2 ^ w.toNat % 2 = 1)
end
end Go.Proofs.YtlnlcdnpgjhaaaaGreatDoor.Co
/-
 The laws' parameters, as data.
-/
namespace Go.Proofs.YtlnlcdnpgjhaaaaGreatDoor.Co
open Go Go.Evl
set_option maxRecDepth 100000
def i64 (n : Int) : Prop := -9223372036854775808 ≤ n ∧ n ≤ 9223372036854775807
theorem wf_i64 {n : Int} (h : (Lit.int .i64 n).wf = true) : i64 n := by
 simp only [Lit.wf, Bool.and_eq_true, decide_eq_true_eq] at h
 exact h
section
variable {P : Program} {n : Nat} {t : Nat} {ds : List D} {x : D}
theorem fit_i {k : IntKind} (ht : P.underlying t = some (.int k)) (h : fit P (n + 1) t ds) : ∃ i, ds = [.int k i] ∧ (Lit.int k i).wf = true := by
 simp only [fit, ht] at h; exact h
theorem fit_b (ht : P.underlying t = some .bool) (h : fit P (n + 1) t ds) : ∃ b, ds = [.bool b] := by
 simp only [fit, ht] at h; exact h
theorem fit_s (ht : P.underlying t = some .string) (h : fit P (n + 1) t ds) : ∃ s, ds = [.str s] ∧ s.length ≤ maxLen := by
 simp only [fit, ht] at h; exact h
theorem fit_l {e : Nat} (ht : P.underlying t = some (.slice e)) (h : fit P (n + 1) t ds) : ∃ m cs, ds = [.list m cs] ∧ m ≤ maxLen ∧ fitAll (fit P n) (List.replicate m e) cs := by
 simp only [fit, ht] at h; exact h
theorem fit_st {fs : Array Field} (ht : P.underlying t = some (.struct fs)) (h : fit P (n + 1) t ds) : fitAll (fit P n) (fs.toList.map (·.type)) ds := by
 simp only [fit, ht] at h; exact h
theorem arg_i {k : IntKind} (ht : P.underlying t = some (.int k)) (h : fitArg P t x) : ∃ i, x = .int k i ∧ (Lit.int k i).wf = true := by
 simp only [fitArg, ht] at h
 obtain ⟨i, e, hw⟩ := fit_i (n := 7) ht h
 exact ⟨i, by simpa using e, hw⟩
theorem arg_l {e : Nat} (ht : P.underlying t = some (.slice e)) (h : fitArg P t x) : ∃ m cs, x = .list m cs ∧ m ≤ maxLen ∧ fitAll (fit P 7) (List.replicate m e) cs := by
 simp only [fitArg, ht] at h
 obtain ⟨m, cs, e, h1, h2⟩ := fit_l (n := 7) ht h
 exact ⟨m, cs, by simpa using e, h1, h2⟩
theorem arg_st {fs : Array Field} (ht : P.underlying t = some (.struct fs)) (h : fitArg P t x) : ∃ ds, x = .agg ds ∧ fitAll (fit P 7) (fs.toList.map (·.type)) ds := by
 simp only [fitArg, ht] at h
 obtain ⟨ds, rfl, h⟩ := h
 exact ⟨ds, rfl, fit_st ht h⟩
end
theorem fit_int {k : Nat} {ds : List D} (h : fit Tryz.prog (k + 1) 3 ds) : ∃ n, ds = [DI n] ∧ i64 n := by
 obtain ⟨n, rfl, hw⟩ := fit_i Tryz.underlying3 h
 exact ⟨n, rfl, wf_i64 hw⟩
theorem args3 {P : Program} {t u v : Nat} {xs : List D} (h : fitArgs P [t, u, v] xs) : ∃ x y z, xs = [x, y, z] ∧ fitArg P t x ∧ fitArg P u y ∧ fitArg P v z := by
 obtain ⟨x, _, rfl, h1, y, _, rfl, h2, z, _, rfl, h3, rfl⟩ := h
 exact ⟨x, y, z, rfl, h1, h2, h3⟩
end Go.Proofs.YtlnlcdnpgjhaaaaGreatDoor.Co
/-
 Names: what both IsName give.
-/
namespace Go.Proofs.YtlnlcdnpgjhaaaaGreatDoor.Co
open Go Go.Evl
theorem PickB.at {s : List UInt8} {i : Nat} {K : UInt8 → Prop} (k : Nat) (hi : i = k) (h : k < s.length) (hk : K (s.getD k 0)) : PickB s i K := by
 subst hi
 exact ⟨⟨_, by simp [List.getD, h], hk⟩⟩
theorem NextW.asc {s : List UInt8} {k : Nat} {a : Int → Nat → Prop} {b : Prop} (h : k < s.length) (ha : (s.getD k 0).toNat < 128) (hk : a (s.getD k 0).toNat 1) : NextW s k a b := by
 refine ⟨fun _ => ?_, fun hn => absurd h hn⟩
 have e : (s.getD k 0) = s[k] := by simp [List.getD, h]
 have hd := decode_ascii ⟨s.toArray⟩ k (by simpa [ByteArray.size] using h) (by rw [e] at ha; exact ha)
 rw [hd]
 rw [e] at hk
 exact hk
theorem NextW.high {s : List UInt8} {k : Nat} {a : Int → Nat → Prop} {b : Prop} (h : k < s.length) (ha : 128 ≤ (s.getD k 0).toNat) (hk : ∀ (c : Int) (w : Nat), 128 ≤ c → 1 ≤ w → a c w) : NextW s k a b := by
 refine ⟨fun _ => ?_, fun hn => absurd h hn⟩
 have e : (s.getD k 0) = s[k] := by simp [List.getD, h]
 have hd := decode_high ⟨s.toArray⟩ k (by simpa [ByteArray.size] using h) (by rw [e] at ha; exact ha)
 exact hk _ _ (by omega) hd.2
theorem NextW.end' {s : List UInt8} {k : Nat} {a : Int → Nat → Prop} {b : Prop} (h : s.length ≤ k) (hk : b) : NextW s k a b := ⟨fun hn => absurd hn (by omega), fun _ => hk⟩
def okCh (k : Nat) (b : UInt8) : Prop := (65 ≤ b.toNat ∧ b.toNat ≤ 90) ∨ (97 ≤ b.toNat ∧ b.toNat ≤ 122) ∨ (0 < k ∧ (b.toNat = 95 ∨ (48 ≤ b.toNat ∧ b.toNat ≤ 57)))
instance (k : Nat) (b : UInt8) : Decidable (okCh k b) := by unfold okCh; infer_instance
def nameP (s : List UInt8) : Prop := 0 < s.length ∧ s.length ≤ 24 ∧ ∀ i, i < s.length → okCh i (s.getD i 0)
instance (s : List UInt8) : Decidable (nameP s) := by unfold nameP; infer_instance
def isNameB (s : List UInt8) : Bool := decide (nameP s)
theorem isName_no {s : List UInt8} {k : Nat} (hk : k < s.length) (h : ¬ okCh k (s.getD k 0)) : isNameB s = false := decide_eq_false fun hn => h (hn.2.2 k hk)
section
variable {E : Oracle} (g : Good E)
include g
theorem s_IsName (s : List UInt8) : Fc E n_calendar_IsName [S s] (B (isNameB s)) := by
 refine g.fn code_calendar_IsName rfl ?_
 by_cases h0 : 0 < s.length ∧ s.length ≤ 24
 ·repeat' ((conv => whnf); first
 | refine Ya ?_ | refine Yb ?_ | refine Yc ?_ | refine Yd ?_ | refine Ye ?_ | refine Yf ?_ | refine Yg ?_ | refine Yh ?_ | refine Yi rfl ?_ | refine Yj rfl ?_ | refine Yk rfl ?_ | refine Yl rfl ?_)
  refine LoopW.to (LoopW.upP g (fun _ => [(15, .it ⟨0, 15, 0⟩)]) (fun k => [(⟨0, 15, 0⟩, .iter s k)]) (fun k => ∀ i, i < k → okCh i (s.getD i 0)) s.length (fun k hk hp ih => ?_) 0 (Nat.zero_le _) (fun i hi => by omega)) rfl rfl
  by_cases hlt : k < s.length
  ·by_cases ha : (s.getD k 0).toNat < 128
   ·by_cases hok : okCh k (s.getD k 0)
    ·have hp' : ∀ i, i < k + 1 → okCh i (s.getD i 0) := fun i hi => by
      by_cases e : i = k
      ·subst e; exact hok
      ·exact hp i (by omega)
     have ih := ih hlt hp'
     unfold okCh at hok
     repeat' ((conv => whnf); first
     | refine Ya ?_ | refine Yb ?_ | refine Yc ?_ | refine Yd ?_ | refine Ye ?_ | refine Yf ?_ | refine Yg ?_ | refine Yh ?_ | refine Yi rfl ?_ | refine Yj rfl ?_ | refine Yk rfl ?_ | refine Yl rfl ?_
      | (refine NextW.asc hlt ha ?_)
      | (refine Cmp.mk (fun h => ?_) (fun h => ?_)) | (refine Rem.any (by omega) (fun r hr he => ?_)) | (refine Br.mk (fun h => ?_) (fun h => ?_))
      | (refine LoopW.to ih rfl rfl)
      | (exfalso; omega))
    ·have hno := isName_no hlt hok
     unfold okCh at hok
     rw [hno]
     repeat' ((conv => whnf); first
     | refine Ya ?_ | refine Yb ?_ | refine Yc ?_ | refine Yd ?_ | refine Ye ?_ | refine Yf ?_ | refine Yg ?_ | refine Yh ?_ | refine Yi rfl ?_ | refine Yj rfl ?_ | refine Yk rfl ?_ | refine Yl rfl ?_
      | (refine NextW.asc hlt ha ?_)
      | (refine Cmp.mk (fun h => ?_) (fun h => ?_)) | (refine Rem.any (by omega) (fun r hr he => ?_)) | (refine Br.mk (fun h => ?_) (fun h => ?_))
      | (refine Ret.mk rfl)
      | (exfalso; omega))
   ·have hno : isNameB s = false := isName_no hlt (by unfold okCh; omega)
    rw [hno]
    repeat' ((conv => whnf); first
    | refine Ya ?_ | refine Yb ?_ | refine Yc ?_ | refine Yd ?_ | refine Ye ?_ | refine Yf ?_ | refine Yg ?_ | refine Yh ?_ | refine Yi rfl ?_ | refine Yj rfl ?_ | refine Yk rfl ?_ | refine Yl rfl ?_
     | (refine NextW.high hlt (by omega) (fun c w hc hw => ?_))
     | (refine Cmp.mk (fun h => ?_) (fun h => ?_)) | (refine Rem.any (by omega) (fun r hr he => ?_)) | (refine Br.mk (fun h => ?_) (fun h => ?_))
     | (refine Ret.mk rfl)
     | (exfalso; omega))
  ·have hk' : k = s.length := by omega
   subst hk'
   have hyes : isNameB s = true := decide_eq_true ⟨h0.1, h0.2, hp⟩
   rw [hyes]
   repeat' ((conv => whnf); first
   | refine Ya ?_ | refine Yb ?_ | refine Yc ?_ | refine Yd ?_ | refine Ye ?_ | refine Yf ?_ | refine Yg ?_ | refine Yh ?_ | refine Yi rfl ?_ | refine Yj rfl ?_ | refine Yk rfl ?_ | refine Yl rfl ?_
    | (refine NextW.end' (Nat.le_refl _) ?_)
    | (refine Ret.mk rfl))
 ·have hno : isNameB s = false := decide_eq_false fun hn => h0 ⟨hn.1, hn.2.1⟩
  rw [hno]
  repeat' ((conv => whnf); first
  | refine Ya ?_ | refine Yb ?_ | refine Yc ?_ | refine Yd ?_ | refine Ye ?_ | refine Yf ?_ | refine Yg ?_ | refine Yh ?_ | refine Yi rfl ?_ | refine Yj rfl ?_ | refine Yk rfl ?_ | refine Yl rfl ?_
   | (refine Cmp.mk (fun h => ?_) (fun h => ?_)) | (refine Rem.any (by omega) (fun r hr he => ?_)) | (refine Br.mk (fun h => ?_) (fun h => ?_))
   | (refine Ret.mk rfl)
   | (exfalso; omega))
theorem r_IsName (s : List UInt8) : Fc E n_ref01_IsName [S s] (B (isNameB s)) := by
 refine g.fn code_ref01_IsName rfl ?_
 by_cases h0 : 0 < s.length ∧ s.length ≤ 24
 ·repeat' ((conv => whnf); first
 | refine Ya ?_ | refine Yb ?_ | refine Yc ?_ | refine Yd ?_ | refine Ye ?_ | refine Yf ?_ | refine Yg ?_ | refine Yh ?_ | refine Yi rfl ?_ | refine Yj rfl ?_ | refine Yk rfl ?_ | refine Yl rfl ?_)
  refine LoopW.to (LoopW.upP g (fun k => [(0, S s), (3, I k)]) (fun _ => []) (fun k => ∀ i, i < k → okCh i (s.getD i 0)) s.length (fun k hk hp ih => ?_) 0 (Nat.zero_le _) (fun i hi => by omega)) rfl rfl
  by_cases hlt : k < s.length
  ·by_cases hok : okCh k (s.getD k 0)
   ·have hp' : ∀ i, i < k + 1 → okCh i (s.getD i 0) := fun i hi => by
     by_cases e : i = k
     ·subst e; exact hok
     ·exact hp i (by omega)
    have ih := ih hlt hp'
    unfold okCh at hok
    repeat' ((conv => whnf); first
    | refine Ya ?_ | refine Yb ?_ | refine Yc ?_ | refine Yd ?_ | refine Ye ?_ | refine Yf ?_ | refine Yg ?_ | refine Yh ?_ | refine Yi rfl ?_ | refine Yj rfl ?_ | refine Yk rfl ?_ | refine Yl rfl ?_
     | (refine PickB.at k (by omega) hlt ?_)
     | (refine Cmp.mk (fun h => ?_) (fun h => ?_)) | (refine Rem.any (by omega) (fun r hr he => ?_)) | (refine Br.mk (fun h => ?_) (fun h => ?_))
     | (refine LoopW.to ih rfl rfl)
     | (exfalso; omega))
   ·have hno := isName_no hlt hok
    unfold okCh at hok
    rw [hno]
    repeat' ((conv => whnf); first
    | refine Ya ?_ | refine Yb ?_ | refine Yc ?_ | refine Yd ?_ | refine Ye ?_ | refine Yf ?_ | refine Yg ?_ | refine Yh ?_ | refine Yi rfl ?_ | refine Yj rfl ?_ | refine Yk rfl ?_ | refine Yl rfl ?_
     | (refine PickB.at k (by omega) hlt ?_)
     | (refine Cmp.mk (fun h => ?_) (fun h => ?_)) | (refine Rem.any (by omega) (fun r hr he => ?_)) | (refine Br.mk (fun h => ?_) (fun h => ?_))
     | (refine Ret.mk rfl)
     | (exfalso; omega))
  ·have hk' : k = s.length := by omega
   subst hk'
   have hyes : isNameB s = true := decide_eq_true ⟨h0.1, h0.2, hp⟩
   rw [hyes]
   repeat' ((conv => whnf); first
   | refine Ya ?_ | refine Yb ?_ | refine Yc ?_ | refine Yd ?_ | refine Ye ?_ | refine Yf ?_ | refine Yg ?_ | refine Yh ?_ | refine Yi rfl ?_ | refine Yj rfl ?_ | refine Yk rfl ?_ | refine Yl rfl ?_
    | (refine Ret.mk rfl))
 ·have hno : isNameB s = false := decide_eq_false fun hn => h0 ⟨hn.1, hn.2.1⟩
  rw [hno]
  repeat' ((conv => whnf); first
  | refine Ya ?_ | refine Yb ?_ | refine Yc ?_ | refine Yd ?_ | refine Ye ?_ | refine Yf ?_ | refine Yg ?_ | refine Yh ?_ | refine Yi rfl ?_ | refine Yj rfl ?_ | refine Yk rfl ?_ | refine Yl rfl ?_
   | (refine Cmp.mk (fun h => ?_) (fun h => ?_)) | (refine Rem.any (by omega) (fun r hr he => ?_)) | (refine Br.mk (fun h => ?_) (fun h => ?_))
   | (refine Ret.mk rfl)
   | (exfalso; omega))
end
end Go.Proofs.YtlnlcdnpgjhaaaaGreatDoor.Co
/-
 Digits: their bytes, numbers in so many digits; bytes that are added and taken away.
-/
namespace Go.Proofs.YtlnlcdnpgjhaaaaGreatDoor.Co
open Go Go.Evl
end Go.Proofs.YtlnlcdnpgjhaaaaGreatDoor.Co
/-
 Messages: numbers of so many digits and minutes, printed and read.
-/
namespace Go.Proofs.YtlnlcdnpgjhaaaaGreatDoor.Co
open Go Go.Evl
section
variable {E : Oracle} (g : Good E)
include g
theorem s_mwhen (b : Bool) (e : Int) : Fc E n_message_when [B b, I e] (I (if b then e else 0)) := by
 refine g.fn code_message_when rfl ?_
 cases b <;> repeat' ((conv => whnf); first
 | refine Ya ?_ | refine Yb ?_ | refine Yc ?_ | refine Yd ?_ | refine Ye ?_ | refine Yf ?_ | refine Yg ?_ | refine Yh ?_ | refine Yi rfl ?_ | refine Yj rfl ?_ | refine Yk rfl ?_ | refine Yl rfl ?_
  | (refine Ret.mk rfl))
theorem s_mwithin (n a b : Int) : Fc E n_message_within [I n, I a, I b] (I (rng n a b)) := by
 refine g.fn code_message_within rfl ?_
 have hw : ∀ c, Fc E n_message_when [B c, I 3] (I (if c then 3 else 0)) := fun c => s_mwhen g c 3
 unfold rng
 by_cases h1 : n < a
 ·rw [if_pos (.inl h1)]
  repeat' ((conv => whnf); first
  | refine Ya ?_ | refine Yb ?_ | refine Yc ?_ | refine Yd ?_ | refine Ye ?_ | refine Yf ?_ | refine Yg ?_ | refine Yh ?_ | refine Yi rfl ?_ | refine Yj rfl ?_ | refine Yk rfl ?_ | refine Yl rfl ?_
   | (refine CallI.of (hw _) ?_)
   | (refine Ret.mk rfl))
 ·by_cases h2 : b < n
  ·rw [if_pos (.inr h2)]
   repeat' ((conv => whnf); first
   | refine Ya ?_ | refine Yb ?_ | refine Yc ?_ | refine Yd ?_ | refine Ye ?_ | refine Yf ?_ | refine Yg ?_ | refine Yh ?_ | refine Yi rfl ?_ | refine Yj rfl ?_ | refine Yk rfl ?_ | refine Yl rfl ?_
    | (refine CallI.of (hw _) ?_)
    | (refine Ret.mk rfl))
  ·rw [if_neg (by omega)]
   repeat' ((conv => whnf); first
   | refine Ya ?_ | refine Yb ?_ | refine Yc ?_ | refine Yd ?_ | refine Ye ?_ | refine Yf ?_ | refine Yg ?_ | refine Yh ?_ | refine Yi rfl ?_ | refine Yj rfl ?_ | refine Yk rfl ?_ | refine Yl rfl ?_
    | (refine CallI.of (hw _) ?_)
    | (refine Ret.mk rfl))
end
end Go.Proofs.YtlnlcdnpgjhaaaaGreatDoor.Co
/-
 Is a weekday in a mask? Calls whose results live in the caller's memory.
-/
namespace Go.Proofs.YtlnlcdnpgjhaaaaGreatDoor.Co
open Go Go.Evl
theorem and_one : ∀ (m : Fin 128) (w : Fin 7), IntKind.i64.wrap ((BitVec.ofInt IntKind.i64.bits ((m.val : Int).fdiv (2 ^ (min (w.val : Int).toNat IntKind.i64.bits))) &&& BitVec.ofInt IntKind.i64.bits 1).toNat) = (m.val : Int) / 2 ^ (w.val : Int).toNat % 2 := by decide +kernel
theorem CallS.of {E : Oracle} {f : Nat} {args : List V} {cx : Cx} {slot : Nat} {m : Mem} {K : V → Mem → Prop} (h : In E 0 f args [] fun v m' => Some' (Go.Evl.settle cx slot 0 m m' v) fun p => K p.1 p.2) : CallS E f args cx slot m K := by
 obtain ⟨v, m', h1, p, h2, h3⟩ := h
 exact ⟨v, m', p, h1, h2, h3⟩
section
variable {E : Oracle} (g : Good E)
include g
theorem s_inMask (m w : Int) (hm : 0 ≤ m ∧ m ≤ 127) (hw : 0 ≤ w ∧ w ≤ 6) : Fc E n_calendar_inMask [I m, I w] (B (inM m w)) := by
 refine g.fn code_calendar_inMask rfl ?_
 have h := and_one ⟨m.toNat, by omega⟩ ⟨w.toNat, by omega⟩
 simp only [Int.toNat_of_nonneg hm.1, Int.toNat_of_nonneg hw.1] at h
 unfold inM
 by_cases hc : m / 2 ^ w.toNat % 2 = 1
 ·repeat' ((conv => whnf); first
 | refine Ya ?_ | refine Yb ?_ | refine Yc ?_ | refine Yd ?_ | refine Ye ?_ | refine Yf ?_ | refine Yg ?_ | refine Yh ?_ | refine Yi rfl ?_ | refine Yj rfl ?_ | refine Yk rfl ?_ | refine Yl rfl ?_
   | (refine Cmp.tt (h.trans hc) ?_)
   | (refine Ret.mk ?_))
  simp [hc]
 ·repeat' ((conv => whnf); first
 | refine Ya ?_ | refine Yb ?_ | refine Yc ?_ | refine Yd ?_ | refine Ye ?_ | refine Yf ?_ | refine Yg ?_ | refine Yh ?_ | refine Yi rfl ?_ | refine Yj rfl ?_ | refine Yk rfl ?_ | refine Yl rfl ?_
   | (refine Cmp.ff (fun e => hc (h.symm.trans e)) ?_)
   | (refine Ret.mk ?_))
  simp [hc]
end
end Go.Proofs.YtlnlcdnpgjhaaaaGreatDoor.Co
/-
 Messages: requests and lines, checked.
-/
namespace Go.Proofs.YtlnlcdnpgjhaaaaGreatDoor.Co
open Go Go.Evl
structure Rqt where
 (nm ca ki te pa li : List UInt8)
 (fr to da mi se si no : Int)
 deriving DecidableEq
def Rqt.cells (q : Rqt) : List D := [.str q.nm, .str q.ca, .str q.ki, .str q.te, .str q.pa, .str q.li, DI q.fr, DI q.to, DI q.da, DI q.mi, DI q.se, DI q.si, DI q.no]
structure Lnt where
 ac : List UInt8
 rq : Rqt
def Lnt.cells (l : Lnt) : List D := .str l.ac :: l.rq.cells
theorem Lnt.cells_length (l : Lnt) : l.cells.length = 14 := rfl
theorem Rqt.cells_length (q : Rqt) : q.cells.length = 13 := rfl
abbrev Rqv (q : Rqt) : V := .d (.agg q.cells)
def nmE (s : List UInt8) : Int := if (!isNameB s) = true then 8 else 0
def optB (s : List UInt8) : Bool := decide (s = []) || isNameB s
def opE (s : List UInt8) : Int := if (!optB s) = true then 8 else 0
def kindB (s : List UInt8) : Bool := decide (s = [65]) || decide (s = [68])
def chkRq (q : Rqt) : Int := firstI [nmE q.nm, nmE q.ca, nmE q.pa, opE q.te, opE q.li, if (!kindB q.ki) = true then 13 else 0, if q.li = q.nm then 32 else 0, chkPer q.fr q.to q.da, rng q.mi 0 1439, rng q.se 0 999, rng q.si 1 9, rng q.no 0 99]
section
variable {E : Oracle} (g : Good E)
include g
set_option maxRecDepth 100000
theorem s_mfirst (l : List Int) (hl : l.length ≤ 140737488355328) : Fc E n_message_first [LI l] (I (firstI l)) := by
 refine g.fn code_message_first rfl ?_
 conv => whnf
 refine LoopW.upP g (fun k => [(5, LI l), (6, I l.length), (7, I k)]) (fun _ => []) (fun k => firstI l = firstI (l.drop k)) l.length (fun k hk hp ih => ?_) 0 (Nat.zero_le _) (by simp)
 by_cases hlt : k < l.length
 ·have hd := firstI_drop l k hlt
  repeat' ((conv => whnf); first
  | refine Ya ?_ | refine Yb ?_ | refine Yc ?_ | refine Yd ?_ | refine Ye ?_ | refine Yf ?_ | refine Yg ?_ | refine Yh ?_ | refine Yi rfl ?_ | refine Yj rfl ?_ | refine Yk rfl ?_ | refine Yl rfl ?_
   | (refine Pick.int (by omega) ?_)
   | (refine Cmp.mk (fun h => ?_) (fun h => ?_)) | (refine Rem.any (by omega) (fun r hr he => ?_)) | (refine Br.mk (fun h => ?_) (fun h => ?_))
   | (refine LoopW.to (ih hlt ?_) ?_ rfl)
   | (refine Ret.mk ?_))
  all_goals simp_all
 ·have : l.drop k = [] := List.drop_eq_nil_of_le (by omega)
  repeat' ((conv => whnf); first
  | refine Ya ?_ | refine Yb ?_ | refine Yc ?_ | refine Yd ?_ | refine Ye ?_ | refine Yf ?_ | refine Yg ?_ | refine Yh ?_ | refine Yi rfl ?_ | refine Yj rfl ?_ | refine Yk rfl ?_ | refine Yl rfl ?_
   | (refine Ret.mk ?_))
  simp [hp, this, firstI]
theorem s_mfirst12 (a b c d e f h i j k l m : Int) : Fc E n_message_first [.d (.list 12 [DI a, DI b, DI c, DI d, DI e, DI f, DI h, DI i, DI j, DI k, DI l, DI m])] (I (firstI [a, b, c, d, e, f, h, i, j, k, l, m])) := s_mfirst g [a, b, c, d, e, f, h, i, j, k, l, m] (by simp)
theorem r_First4 (a b c d : Int) : Fc E n_ref01_First [.d (.list 4 [DI a, DI b, DI c, DI d])] (I (firstI [a, b, c, d])) := r_First g [a, b, c, d] (by simp)
theorem r_First2 (a b : Int) : Fc E n_ref01_First [.d (.list 2 [DI a, DI b])] (I (firstI [a, b])) := r_First g [a, b] (by simp)
theorem s_named (s : List UInt8) : Fc E n_message_named [S s] (I (nmE s)) := by
 refine g.fn code_message_named rfl ?_
 have h := s_IsName g s
 repeat' ((conv => whnf); first
 | refine Ya ?_ | refine Yb ?_ | refine Yc ?_ | refine Yd ?_ | refine Ye ?_ | refine Yf ?_ | refine Yg ?_ | refine Yh ?_ | refine Yi rfl ?_ | refine Yj rfl ?_ | refine Yk rfl ?_ | refine Yl rfl ?_
  | (apply CallI.of; assumption)
  | (refine CallI.of (s_mwhen g _ _) ?_)
  | (refine Ret.mk rfl))
theorem s_moptional (s : List UInt8) : Fc E n_message_optional [S s] (I (opE s)) := by
 refine g.fn code_message_optional rfl ?_
 have h := s_IsName g s
 unfold opE optB
 by_cases he : s = []
 ·subst he
  repeat' ((conv => whnf); first
  | refine Ya ?_ | refine Yb ?_ | refine Yc ?_ | refine Yd ?_ | refine Ye ?_ | refine Yf ?_ | refine Yg ?_ | refine Yh ?_ | refine Yi rfl ?_ | refine Yj rfl ?_ | refine Yk rfl ?_ | refine Yl rfl ?_
   | (refine CallI.of (s_mwhen g _ _) ?_)
   | (refine Ret.mk rfl))
 ·rw [decide_eq_false he]
  repeat' ((conv => whnf); first
  | refine Ya ?_ | refine Yb ?_ | refine Yc ?_ | refine Yd ?_ | refine Ye ?_ | refine Yf ?_ | refine Yg ?_ | refine Yh ?_ | refine Yi rfl ?_ | refine Yj rfl ?_ | refine Yk rfl ?_ | refine Yl rfl ?_
   | (apply CallI.of; assumption)
   | (refine Cmp.ff he ?_)
   | (refine CallI.of (s_mwhen g _ _) ?_)
   | (refine Ret.mk rfl))
theorem r_optional (s : List UInt8) : Fc E n_ref02_optional [S s] (B (optB s)) := by
 refine g.fn code_ref02_optional rfl ?_
 have h := r_IsName g s
 unfold optB
 by_cases he : s = []
 ·subst he
  repeat' ((conv => whnf); first
  | refine Ya ?_ | refine Yb ?_ | refine Yc ?_ | refine Yd ?_ | refine Ye ?_ | refine Yf ?_ | refine Yg ?_ | refine Yh ?_ | refine Yi rfl ?_ | refine Yj rfl ?_ | refine Yk rfl ?_ | refine Yl rfl ?_
   | (refine Ret.mk rfl))
 ·rw [decide_eq_false he]
  repeat' ((conv => whnf); first
  | refine Ya ?_ | refine Yb ?_ | refine Yc ?_ | refine Yd ?_ | refine Ye ?_ | refine Yf ?_ | refine Yg ?_ | refine Yh ?_ | refine Yi rfl ?_ | refine Yj rfl ?_ | refine Yk rfl ?_ | refine Yl rfl ?_
   | (apply CallI.of; assumption)
   | (refine Cmp.ff he ?_)
   | (refine Ret.mk rfl))
theorem s_isKind (s : List UInt8) : Fc E n_message_isKind [S s] (B (kindB s)) := by
 refine g.fn code_message_isKind rfl ?_
 unfold kindB
 by_cases he : s = [65]
 ·subst he
  repeat' ((conv => whnf); first
  | refine Ya ?_ | refine Yb ?_ | refine Yc ?_ | refine Yd ?_ | refine Ye ?_ | refine Yf ?_ | refine Yg ?_ | refine Yh ?_ | refine Yi rfl ?_ | refine Yj rfl ?_ | refine Yk rfl ?_ | refine Yl rfl ?_
   | (refine Ret.mk rfl))
 ·rw [decide_eq_false he]
  by_cases hd : s = [68]
  ·subst hd
   repeat' ((conv => whnf); first
   | refine Ya ?_ | refine Yb ?_ | refine Yc ?_ | refine Yd ?_ | refine Ye ?_ | refine Yf ?_ | refine Yg ?_ | refine Yh ?_ | refine Yi rfl ?_ | refine Yj rfl ?_ | refine Yk rfl ?_ | refine Yl rfl ?_
    | (refine Ret.mk rfl))
  ·rw [decide_eq_false hd]
   repeat' ((conv => whnf); first
   | refine Ya ?_ | refine Yb ?_ | refine Yc ?_ | refine Yd ?_ | refine Ye ?_ | refine Yf ?_ | refine Yg ?_ | refine Yh ?_ | refine Yi rfl ?_ | refine Yj rfl ?_ | refine Yk rfl ?_ | refine Yl rfl ?_
    | (refine Cmp.ff he ?_)
    | (refine Cmp.ff hd ?_)
    | (refine Ret.mk rfl))
set_option maxHeartbeats 4000000 in
theorem s_CheckRequest (q : Rqt) : Fc E n_message_CheckRequest [Rqv q] (I (chkRq q)) := by
 refine g.fn code_message_CheckRequest rfl ?_
 have h1 := s_named g
 have h2 := s_moptional g
 have h3 := s_isKind g q.ki
 have h4 := s_CheckPeriod g q.fr q.to q.da
 have h5 := s_mwithin g
 have h6 := s_mwhen g
 unfold chkRq
 by_cases hl : q.li = q.nm
 all_goals first | rw [if_pos hl] | rw [if_neg hl]
 all_goals repeat' ((conv => whnf); first
 | refine Ya ?_ | refine Yb ?_ | refine Yc ?_ | refine Yd ?_ | refine Ye ?_ | refine Yf ?_ | refine Yg ?_ | refine Yh ?_ | refine Yi rfl ?_ | refine Yj rfl ?_ | refine Yk rfl ?_ | refine Yl rfl ?_
  | (refine CallI.of (h1 _) ?_)
  | (refine CallI.of (h2 _) ?_)
  | (refine CallI.of h3 ?_)
  | (refine CallI.of h4 ?_)
  | (refine CallI.of (h5 _ _ _) ?_)
  | (refine CallI.of (h6 _ _) ?_)
  | (refine Cmp.tt hl ?_)
  | (refine Cmp.ff hl ?_)
  | (refine CallI.of (s_mfirst12 g _ _ _ _ _ _ _ _ _ _ _ _) ?_)
  | (refine Ret.mk rfl))
set_option maxHeartbeats 8000000 in
theorem r_CheckRequest (q : Rqt) : Fc E n_ref02_CheckRequest [Rqv q] (I (chkRq q)) := by
 refine g.fn code_ref02_CheckRequest rfl ?_
 have n1 := r_IsName g q.nm
 have n2 := r_IsName g q.ca
 have n3 := r_IsName g q.pa
 have n4 := r_optional g q.te
 have n5 := r_optional g q.li
 have hp := r_CheckPeriod g q.fr q.to q.da
 have hr := r_CheckRange g
 unfold chkRq nmE opE
 generalize isNameB q.nm = b1 at *
 generalize isNameB q.ca = b2 at *
 generalize isNameB q.pa = b3 at *
 generalize optB q.te = b4 at *
 generalize optB q.li = b5 at *
 generalize chkPer q.fr q.to q.da = cp at *
 cases b1
 ·repeat' ((conv => whnf); first
 | refine Ya ?_ | refine Yb ?_ | refine Yc ?_ | refine Yd ?_ | refine Ye ?_ | refine Yf ?_ | refine Yg ?_ | refine Yh ?_ | refine Yi rfl ?_ | refine Yj rfl ?_ | refine Yk rfl ?_ | refine Yl rfl ?_
   | (apply CallI.of; assumption)
   | (refine Cmp.tt (by assumption) ?_)
   | (refine Cmp.ff (by assumption) ?_)
   | (refine CallI.of (hr _ _ _) ?_)
   | (refine CallI.of (r_First4 g _ _ _ _) ?_)
   | (refine Ret.mk ?_))
  rfl
 ·
  cases b2
  ·repeat' ((conv => whnf); first
  | refine Ya ?_ | refine Yb ?_ | refine Yc ?_ | refine Yd ?_ | refine Ye ?_ | refine Yf ?_ | refine Yg ?_ | refine Yh ?_ | refine Yi rfl ?_ | refine Yj rfl ?_ | refine Yk rfl ?_ | refine Yl rfl ?_
    | (apply CallI.of; assumption)
    | (refine Cmp.tt (by assumption) ?_)
    | (refine Cmp.ff (by assumption) ?_)
    | (refine CallI.of (hr _ _ _) ?_)
    | (refine CallI.of (r_First4 g _ _ _ _) ?_)
    | (refine Ret.mk ?_))
   rfl
  ·
   cases b3
   ·repeat' ((conv => whnf); first
   | refine Ya ?_ | refine Yb ?_ | refine Yc ?_ | refine Yd ?_ | refine Ye ?_ | refine Yf ?_ | refine Yg ?_ | refine Yh ?_ | refine Yi rfl ?_ | refine Yj rfl ?_ | refine Yk rfl ?_ | refine Yl rfl ?_
     | (apply CallI.of; assumption)
     | (refine Cmp.tt (by assumption) ?_)
     | (refine Cmp.ff (by assumption) ?_)
     | (refine CallI.of (hr _ _ _) ?_)
     | (refine CallI.of (r_First4 g _ _ _ _) ?_)
     | (refine Ret.mk ?_))
    rfl
   ·
    cases b4
    ·repeat' ((conv => whnf); first
    | refine Ya ?_ | refine Yb ?_ | refine Yc ?_ | refine Yd ?_ | refine Ye ?_ | refine Yf ?_ | refine Yg ?_ | refine Yh ?_ | refine Yi rfl ?_ | refine Yj rfl ?_ | refine Yk rfl ?_ | refine Yl rfl ?_
      | (apply CallI.of; assumption)
      | (refine Cmp.tt (by assumption) ?_)
      | (refine Cmp.ff (by assumption) ?_)
      | (refine CallI.of (hr _ _ _) ?_)
      | (refine CallI.of (r_First4 g _ _ _ _) ?_)
      | (refine Ret.mk ?_))
     rfl
    ·
     cases b5
     ·repeat' ((conv => whnf); first
     | refine Ya ?_ | refine Yb ?_ | refine Yc ?_ | refine Yd ?_ | refine Ye ?_ | refine Yf ?_ | refine Yg ?_ | refine Yh ?_ | refine Yi rfl ?_ | refine Yj rfl ?_ | refine Yk rfl ?_ | refine Yl rfl ?_
       | (apply CallI.of; assumption)
       | (refine Cmp.tt (by assumption) ?_)
       | (refine Cmp.ff (by assumption) ?_)
       | (refine CallI.of (hr _ _ _) ?_)
       | (refine CallI.of (r_First4 g _ _ _ _) ?_)
       | (refine Ret.mk ?_))
      rfl
     ·
      unfold kindB
      by_cases ka : q.ki = [65]
      all_goals by_cases kd : q.ki = [68]
      all_goals by_cases hl : q.li = q.nm
      all_goals by_cases hc : cp = 0
      all_goals repeat' ((conv => whnf); first
      | refine Ya ?_ | refine Yb ?_ | refine Yc ?_ | refine Yd ?_ | refine Ye ?_ | refine Yf ?_ | refine Yg ?_ | refine Yh ?_ | refine Yi rfl ?_ | refine Yj rfl ?_ | refine Yk rfl ?_ | refine Yl rfl ?_
       | (apply CallI.of; assumption)
       | (refine Cmp.tt (by assumption) ?_)
       | (refine Cmp.ff (by assumption) ?_)
       | (refine CallI.of (hr _ _ _) ?_)
       | (refine CallI.of (r_First4 g _ _ _ _) ?_)
       | (refine Ret.mk ?_))
      all_goals simp_all [firstI]
theorem r_HasWord (l : List (List UInt8)) (s : List UInt8) (hl : l.length ≤ 140737488355328) : Fc E n_ref01_HasWord [.d (.list l.length (l.map D.str)), S s] (B (decide (s ∈ l))) := by
 refine g.fn code_ref01_HasWord rfl ?_
 conv => whnf
 refine LoopW.upP g (fun k => [(0, .d (.list l.length (l.map D.str))), (1, S s), (5, I k)]) (fun _ => []) (fun k => ∀ i, i < k → ∀ x, l[i]? = some x → x ≠ s) l.length (fun k hk hp ih => ?_) 0 (Nat.zero_le _) (fun i hi => absurd hi (Nat.not_lt_zero _))
 by_cases hlt : k < l.length
 ·have hg : (l.map D.str)[((k : Int)).toNat * 1]? = some (.str l[k]) := by simp [hlt]
  by_cases he : l[k] = s
  ·rw [decide_eq_true (by rw [← he]; exact List.getElem_mem hlt)]
   repeat' ((conv => whnf); first
   | refine Ya ?_ | refine Yb ?_ | refine Yc ?_ | refine Yd ?_ | refine Ye ?_ | refine Yf ?_ | refine Yg ?_ | refine Yh ?_ | refine Yi rfl ?_ | refine Yj rfl ?_ | refine Yk rfl ?_ | refine Yl rfl ?_
    | (refine Pick.now hg ?_)
    | (refine Cmp.tt he ?_)
    | (refine Ret.mk rfl))
  ·have ih := ih hlt fun i hi x hx => by
    by_cases e : i = k
    ·subst e
     rw [List.getElem?_eq_getElem hlt] at hx
     rw [← Option.some.inj hx]; exact he
    ·exact hp i (by omega) x hx
   repeat' ((conv => whnf); first
   | refine Ya ?_ | refine Yb ?_ | refine Yc ?_ | refine Yd ?_ | refine Ye ?_ | refine Yf ?_ | refine Yg ?_ | refine Yh ?_ | refine Yi rfl ?_ | refine Yj rfl ?_ | refine Yk rfl ?_ | refine Yl rfl ?_
    | (refine Pick.now hg ?_)
    | (refine Cmp.ff he ?_)
    | (refine LoopW.to ih rfl rfl))
 ·have hno : s ∉ l := fun hm => by
   obtain ⟨i, hi, e⟩ := List.getElem_of_mem hm
   exact hp i (by omega) s (by rw [List.getElem?_eq_getElem hi, e]) rfl
  rw [decide_eq_false hno]
  repeat' ((conv => whnf); first
  | refine Ya ?_ | refine Yb ?_ | refine Yc ?_ | refine Yd ?_ | refine Ye ?_ | refine Yf ?_ | refine Yg ?_ | refine Yh ?_ | refine Yi rfl ?_ | refine Yj rfl ?_ | refine Yk rfl ?_ | refine Yl rfl ?_
   | (refine Ret.mk rfl))
end
end Go.Proofs.YtlnlcdnpgjhaaaaGreatDoor.Co
/-
 Messages: requests and lines as a law's parameters; short ones.
-/
namespace Go.Proofs.YtlnlcdnpgjhaaaaGreatDoor.Co
open Go Go.Evl
set_option maxRecDepth 100000
theorem fit_str {k : Nat} {ds : List D} (h : fit Tryz.prog (k + 1) 9 ds) : ∃ s, ds = [.str s] := by
 obtain ⟨s, rfl, _⟩ := fit_s Tryz.underlying9 h
 exact ⟨s, rfl⟩
theorem fit_Period {k : Nat} {ds : List D} (h : fit Tryz.prog (k + 2) 48 ds) : ∃ f t d, ds = [DI f, DI t, DI d] := by
 obtain ⟨_, _, rfl, h1, _, _, rfl, h2, _, _, rfl, h3, rfl⟩ := fit_st Tryz.underlying48 h
 obtain ⟨f, rfl, _⟩ := fit_int h1
 obtain ⟨t, rfl, _⟩ := fit_int h2
 obtain ⟨d, rfl, _⟩ := fit_int h3
 exact ⟨f, t, d, rfl⟩
theorem fit_Request {k : Nat} {ds : List D} (h : fit Tryz.prog (k + 3) 50 ds) : ∃ q : Rqt, ds = q.cells := by
 obtain ⟨_, _, rfl, h1, _, _, rfl, h2, _, _, rfl, h3, _, _, rfl, h4, _, _, rfl, h5, _, _, rfl, h6, _, _, rfl, h7, _, _, rfl, h8, _, _, rfl, h9, _, _, rfl, h10, _, _, rfl, h11, rfl⟩ := fit_st Tryz.underlying50 h
 obtain ⟨s1, rfl⟩ := fit_str h1
 obtain ⟨s2, rfl⟩ := fit_str h2
 obtain ⟨s3, rfl⟩ := fit_str h3
 obtain ⟨s4, rfl⟩ := fit_str h4
 obtain ⟨s5, rfl⟩ := fit_str h5
 obtain ⟨s6, rfl⟩ := fit_str h6
 obtain ⟨f, t, d, rfl⟩ := fit_Period h7
 obtain ⟨a, rfl, _⟩ := fit_int h8
 obtain ⟨b, rfl, _⟩ := fit_int h9
 obtain ⟨c, rfl, _⟩ := fit_int h10
 obtain ⟨e, rfl, _⟩ := fit_int h11
 exact ⟨⟨s1, s2, s3, s4, s5, s6, f, t, d, a, b, c, e⟩, rfl⟩
def briefB (q : Rqt) : Bool := decide (q.nm.length ≤ 40 ∧ q.ca.length ≤ 40 ∧ q.ki.length ≤ 40 ∧ q.te.length ≤ 40 ∧ q.pa.length ≤ 40 ∧ q.li.length ≤ 40)
section
variable {E : Oracle} (g : Good E)
include g
set_option maxHeartbeats 4000000 in
theorem r_Brief (q : Rqt) : Fc E n_ref02_Brief [Rqv q] (B (briefB q)) := by
 refine g.fn code_ref02_Brief rfl ?_
 unfold briefB
 by_cases h1 : q.nm.length ≤ 40
 ·by_cases h2 : q.ca.length ≤ 40
  ·by_cases h3 : q.ki.length ≤ 40
   ·by_cases h4 : q.te.length ≤ 40
    ·by_cases h5 : q.pa.length ≤ 40
     ·by_cases h6 : q.li.length ≤ 40
      ·rw [decide_eq_true ⟨h1, h2, h3, h4, h5, h6⟩]
       repeat' ((conv => whnf); first
       | refine Ya ?_ | refine Yb ?_ | refine Yc ?_ | refine Yd ?_ | refine Ye ?_ | refine Yf ?_ | refine Yg ?_ | refine Yh ?_ | refine Yi rfl ?_ | refine Yj rfl ?_ | refine Yk rfl ?_ | refine Yl rfl ?_
        | (refine Ret.mk rfl))
      ·rw [decide_eq_false (fun h => h6 (by omega))]
       repeat' ((conv => whnf); first
       | refine Ya ?_ | refine Yb ?_ | refine Yc ?_ | refine Yd ?_ | refine Ye ?_ | refine Yf ?_ | refine Yg ?_ | refine Yh ?_ | refine Yi rfl ?_ | refine Yj rfl ?_ | refine Yk rfl ?_ | refine Yl rfl ?_
        | (refine Ret.mk rfl))
     ·rw [decide_eq_false (fun h => h5 (by omega))]
      repeat' ((conv => whnf); first
      | refine Ya ?_ | refine Yb ?_ | refine Yc ?_ | refine Yd ?_ | refine Ye ?_ | refine Yf ?_ | refine Yg ?_ | refine Yh ?_ | refine Yi rfl ?_ | refine Yj rfl ?_ | refine Yk rfl ?_ | refine Yl rfl ?_
       | (refine Ret.mk rfl))
    ·rw [decide_eq_false (fun h => h4 (by omega))]
     repeat' ((conv => whnf); first
     | refine Ya ?_ | refine Yb ?_ | refine Yc ?_ | refine Yd ?_ | refine Ye ?_ | refine Yf ?_ | refine Yg ?_ | refine Yh ?_ | refine Yi rfl ?_ | refine Yj rfl ?_ | refine Yk rfl ?_ | refine Yl rfl ?_
      | (refine Ret.mk rfl))
   ·rw [decide_eq_false (fun h => h3 (by omega))]
    repeat' ((conv => whnf); first
    | refine Ya ?_ | refine Yb ?_ | refine Yc ?_ | refine Yd ?_ | refine Ye ?_ | refine Yf ?_ | refine Yg ?_ | refine Yh ?_ | refine Yi rfl ?_ | refine Yj rfl ?_ | refine Yk rfl ?_ | refine Yl rfl ?_
     | (refine Ret.mk rfl))
  ·rw [decide_eq_false (fun h => h2 (by omega))]
   repeat' ((conv => whnf); first
   | refine Ya ?_ | refine Yb ?_ | refine Yc ?_ | refine Yd ?_ | refine Ye ?_ | refine Yf ?_ | refine Yg ?_ | refine Yh ?_ | refine Yi rfl ?_ | refine Yj rfl ?_ | refine Yk rfl ?_ | refine Yl rfl ?_
    | (refine Ret.mk rfl))
 ·rw [decide_eq_false (fun h => h1 (by omega))]
  repeat' ((conv => whnf); first
  | refine Ya ?_ | refine Yb ?_ | refine Yc ?_ | refine Yd ?_ | refine Ye ?_ | refine Yf ?_ | refine Yg ?_ | refine Yh ?_ | refine Yi rfl ?_ | refine Yj rfl ?_ | refine Yk rfl ?_ | refine Yl rfl ?_
   | (refine Ret.mk rfl))
end
end Go.Proofs.YtlnlcdnpgjhaaaaGreatDoor.Co
/-
 Texts of masks: printed (all 128, computed by the kernel) and read.
-/
namespace Go.Proofs.YtlnlcdnpgjhaaaaGreatDoor.Co
open Go Go.Evl
end Go.Proofs.YtlnlcdnpgjhaaaaGreatDoor.Co
/-
 The parts of a text between the places of one byte: strings.Split's, told by recursion.
-/
namespace Go.Evl
open Go Go.Lib
end Go.Evl
/-
 Messages: the words of a line, and how the reference prints them.
-/
namespace Go.Proofs.YtlnlcdnpgjhaaaaGreatDoor.Co
open Go Go.Evl
theorem firstI_zero : ∀ l : List Int, firstI l = 0 ↔ ∀ x ∈ l, x = 0
 | [] => by simp [firstI]
 | x :: r => by
  simp only [firstI, List.mem_cons, forall_eq_or_imp]
  split
  ·rename_i h; rw [firstI_zero r]; exact ⟨fun hr => ⟨h, hr⟩, fun hr => hr.2⟩
  ·rename_i h; exact ⟨fun hr => absurd hr h, fun hr => absurd hr.1 h⟩
end Go.Proofs.YtlnlcdnpgjhaaaaGreatDoor.Co
/-
 Years, months, days: what the program's functions and the reference's give.
-/
namespace Go.Proofs.YtlnlcdnpgjhaaaaGreatDoor.Co
open Go Go.Evl
section
variable {E : Oracle} (g : Good E)
include g
theorem s_weekday (day : Int) (h : 0 ≤ day ∧ day ≤ 1000000) : Fc E n_calendar_weekday [I day] (I ((day + 5) % 7)) := by
 refine g.fn code_calendar_weekday rfl ?_
 repeat' ((conv => whnf); first
 | refine Ya ?_ | refine Yb ?_ | refine Yc ?_ | refine Yd ?_ | refine Ye ?_ | refine Yf ?_ | refine Yg ?_ | refine Yh ?_ | refine Yi rfl ?_ | refine Yj rfl ?_ | refine Yk rfl ?_ | refine Yl rfl ?_
  | (refine Ret.mk rfl))
end
end Go.Proofs.YtlnlcdnpgjhaaaaGreatDoor.Co
/-
 The days of a period: what the program's functions give.
-/
namespace Go.Proofs.YtlnlcdnpgjhaaaaGreatDoor.Co
open Go Go.Evl
def daysP (f d : Int) : Nat → List Int
 | 0 => []
 | k + 1 => daysP f d k ++ (if inM d ((f + k + 5) % 7) then [f + k] else [])
theorem daysP_length (f d : Int) : ∀ k : Nat, (daysP f d k).length ≤ k
 | 0 => Nat.le_refl _
 | k + 1 => by
  have := daysP_length f d k
  simp only [daysP, List.length_append]
  split <;> simp <;> omega
def rngAsg : C := .reg false [⟨some 6, none, .mv (.t 8)⟩] [8]
def rngBdy : C := .block 1 (.seq (.reg false [
⟨some 9, none, .load none (.t 3)⟩,
⟨some 10, none, .mv (.t 6)⟩,
⟨some 11, none, .call true true (.t 9) [.t 10]⟩] [3, 9, 10])
(.cond (.t 11) (.reg false [
⟨some 12, none, .load none (.t 5)⟩,
⟨some 13, none, .mv (.t 6)⟩,
⟨some 14, none, .mkList 1 1 [.t 13]⟩,
⟨some 15, none, .append ⟨false, ty_int, 1, 8⟩ (.t 12) (.t 14)⟩,
⟨none, none, .store 1 (.t 5) (.t 15)⟩] [5, 6, 12, 13, 14, 15])
 .skip))
section
variable {E : Oracle} (g : Good E)
include g
theorem s_DaysOf_ok (f t d : Int) (h : chkPer f t d = 0) : Fc E n_calendar_DaysOf [Per f t d] (.tup [LI (daysP f d (t - f + 1).toNat), I 0]) := by
 refine g.fn code_calendar_DaysOf rfl ?_
 have hc := s_CheckPeriod g f t d
 rw [h] at hc
 have hb := chkPer_zero.1 h
 repeat' ((conv => whnf); first
 | refine Ya ?_ | refine Yb ?_ | refine Yc ?_ | refine Yd ?_ | refine Ye ?_ | refine Yf ?_ | refine Yg ?_ | refine Yh ?_ | refine Yi rfl ?_ | refine Yj rfl ?_ | refine Yk rfl ?_ | refine Yl rfl ?_
  | (refine CallI.of hc ?_)
  | (refine CallS.of (In.enter g.lim rfl code_calendar_daysOf ?_))
  | (refine ⟨(.fn n_calendar_daysOf_1 [] [.ptr ⟨0, 11, 0⟩ 0 0], [(⟨0, 1, 0⟩, .cells ty_api_Period [I f, I t, I d]), (⟨0, 11, 0⟩, .cells ty_api_Period [I f, I t, I d])]), rfl, ?_⟩)
  | (refine In.enter g.lim rfl code_calendar_collected_int ?_)
  | (refine In.enter g.lim rfl code_calendar_daysOf_1 ?_))
 refine LoopW.to (LoopW.up g (fun k => [(0, .yld ⟨1, 18, 0⟩), (1, .ptr ⟨0, 11, 0⟩ 0 0), (3, I (f + k))]) (fun k => [(⟨0, 1, 0⟩, .cells ty_api_Period [I f, I t, I d]), (⟨0, 11, 0⟩, .cells ty_api_Period [I f, I t, I d]),
  (⟨1, 3, 0⟩, .cells ty_func_int_bool [.fn n_calendar_DaysOf_1 [] []]), (⟨1, 4, 0⟩, .row false ty_int 1 0 []), (⟨1, 5, 0⟩, .row false ty_int 1 (daysP f d k).length ((daysP f d k).map DI)), (⟨1, 5, 1⟩, .cells ty_Lint [.ref ⟨1, 5, 0⟩ 0 (daysP f d k).length (daysP f d k).length]),
  (⟨1, 18, 0⟩, .loop [(3, .ptr ⟨1, 3, 0⟩ 0 0), (4, .ref ⟨1, 4, 0⟩ 0 0 0), (5, .ptr ⟨1, 5, 1⟩ 0 0), (7, .fn n_calendar_daysOf_1 [] [.ptr ⟨0, 11, 0⟩ 0 0])] [8] rngAsg rngBdy 1 false false none)]) (t - f + 1).toNat (fun k hk ih => ?_) 0 (Nat.zero_le _)) (by simp) rfl
 have hlen := daysP_length f d k
 by_cases hlt : k < (t - f + 1).toNat
 ·have hin := s_inMask g d ((f + k + 5) % 7) (by omega) (by omega)
  by_cases hc : inM d ((f + k + 5) % 7) = true
  ·rw [hc] at hin
   repeat' ((conv => whnf); first
   | refine Ya ?_ | refine Yb ?_ | refine Yc ?_ | refine Yd ?_ | refine Ye ?_ | refine Yf ?_ | refine Yg ?_ | refine Yh ?_ | refine Yi rfl ?_ | refine Yj rfl ?_ | refine Yk rfl ?_ | refine Yl rfl ?_
    | (refine CallI.of (s_weekday g _ (by omega)) ?_)
    | (refine CallI.of hin ?_)
    | (refine Rnd.enter g.lim ?_)
    | (refine In.enter g.lim rfl code_calendar_DaysOf_1 ?_)
    | (refine LoopW.to (ih hlt) ?_ ?_))
   ·simp; omega
   ·simp [daysP, hc]
  ·rw [Bool.not_eq_true] at hc
   rw [hc] at hin
   repeat' ((conv => whnf); first
   | refine Ya ?_ | refine Yb ?_ | refine Yc ?_ | refine Yd ?_ | refine Ye ?_ | refine Yf ?_ | refine Yg ?_ | refine Yh ?_ | refine Yi rfl ?_ | refine Yj rfl ?_ | refine Yk rfl ?_ | refine Yl rfl ?_
    | (refine CallI.of (s_weekday g _ (by omega)) ?_)
    | (refine CallI.of hin ?_)
    | (refine LoopW.to (ih hlt) ?_ ?_))
   ·simp; omega
   ·simp [daysP, hc]
 ·have hk' : k = (t - f + 1).toNat := by omega
  repeat' ((conv => whnf); first
  | refine Ya ?_ | refine Yb ?_ | refine Yc ?_ | refine Yd ?_ | refine Ye ?_ | refine Yf ?_ | refine Yg ?_ | refine Yh ?_ | refine Yi rfl ?_ | refine Yj rfl ?_ | refine Yk rfl ?_ | refine Yl rfl ?_
   | (refine Ret.mk ?_))
  simp [hk']
end
end Go.Proofs.YtlnlcdnpgjhaaaaGreatDoor.Co
/-
 The days of a period, the common days of two: the program's and the reference's.
-/
namespace Go.Proofs.YtlnlcdnpgjhaaaaGreatDoor.Co
open Go Go.Evl
section
variable {E : Oracle} (g : Good E)
include g
theorem s_Count (f t d : Int) (l : List Int) (e : Int) (h : Fc E n_calendar_DaysOf [Per f t d] (.tup [LI l, I e])) : Fc E n_calendar_Count [Per f t d] (.tup [I l.length, I e]) := by
 refine g.fn code_calendar_Count rfl ?_
 repeat' ((conv => whnf); first
 | refine Ya ?_ | refine Yb ?_ | refine Yc ?_ | refine Yd ?_ | refine Ye ?_ | refine Yf ?_ | refine Yg ?_ | refine Yh ?_ | refine Yi rfl ?_ | refine Yj rfl ?_ | refine Yk rfl ?_ | refine Yl rfl ?_
  | (refine CallI.of h ?_)
  | (refine Ret.mk rfl))
end
end Go.Proofs.YtlnlcdnpgjhaaaaGreatDoor.Co
/-
 Priority: claims and their facts.
-/
namespace Go.Proofs.YtlnlcdnpgjhaaaaGreatDoor.Co
open Go Go.Evl
structure Clm where
 rq : Rqt
 (hi re ne ye : Bool)
 di : Int
def Clm.cells (c : Clm) : List D := [.str c.rq.nm, .str c.rq.ca, .str c.rq.ki, .str c.rq.te, .str c.rq.pa, .str c.rq.li, DI c.rq.fr, DI c.rq.to, DI c.rq.da, DI c.rq.mi, DI c.rq.se, DI c.rq.si, DI c.rq.no, .bool c.hi, .bool c.re, .bool c.ne, .bool c.ye, DI c.di]
theorem Clm.cells_length (c : Clm) : c.cells.length = 18 := rfl
abbrev Clv (c : Clm) : V := .d (.agg c.cells)
def chkCl (c : Clm) : Int := firstI [chkRq c.rq, rng c.di 0 20000]
theorem chkCl_zero {c : Clm} : chkCl c = 0 ↔ chkRq c.rq = 0 ∧ 0 ≤ c.di ∧ c.di ≤ 20000 := by
 unfold chkCl
 rw [firstI_zero, ← rng_zero]
 simp
theorem chkCl_per {c : Clm} (h : chkCl c = 0) : chkPer c.rq.fr c.rq.to c.rq.da = 0 := by
 have h := (chkCl_zero.1 h).1
 unfold chkRq at h
 rw [firstI_zero] at h
 exact h _ (by simp)
abbrev fcL : List (List UInt8) := [[104, 105, 115, 116, 111, 114, 105, 99], [114, 101, 116, 105, 109, 101, 100], [110, 101, 119, 99, 111, 109, 101, 114], [121, 101, 97, 114, 114, 111, 117, 110, 100], [100, 97, 121, 115], [115, 101, 97, 116, 115], [115, 105, 122, 101], [110, 111, 105, 115, 101], [100, 105, 115, 116, 97, 110, 99, 101], [109, 105, 110, 117, 116, 101]]
def bitI (b : Bool) : Int := if b then 1 else 0
def factV (c : Clm) (s : List UInt8) : Int :=
 if s = [104, 105, 115, 116, 111, 114, 105, 99] then bitI c.hi else if s = [114, 101, 116, 105, 109, 101, 100] then bitI c.re else if s = [110, 101, 119, 99, 111, 109, 101, 114] then bitI c.ne
 else if s = [121, 101, 97, 114, 114, 111, 117, 110, 100] then bitI c.ye else if s = [100, 97, 121, 115] then ((daysP c.rq.fr c.rq.da (c.rq.to - c.rq.fr + 1).toNat).length : Int)
 else if s = [115, 101, 97, 116, 115] then c.rq.se else if s = [115, 105, 122, 101] then c.rq.si else if s = [110, 111, 105, 115, 101] then c.rq.no else if s = [100, 105, 115, 116, 97, 110, 99, 101] then c.di else c.rq.mi
abbrev fcE (s : List UInt8) (n : Nat) : D × V := (.str s, .d (.agg [.str s, .fn n]))
abbrev facM : List (D × V) := [fcE [104, 105, 115, 116, 111, 114, 105, 99] n_priority_facts_1, fcE [114, 101, 116, 105, 109, 101, 100] n_priority_facts_2, fcE [110, 101, 119, 99, 111, 109, 101, 114] n_priority_facts_3, fcE [121, 101, 97, 114, 114, 111, 117, 110, 100] n_priority_facts_4, fcE [100, 97, 121, 115] n_priority_facts_5, fcE [115, 101, 97, 116, 115] n_priority_facts_6, fcE [115, 105, 122, 101] n_priority_facts_7, fcE [110, 111, 105, 115, 101] n_priority_facts_8, fcE [100, 105, 115, 116, 97, 110, 99, 101] n_priority_facts_9, fcE [109, 105, 110, 117, 116, 101] n_priority_facts_10]
section
variable {E : Oracle} (g : Good E)
include g
set_option maxRecDepth 100000
theorem s_pfirst (l : List Int) (hl : l.length ≤ 140737488355328) : Fc E n_priority_first [LI l] (I (firstI l)) := by
 refine g.fn code_priority_first rfl ?_
 conv => whnf
 refine LoopW.upP g (fun k => [(5, LI l), (6, I l.length), (7, I k)]) (fun _ => []) (fun k => firstI l = firstI (l.drop k)) l.length (fun k hk hp ih => ?_) 0 (Nat.zero_le _) (by simp)
 by_cases hlt : k < l.length
 ·have hd := firstI_drop l k hlt
  repeat' ((conv => whnf); first
  | refine Ya ?_ | refine Yb ?_ | refine Yc ?_ | refine Yd ?_ | refine Ye ?_ | refine Yf ?_ | refine Yg ?_ | refine Yh ?_ | refine Yi rfl ?_ | refine Yj rfl ?_ | refine Yk rfl ?_ | refine Yl rfl ?_
   | (refine Pick.int (by omega) ?_)
   | (refine Cmp.mk (fun h => ?_) (fun h => ?_)) | (refine Rem.any (by omega) (fun r hr he => ?_)) | (refine Br.mk (fun h => ?_) (fun h => ?_))
   | (refine LoopW.to (ih hlt ?_) ?_ rfl)
   | (refine Ret.mk ?_))
  all_goals simp_all
 ·have : l.drop k = [] := List.drop_eq_nil_of_le (by omega)
  repeat' ((conv => whnf); first
  | refine Ya ?_ | refine Yb ?_ | refine Yc ?_ | refine Yd ?_ | refine Ye ?_ | refine Yf ?_ | refine Yg ?_ | refine Yh ?_ | refine Yi rfl ?_ | refine Yj rfl ?_ | refine Yk rfl ?_ | refine Yl rfl ?_
   | (refine Ret.mk ?_))
  simp [hp, this, firstI]
theorem s_pfirst2 (a b : Int) : Fc E n_priority_first [.d (.list 2 [DI a, DI b])] (I (firstI [a, b])) := s_pfirst g [a, b] (by simp)
theorem s_pfirst3 (a b c : Int) : Fc E n_priority_first [.d (.list 3 [DI a, DI b, DI c])] (I (firstI [a, b, c])) := s_pfirst g [a, b, c] (by simp)
theorem s_pwhen (b : Bool) (e : Int) : Fc E n_priority_when [B b, I e] (I (if b = true then e else 0)) := by
 refine g.fn code_priority_when rfl ?_
 cases b
 all_goals repeat' ((conv => whnf); first
 | refine Ya ?_ | refine Yb ?_ | refine Yc ?_ | refine Yd ?_ | refine Ye ?_ | refine Yf ?_ | refine Yg ?_ | refine Yh ?_ | refine Yi rfl ?_ | refine Yj rfl ?_ | refine Yk rfl ?_ | refine Yl rfl ?_
  | (refine Ret.mk rfl))
theorem s_pwithin (n a b : Int) : Fc E n_priority_within [I n, I a, I b] (I (rng n a b)) := by
 refine g.fn code_priority_within rfl ?_
 have hw := s_pwhen g
 unfold rng
 by_cases h1 : n < a
 ·rw [if_pos (.inl h1)]
  repeat' ((conv => whnf); first
  | refine Ya ?_ | refine Yb ?_ | refine Yc ?_ | refine Yd ?_ | refine Ye ?_ | refine Yf ?_ | refine Yg ?_ | refine Yh ?_ | refine Yi rfl ?_ | refine Yj rfl ?_ | refine Yk rfl ?_ | refine Yl rfl ?_
   | (refine CallI.of (hw _ _) ?_)
   | (refine Ret.mk rfl))
 ·by_cases h2 : b < n
  ·rw [if_pos (.inr h2)]
   repeat' ((conv => whnf); first
   | refine Ya ?_ | refine Yb ?_ | refine Yc ?_ | refine Yd ?_ | refine Ye ?_ | refine Yf ?_ | refine Yg ?_ | refine Yh ?_ | refine Yi rfl ?_ | refine Yj rfl ?_ | refine Yk rfl ?_ | refine Yl rfl ?_
    | (refine CallI.of (hw _ _) ?_)
    | (refine Ret.mk rfl))
  ·rw [if_neg (by omega)]
   repeat' ((conv => whnf); first
   | refine Ya ?_ | refine Yb ?_ | refine Yc ?_ | refine Yd ?_ | refine Ye ?_ | refine Yf ?_ | refine Yg ?_ | refine Yh ?_ | refine Yi rfl ?_ | refine Yj rfl ?_ | refine Yk rfl ?_ | refine Yl rfl ?_
    | (refine CallI.of (hw _ _) ?_)
    | (refine Ret.mk rfl))
theorem s_pbit (b : Bool) : Fc E n_priority_bit [B b] (I (bitI b)) := by
 refine g.fn code_priority_bit rfl ?_
 cases b
 all_goals repeat' ((conv => whnf); first
 | refine Ya ?_ | refine Yb ?_ | refine Yc ?_ | refine Yd ?_ | refine Ye ?_ | refine Yf ?_ | refine Yg ?_ | refine Yh ?_ | refine Yi rfl ?_ | refine Yj rfl ?_ | refine Yk rfl ?_ | refine Yl rfl ?_
  | (refine Ret.mk rfl))
theorem s_CheckClaim (c : Clm) : Fc E n_priority_CheckClaim [Clv c] (I (chkCl c)) := by
 refine g.fn code_priority_CheckClaim rfl ?_
 have h1 := s_CheckRequest g c.rq
 have h2 := s_pwithin g c.di 0 20000
 repeat' ((conv => whnf); first
 | refine Ya ?_ | refine Yb ?_ | refine Yc ?_ | refine Yd ?_ | refine Ye ?_ | refine Yf ?_ | refine Yg ?_ | refine Yh ?_ | refine Yi rfl ?_ | refine Yj rfl ?_ | refine Yk rfl ?_ | refine Yl rfl ?_
  | (apply CallI.of; assumption)
  | (refine CallI.of (s_pfirst2 g _ _) ?_)
  | (refine Ret.mk rfl))
theorem r_CheckClaim (c : Clm) : Fc E n_ref05_CheckClaim [Clv c] (I (chkCl c)) := by
 refine g.fn code_ref05_CheckClaim rfl ?_
 have h1 := r_CheckRequest g c.rq
 have h2 := r_CheckRange g c.di 0 20000
 repeat' ((conv => whnf); first
 | refine Ya ?_ | refine Yb ?_ | refine Yc ?_ | refine Yd ?_ | refine Ye ?_ | refine Yf ?_ | refine Yg ?_ | refine Yh ?_ | refine Yi rfl ?_ | refine Yj rfl ?_ | refine Yk rfl ?_ | refine Yl rfl ?_
  | (apply CallI.of; assumption)
  | (refine CallI.of (r_First2 g _ _) ?_)
  | (refine Ret.mk rfl))
theorem s_Facts : Fc E n_priority_Facts [] (.d (.list 10 (fcL.map D.str))) := g.compR 100 (by decide +kernel)
theorem r_Facts : Fc E n_ref05_Facts [] (.d (.list 10 (fcL.map D.str))) := g.compR 100 (by decide +kernel)
theorem r_HasFact (s : List UInt8) : Fc E n_ref01_HasWord [.d (.list 10 (fcL.map D.str)), S s] (B (decide (s ∈ fcL))) := r_HasWord g fcL s (by decide)
theorem s_known : E (.call 0 n_priority_known [] []) = some (.val (.mp ⟨0, 4, 0⟩) [(⟨0, 4, 0⟩, .map facM)]) := g.lim.of_iter 100 _ _ (by kernel_rfl)
omit g in
theorem settle_known {cx : Cx} {slot : Nat} {m : Mem} (hf : Go.Evl.freeK cx.lv slot m = 0) : Go.Evl.settle cx slot 0 m [(⟨0, 4, 0⟩, .map facM)] (.mp ⟨0, 4, 0⟩) = some (.mp ⟨cx.lv, slot, 0⟩, m ++ [(⟨cx.lv, slot, 0⟩, .map facM)]) := by
 unfold Go.Evl.settle
 rw [hf]
 rfl
theorem CallS.known {cx : Cx} {slot : Nat} {m : Mem} {K : V → Mem → Prop} (hf : Go.Evl.freeK cx.lv slot m = 0) (h : K (.mp ⟨cx.lv, slot, 0⟩) (m ++ [(⟨cx.lv, slot, 0⟩, .map facM)])) : CallS E n_priority_known [] cx slot m K := ⟨_, _, _, s_known g, settle_known hf, h⟩
theorem s_fact1 (c : Clm) : Fc E n_priority_facts_1 [Clv c] (I (bitI c.hi)) := by
 refine g.fn code_priority_facts_1 rfl ?_
 repeat' ((conv => whnf); first
 | refine Ya ?_ | refine Yb ?_ | refine Yc ?_ | refine Yd ?_ | refine Ye ?_ | refine Yf ?_ | refine Yg ?_ | refine Yh ?_ | refine Yi rfl ?_ | refine Yj rfl ?_ | refine Yk rfl ?_ | refine Yl rfl ?_
  | (refine CallI.of (s_pbit g _) ?_)
  | (refine Ret.mk rfl))
theorem s_fact2 (c : Clm) : Fc E n_priority_facts_2 [Clv c] (I (bitI c.re)) := by
 refine g.fn code_priority_facts_2 rfl ?_
 repeat' ((conv => whnf); first
 | refine Ya ?_ | refine Yb ?_ | refine Yc ?_ | refine Yd ?_ | refine Ye ?_ | refine Yf ?_ | refine Yg ?_ | refine Yh ?_ | refine Yi rfl ?_ | refine Yj rfl ?_ | refine Yk rfl ?_ | refine Yl rfl ?_
  | (refine CallI.of (s_pbit g _) ?_)
  | (refine Ret.mk rfl))
theorem s_fact3 (c : Clm) : Fc E n_priority_facts_3 [Clv c] (I (bitI c.ne)) := by
 refine g.fn code_priority_facts_3 rfl ?_
 repeat' ((conv => whnf); first
 | refine Ya ?_ | refine Yb ?_ | refine Yc ?_ | refine Yd ?_ | refine Ye ?_ | refine Yf ?_ | refine Yg ?_ | refine Yh ?_ | refine Yi rfl ?_ | refine Yj rfl ?_ | refine Yk rfl ?_ | refine Yl rfl ?_
  | (refine CallI.of (s_pbit g _) ?_)
  | (refine Ret.mk rfl))
theorem s_fact4 (c : Clm) : Fc E n_priority_facts_4 [Clv c] (I (bitI c.ye)) := by
 refine g.fn code_priority_facts_4 rfl ?_
 repeat' ((conv => whnf); first
 | refine Ya ?_ | refine Yb ?_ | refine Yc ?_ | refine Yd ?_ | refine Ye ?_ | refine Yf ?_ | refine Yg ?_ | refine Yh ?_ | refine Yi rfl ?_ | refine Yj rfl ?_ | refine Yk rfl ?_ | refine Yl rfl ?_
  | (refine CallI.of (s_pbit g _) ?_)
  | (refine Ret.mk rfl))
theorem s_fact5 (c : Clm) (h : chkPer c.rq.fr c.rq.to c.rq.da = 0) : Fc E n_priority_facts_5 [Clv c] (I (daysP c.rq.fr c.rq.da (c.rq.to - c.rq.fr + 1).toNat).length) := by
 refine g.fn code_priority_facts_5 rfl ?_
 have h1 := s_Count g _ _ _ _ _ (s_DaysOf_ok g _ _ _ h)
 repeat' ((conv => whnf); first
 | refine Ya ?_ | refine Yb ?_ | refine Yc ?_ | refine Yd ?_ | refine Ye ?_ | refine Yf ?_ | refine Yg ?_ | refine Yh ?_ | refine Yi rfl ?_ | refine Yj rfl ?_ | refine Yk rfl ?_ | refine Yl rfl ?_
  | (apply CallI.of; assumption)
  | (refine Ret.mk rfl))
theorem s_fact6 (c : Clm) : Fc E n_priority_facts_6 [Clv c] (I c.rq.se) := by
 refine g.fn code_priority_facts_6 rfl ?_
 repeat' ((conv => whnf); first
 | refine Ya ?_ | refine Yb ?_ | refine Yc ?_ | refine Yd ?_ | refine Ye ?_ | refine Yf ?_ | refine Yg ?_ | refine Yh ?_ | refine Yi rfl ?_ | refine Yj rfl ?_ | refine Yk rfl ?_ | refine Yl rfl ?_
  | (refine Ret.mk rfl))
theorem s_fact7 (c : Clm) : Fc E n_priority_facts_7 [Clv c] (I c.rq.si) := by
 refine g.fn code_priority_facts_7 rfl ?_
 repeat' ((conv => whnf); first
 | refine Ya ?_ | refine Yb ?_ | refine Yc ?_ | refine Yd ?_ | refine Ye ?_ | refine Yf ?_ | refine Yg ?_ | refine Yh ?_ | refine Yi rfl ?_ | refine Yj rfl ?_ | refine Yk rfl ?_ | refine Yl rfl ?_
  | (refine Ret.mk rfl))
theorem s_fact8 (c : Clm) : Fc E n_priority_facts_8 [Clv c] (I c.rq.no) := by
 refine g.fn code_priority_facts_8 rfl ?_
 repeat' ((conv => whnf); first
 | refine Ya ?_ | refine Yb ?_ | refine Yc ?_ | refine Yd ?_ | refine Ye ?_ | refine Yf ?_ | refine Yg ?_ | refine Yh ?_ | refine Yi rfl ?_ | refine Yj rfl ?_ | refine Yk rfl ?_ | refine Yl rfl ?_
  | (refine Ret.mk rfl))
theorem s_fact9 (c : Clm) : Fc E n_priority_facts_9 [Clv c] (I c.di) := by
 refine g.fn code_priority_facts_9 rfl ?_
 repeat' ((conv => whnf); first
 | refine Ya ?_ | refine Yb ?_ | refine Yc ?_ | refine Yd ?_ | refine Ye ?_ | refine Yf ?_ | refine Yg ?_ | refine Yh ?_ | refine Yi rfl ?_ | refine Yj rfl ?_ | refine Yk rfl ?_ | refine Yl rfl ?_
  | (refine Ret.mk rfl))
theorem s_fact10 (c : Clm) : Fc E n_priority_facts_10 [Clv c] (I c.rq.mi) := by
 refine g.fn code_priority_facts_10 rfl ?_
 repeat' ((conv => whnf); first
 | refine Ya ?_ | refine Yb ?_ | refine Yc ?_ | refine Yd ?_ | refine Ye ?_ | refine Yf ?_ | refine Yg ?_ | refine Yh ?_ | refine Yi rfl ?_ | refine Yj rfl ?_ | refine Yk rfl ?_ | refine Yl rfl ?_
  | (refine Ret.mk rfl))
end
end Go.Proofs.YtlnlcdnpgjhaaaaGreatDoor.Co
/-
 Priority: claims and conditions as a law's parameters.
-/
namespace Go.Proofs.YtlnlcdnpgjhaaaaGreatDoor.Co
open Go Go.Evl
set_option maxRecDepth 100000
theorem fit_bo {k : Nat} {ds : List D} (h : fit Tryz.prog (k + 1) 4 ds) : ∃ b, ds = [.bool b] := fit_b Tryz.underlying4 h
structure Tst where
 (fa op : List UInt8)
 va : Int
def Tst.cells (t : Tst) : List D := [.str t.fa, .str t.op, DI t.va]
abbrev Tsv (t : Tst) : V := .d (.agg t.cells)
theorem fit_Test {k : Nat} {ds : List D} (h : fit Tryz.prog (k + 2) 73 ds) : ∃ t : Tst, ds = t.cells := by
 obtain ⟨_, _, rfl, h1, _, _, rfl, h2, _, _, rfl, h3, rfl⟩ := fit_st Tryz.underlying73 h
 obtain ⟨s1, rfl⟩ := fit_str h1
 obtain ⟨s2, rfl⟩ := fit_str h2
 obtain ⟨n, rfl, _⟩ := fit_int h3
 exact ⟨⟨s1, s2, n⟩, rfl⟩
end Go.Proofs.YtlnlcdnpgjhaaaaGreatDoor.Co
/-
 Priority: lists of claims as a law's parameters.
-/
namespace Go.Proofs.YtlnlcdnpgjhaaaaGreatDoor.Co
open Go Go.Evl
set_option maxRecDepth 100000
abbrev LM (l : List Clm) : V := .d (.list l.length (l.flatMap Clm.cells))
theorem fit_Claim {k : Nat} {ds : List D} (h : fit Tryz.prog (k + 4) 52 ds) : ∃ c : Clm, ds = c.cells := by
 obtain ⟨_, _, rfl, h1, _, _, rfl, h2, _, _, rfl, h3, _, _, rfl, h4, _, _, rfl, h5, _, _, rfl, h6, rfl⟩ := fit_st Tryz.underlying52 h
 obtain ⟨q, rfl⟩ := fit_Request h1
 obtain ⟨b1, rfl⟩ := fit_bo h2
 obtain ⟨b2, rfl⟩ := fit_bo h3
 obtain ⟨b3, rfl⟩ := fit_bo h4
 obtain ⟨b4, rfl⟩ := fit_bo h5
 obtain ⟨d, rfl, _⟩ := fit_int h6
 exact ⟨⟨q, b1, b2, b3, b4, d⟩, rfl⟩
theorem fit_Claims {k : Nat} : ∀ (m : Nat) {ds : List D}, fitAll (fit Tryz.prog (k + 4)) (List.replicate m 52) ds → ∃ l : List Clm, ds = l.flatMap Clm.cells ∧ l.length = m
 | 0, ds, h => ⟨[], h, rfl⟩
 | m + 1, ds, h => by
  obtain ⟨a, b, rfl, h1, h2⟩ := h
  obtain ⟨x, rfl⟩ := fit_Claim h1
  obtain ⟨l, rfl, h3⟩ := fit_Claims m h2
  exact ⟨x :: l, rfl, by simp [h3]⟩
theorem arg_Claims {x : D} (h : fitArg Tryz.prog 25 x) : ∃ l : List Clm, x = .list l.length (l.flatMap Clm.cells) ∧ l.length ≤ 9223372036854775807 := by
 obtain ⟨m, cs, rfl, h1, h2⟩ := arg_l Tryz.underlying25 h
 obtain ⟨l, rfl, rfl⟩ := fit_Claims m h2
 exact ⟨l, rfl, Nat.le_trans h1 (by decide)⟩
end Go.Proofs.YtlnlcdnpgjhaaaaGreatDoor.Co
/-
 Priority: conditions.
-/
namespace Go.Proofs.YtlnlcdnpgjhaaaaGreatDoor.Co
open Go Go.Evl
def idxG : List (List UInt8) → List UInt8 → Nat → Int
 | [], _, _ => -1
 | x :: r, s, k => if s = x then k else idxG r s (k + 1)
theorem idxG_mem (s : List UInt8) : ∀ (l : List (List UInt8)) (k : Nat), 0 ≤ idxG l s k ↔ s ∈ l
 | [], k => by simp [idxG]
 | x :: r, k => by
  unfold idxG
  split
  ·rename_i h
   simp [h]
  ·rename_i h
   rw [idxG_mem s r]
   simp [h]
theorem idxG_drop (l : List (List UInt8)) (s : List UInt8) (k : Nat) (h : k < l.length) : idxG (l.drop k) s k = if s = l[k] then (k : Int) else idxG (l.drop (k + 1)) s (k + 1) := by
 rw [List.drop_eq_getElem_cons h]
 rfl
def opB (s : List UInt8) : Bool := decide (s = [61]) || decide (s = [60]) || decide (s = [62])
def chkTs (t : Tst) : Int := firstI [if t.fa ∈ fcL then 0 else 10, if opB t.op = true then 0 else 13, rng t.va 0 999999999]
def holdV (v : Int) (op : List UInt8) (va : Int) : Bool := if op = [60] then decide (v < va) else if op = [62] then decide (va < v) else decide (v = va)
def holdB (c : Clm) (t : Tst) : Bool := holdV (factV c t.fa) t.op t.va
theorem chkTs_zero {t : Tst} (h : chkTs t = 0) : t.fa ∈ fcL ∧ (t.op = [61] ∨ t.op = [60] ∨ t.op = [62]) := by
 unfold chkTs at h
 rw [firstI_zero] at h
 have h1 := h _ (List.mem_cons_self ..)
 have h2 := h (if opB t.op = true then 0 else 13) (by simp)
 refine ⟨Classical.byContradiction fun hn => ?_, ?_⟩
 ·rw [if_neg hn] at h1; cases h1
 ·cases ho : opB t.op with
  | false => rw [ho] at h2; cases h2
  | true => simpa [opB, or_assoc] using ho
section
variable {E : Oracle} (g : Good E)
include g
set_option maxRecDepth 100000
theorem s_IndexS (l : List (List UInt8)) (s : List UInt8) (hl : l.length ≤ 140737488355328) : Fc E n_slices_Index_Lstring_string [.d (.list l.length (l.map D.str)), S s] (I (idxG l s 0)) := by
 refine g.fn code_slices_Index_Lstring_string rfl ?_
 conv => whnf
 refine LoopW.upP g (fun k => [(0, .d (.list l.length (l.map D.str))), (1, S s), (7, I l.length), (8, I k)]) (fun _ => []) (fun k => idxG l s 0 = idxG (l.drop k) s k) l.length (fun k hk hp ih => ?_) 0 (Nat.zero_le _) (by simp)
 by_cases hlt : k < l.length
 ·have hd := idxG_drop l s k hlt
  have hg : (l.map D.str)[((k : Int)).toNat * 1]? = some (.str l[k]) := by simp [hlt]
  by_cases he : s = l[k]
  ·rw [hp, hd, if_pos he]
   repeat' ((conv => whnf); first
   | refine Ya ?_ | refine Yb ?_ | refine Yc ?_ | refine Yd ?_ | refine Ye ?_ | refine Yf ?_ | refine Yg ?_ | refine Yh ?_ | refine Yi rfl ?_ | refine Yj rfl ?_ | refine Yk rfl ?_ | refine Yl rfl ?_
    | (refine Pick.now hg ?_)
    | (refine Cmp.tt he ?_)
    | (refine Ret.mk rfl))
  ·have ih := ih hlt (by rw [hp, hd, if_neg he])
   repeat' ((conv => whnf); first
   | refine Ya ?_ | refine Yb ?_ | refine Yc ?_ | refine Yd ?_ | refine Ye ?_ | refine Yf ?_ | refine Yg ?_ | refine Yh ?_ | refine Yi rfl ?_ | refine Yj rfl ?_ | refine Yk rfl ?_ | refine Yl rfl ?_
    | (refine Pick.now hg ?_)
    | (refine Cmp.ff he ?_)
    | (refine LoopW.to ih rfl rfl))
 ·have : l.drop k = [] := List.drop_eq_nil_of_le (by omega)
  rw [hp, this]
  repeat' ((conv => whnf); first
  | refine Ya ?_ | refine Yb ?_ | refine Yc ?_ | refine Yd ?_ | refine Ye ?_ | refine Yf ?_ | refine Yg ?_ | refine Yh ?_ | refine Yi rfl ?_ | refine Yj rfl ?_ | refine Yk rfl ?_ | refine Yl rfl ?_
   | (refine Ret.mk rfl))
theorem s_ContainsS (l : List (List UInt8)) (s : List UInt8) (hl : l.length ≤ 140737488355328) : Fc E n_slices_Contains_Lstring_string [.d (.list l.length (l.map D.str)), S s] (B (decide (s ∈ l))) := by
 refine g.fn code_slices_Contains_Lstring_string rfl ?_
 have h := s_IndexS g l s hl
 have hm := idxG_mem s l 0
 generalize idxG l s 0 = r at *
 by_cases hr : 0 ≤ r
 ·rw [decide_eq_true (hm.1 hr)]
  repeat' ((conv => whnf); first
  | refine Ya ?_ | refine Yb ?_ | refine Yc ?_ | refine Yd ?_ | refine Ye ?_ | refine Yf ?_ | refine Yg ?_ | refine Yh ?_ | refine Yi rfl ?_ | refine Yj rfl ?_ | refine Yk rfl ?_ | refine Yl rfl ?_
   | (apply CallI.of; assumption)
   | (refine Ret.mk rfl))
 ·rw [decide_eq_false fun h => hr (hm.2 h)]
  repeat' ((conv => whnf); first
  | refine Ya ?_ | refine Yb ?_ | refine Yc ?_ | refine Yd ?_ | refine Ye ?_ | refine Yf ?_ | refine Yg ?_ | refine Yh ?_ | refine Yi rfl ?_ | refine Yj rfl ?_ | refine Yk rfl ?_ | refine Yl rfl ?_
   | (apply CallI.of; assumption)
   | (refine Ret.mk rfl))
theorem s_TestCheck (t : Tst) : Fc E n_priority_Test_check [Tsv t] (I (chkTs t)) := by
 refine g.fn code_priority_Test_check rfl ?_
 have h1 := s_Facts g
 have h2 : Fc E n_slices_Contains_Lstring_string [.d (.list 10 (fcL.map D.str)), S t.fa] (B (decide (t.fa ∈ fcL))) := s_ContainsS g fcL t.fa (by decide)
 have h3 := s_pwithin g t.va 0 999999999
 have h4 : Fc E n_priority_first [.d (.list 3 [DI (if (!decide (t.fa ∈ fcL)) = true then 10 else 0), DI (if (!opB t.op) = true then 13 else 0), DI (rng t.va 0 999999999)])] (I (chkTs t)) := by
  have e : chkTs t = firstI [if (!decide (t.fa ∈ fcL)) = true then 10 else 0, if (!opB t.op) = true then 13 else 0, rng t.va 0 999999999] := by
   unfold chkTs
   cases opB t.op <;> by_cases hf : t.fa ∈ fcL <;> simp [hf]
  rw [e]
  exact s_pfirst3 g _ _ _
 generalize chkTs t = z at *
 generalize rng t.va 0 999999999 = y at *
 generalize decide (t.fa ∈ fcL) = b at *
 by_cases o1 : t.op = [61]
 ·have ho : opB t.op = true := by simp [opB, o1]
  rw [ho] at h4
  repeat' ((conv => whnf); first
  | refine Ya ?_ | refine Yb ?_ | refine Yc ?_ | refine Yd ?_ | refine Ye ?_ | refine Yf ?_ | refine Yg ?_ | refine Yh ?_ | refine Yi rfl ?_ | refine Yj rfl ?_ | refine Yk rfl ?_ | refine Yl rfl ?_
   | (apply CallI.of; assumption)
   | (refine CallI.of (s_pwhen g _ _) ?_)
   | (refine Cmp.ff (fun h => h o1) ?_)
   | (refine Ret.mk rfl))
 ·by_cases o2 : t.op = [60]
  ·have ho : opB t.op = true := by simp [opB, o2]
   rw [ho] at h4
   repeat' ((conv => whnf); first
   | refine Ya ?_ | refine Yb ?_ | refine Yc ?_ | refine Yd ?_ | refine Ye ?_ | refine Yf ?_ | refine Yg ?_ | refine Yh ?_ | refine Yi rfl ?_ | refine Yj rfl ?_ | refine Yk rfl ?_ | refine Yl rfl ?_
    | (apply CallI.of; assumption)
    | (refine CallI.of (s_pwhen g _ _) ?_)
    | (refine Cmp.tt o1 ?_)
    | (refine Cmp.ff (fun h => h o2) ?_)
    | (refine Ret.mk rfl))
  ·by_cases o3 : t.op = [62]
   ·have ho : opB t.op = true := by simp [opB, o3]
    rw [ho] at h4
    repeat' ((conv => whnf); first
    | refine Ya ?_ | refine Yb ?_ | refine Yc ?_ | refine Yd ?_ | refine Ye ?_ | refine Yf ?_ | refine Yg ?_ | refine Yh ?_ | refine Yi rfl ?_ | refine Yj rfl ?_ | refine Yk rfl ?_ | refine Yl rfl ?_
     | (apply CallI.of; assumption)
     | (refine CallI.of (s_pwhen g _ _) ?_)
     | (refine Cmp.tt o1 ?_)
     | (refine Cmp.tt o2 ?_)
     | (refine Cmp.ff (fun h => h o3) ?_)
     | (refine Ret.mk rfl))
   ·have ho : opB t.op = false := by simp [opB, o1, o2, o3]
    rw [ho] at h4
    repeat' ((conv => whnf); first
    | refine Ya ?_ | refine Yb ?_ | refine Yc ?_ | refine Yd ?_ | refine Ye ?_ | refine Yf ?_ | refine Yg ?_ | refine Yh ?_ | refine Yi rfl ?_ | refine Yj rfl ?_ | refine Yk rfl ?_ | refine Yl rfl ?_
     | (apply CallI.of; assumption)
     | (refine CallI.of (s_pwhen g _ _) ?_)
     | (refine Cmp.tt o1 ?_)
     | (refine Cmp.tt o2 ?_)
     | (refine Cmp.tt o3 ?_)
     | (refine Ret.mk rfl))
theorem r_CheckTest (t : Tst) : Fc E n_ref05_CheckTest [Tsv t] (I (chkTs t)) := by
 refine g.fn code_ref05_CheckTest rfl ?_
 have h1 := r_Facts g
 have h2 := r_HasFact g t.fa
 have h3 := r_CheckRange g t.va 0 999999999
 unfold chkTs
 generalize rng t.va 0 999999999 = y at *
 by_cases hf : t.fa ∈ fcL
 ·rw [decide_eq_true hf] at h2
  rw [if_pos hf]
  by_cases o1 : t.op = [61]
  ·have ho : opB t.op = true := by simp [opB, o1]
   rw [ho]
   repeat' ((conv => whnf); first
   | refine Ya ?_ | refine Yb ?_ | refine Yc ?_ | refine Yd ?_ | refine Ye ?_ | refine Yf ?_ | refine Yg ?_ | refine Yh ?_ | refine Yi rfl ?_ | refine Yj rfl ?_ | refine Yk rfl ?_ | refine Yl rfl ?_
    | (apply CallI.of; assumption)
    | (refine Cmp.ff (fun h => h o1) ?_)
    | (refine Ret.mk ?_))
   all_goals simp [firstI]
   all_goals (intro h; exact h.symm)
  ·by_cases o2 : t.op = [60]
   ·have ho : opB t.op = true := by simp [opB, o2]
    rw [ho]
    repeat' ((conv => whnf); first
    | refine Ya ?_ | refine Yb ?_ | refine Yc ?_ | refine Yd ?_ | refine Ye ?_ | refine Yf ?_ | refine Yg ?_ | refine Yh ?_ | refine Yi rfl ?_ | refine Yj rfl ?_ | refine Yk rfl ?_ | refine Yl rfl ?_
     | (apply CallI.of; assumption)
     | (refine Cmp.tt o1 ?_)
     | (refine Cmp.ff (fun h => h o2) ?_)
     | (refine Ret.mk ?_))
    all_goals simp [firstI]
    all_goals (intro h; exact h.symm)
   ·by_cases o3 : t.op = [62]
    ·have ho : opB t.op = true := by simp [opB, o3]
     rw [ho]
     repeat' ((conv => whnf); first
     | refine Ya ?_ | refine Yb ?_ | refine Yc ?_ | refine Yd ?_ | refine Ye ?_ | refine Yf ?_ | refine Yg ?_ | refine Yh ?_ | refine Yi rfl ?_ | refine Yj rfl ?_ | refine Yk rfl ?_ | refine Yl rfl ?_
      | (apply CallI.of; assumption)
      | (refine Cmp.tt o1 ?_)
      | (refine Cmp.tt o2 ?_)
      | (refine Cmp.ff (fun h => h o3) ?_)
      | (refine Ret.mk ?_))
     all_goals simp [firstI]
     all_goals (intro h; exact h.symm)
    ·have ho : opB t.op = false := by simp [opB, o1, o2, o3]
     rw [ho]
     repeat' ((conv => whnf); first
     | refine Ya ?_ | refine Yb ?_ | refine Yc ?_ | refine Yd ?_ | refine Ye ?_ | refine Yf ?_ | refine Yg ?_ | refine Yh ?_ | refine Yi rfl ?_ | refine Yj rfl ?_ | refine Yk rfl ?_ | refine Yl rfl ?_
      | (apply CallI.of; assumption)
      | (refine Cmp.tt o1 ?_)
      | (refine Cmp.tt o2 ?_)
      | (refine Cmp.tt o3 ?_)
      | (refine Ret.mk ?_))
     all_goals simp [firstI]
 ·rw [decide_eq_false hf] at h2
  rw [if_neg hf]
  repeat' ((conv => whnf); first
  | refine Ya ?_ | refine Yb ?_ | refine Yc ?_ | refine Yd ?_ | refine Ye ?_ | refine Yf ?_ | refine Yg ?_ | refine Yh ?_ | refine Yi rfl ?_ | refine Yj rfl ?_ | refine Yk rfl ?_ | refine Yl rfl ?_
   | (apply CallI.of; assumption)
   | (refine Ret.mk ?_))
  all_goals simp [firstI]
theorem fact_find (c : Clm) (s : List UInt8) (h : s ∈ fcL) (hc : chkCl c = 0) : ∃ n, findE (.str s) facM = some (some (.d (.agg [.str s, .fn n]))) ∧ Fc E n [Clv c] (I (factV c s)) := by
 have f5 := s_fact5 g c (chkCl_per hc)
 simp only [fcL, List.mem_cons, List.not_mem_nil, or_false] at h
 rcases h with rfl | rfl | rfl | rfl | rfl | rfl | rfl | rfl | rfl | rfl
 ·exact ⟨_, rfl, s_fact1 g c⟩
 ·exact ⟨_, rfl, s_fact2 g c⟩
 ·exact ⟨_, rfl, s_fact3 g c⟩
 ·exact ⟨_, rfl, s_fact4 g c⟩
 ·exact ⟨_, rfl, f5⟩
 ·exact ⟨_, rfl, s_fact6 g c⟩
 ·exact ⟨_, rfl, s_fact7 g c⟩
 ·exact ⟨_, rfl, s_fact8 g c⟩
 ·exact ⟨_, rfl, s_fact9 g c⟩
 ·exact ⟨_, rfl, s_fact10 g c⟩
set_option maxHeartbeats 4000000 in
theorem s_holdsV (c : Clm) (fa op : List UInt8) (va : Int) (hc : chkCl c = 0) (hf : fa ∈ fcL) (ho : op = [61] ∨ op = [60] ∨ op = [62]) : Fc E n_priority_holds [Clv c, .d (.agg [.str fa, .str op, DI va])] (B (holdV (factV c fa) op va)) := by
 refine g.fn code_priority_holds rfl ?_
 obtain ⟨n, h1, h2⟩ := fact_find g c fa hf hc
 unfold holdV
 generalize factV c fa = v at *
 rcases ho with rfl | rfl | rfl
 all_goals rcases Int.lt_trichotomy v va with h | h | h
 all_goals (first | rw [if_neg (by decide), if_neg (by decide)] | rw [if_neg (by decide), if_pos rfl] | rw [if_pos rfl])
 all_goals (first | rw [decide_eq_true (by omega)] | rw [decide_eq_false (by omega)])
 all_goals repeat' ((conv => whnf); first
 | refine Ya ?_ | refine Yb ?_ | refine Yc ?_ | refine Yd ?_ | refine Ye ?_ | refine Yf ?_ | refine Yg ?_ | refine Yh ?_ | refine Yi rfl ?_ | refine Yj rfl ?_ | refine Yk rfl ?_ | refine Yl rfl ?_
  | (refine CallS.known g rfl ?_)
  | (refine Find.mk ⟨_, h1, ?_⟩)
  | (apply CallI.of; assumption)
  | (refine Ret.mk rfl))
theorem s_holds (c : Clm) (t : Tst) (hc : chkCl c = 0) (ht : chkTs t = 0) : Fc E n_priority_holds [Clv c, Tsv t] (B (holdB c t)) := s_holdsV g c t.fa t.op t.va hc (chkTs_zero ht).1 (chkTs_zero ht).2
end
end Go.Proofs.YtlnlcdnpgjhaaaaGreatDoor.Co
/-
 Rows of records; the first of errors.
-/
namespace Go.Proofs.YtlnlcdnpgjhaaaaGreatDoor.Co
open Go Go.Evl
theorem flatR_length {α : Type} (cell : α → List D) (w : Nat) (hw : ∀ a, (cell a).length = w) : ∀ l : List α, (l.flatMap cell).length = l.length * w
 | [] => by simp
 | c :: r => by rw [List.flatMap_cons, List.length_append, hw, flatR_length cell w hw r, List.length_cons, Nat.succ_mul]; omega
theorem flatR_drop {α : Type} (cell : α → List D) (w : Nat) (hw : ∀ a, (cell a).length = w) : ∀ (l : List α) (k : Nat), (l.flatMap cell).drop (k * w) = (l.drop k).flatMap cell
 | l, 0 => by simp
 | [], k + 1 => by simp
 | c :: r, k + 1 => by
  rw [List.flatMap_cons, List.drop_succ_cons, ← flatR_drop cell w hw r k, Nat.succ_mul, Nat.add_comm, ← List.drop_drop]
  congr 1
  rw [List.drop_append_of_le_length (by rw [hw]; exact Nat.le_refl _), List.drop_of_length_le (by rw [hw]; exact Nat.le_refl _)]
  rfl
theorem flatR_win {α : Type} (cell : α → List D) (w : Nat) (hw : ∀ a, (cell a).length = w) (l : List α) (k : Nat) (h : k < l.length) : win (l.flatMap cell) (k * w) w = cell l[k] := by
 unfold win
 rw [flatR_drop cell w hw, List.drop_eq_getElem_cons h, List.flatMap_cons, List.take_append_of_le_length (by rw [hw]; exact Nat.le_refl _), List.take_of_length_le (by rw [hw]; exact Nat.le_refl _)]
theorem flatR_get {α : Type} (cell : α → List D) (w : Nat) (hw : ∀ a, (cell a).length = w) (l : List α) (k j : Nat) (h : k < l.length) (hj : j < w) : (l.flatMap cell)[k * w + j]? = (cell l[k])[j]? := by
 rw [← List.getElem?_drop, flatR_drop cell w hw, List.drop_eq_getElem_cons h, List.flatMap_cons, List.getElem?_append_left (by rw [hw]; exact hj)]
theorem flatR_take {α : Type} (cell : α → List D) (l : List α) (k : Nat) (h : k < l.length) : (l.take (k + 1)).flatMap cell = (l.take k).flatMap cell ++ cell l[k] := by
 rw [List.take_add_one, List.flatMap_append, List.getElem?_eq_getElem h]
 simp
theorem PickW.rec {α : Type} {cell : α → List D} {w : Nat} (hw : ∀ a, (cell a).length = w) {l : List α} {i : Int} {K : List D → Prop} (k : Nat) (hi : i = k) (h : k < l.length) (hk : K (cell l[k])) : PickW (l.flatMap cell) (i.toNat * w) w K := by
 subst hi
 rw [Int.toNat_natCast]
 have h1 := flatR_length cell w hw l
 refine ⟨?_, by rw [flatR_win cell w hw l k h]; exact hk⟩
 have h2 : (k + 1) * w ≤ l.length * w := Nat.mul_le_mul_right _ h
 rw [Nat.succ_mul] at h2
 omega
theorem Pick.rec {α : Type} {cell : α → List D} {w : Nat} (hw : ∀ a, (cell a).length = w) {l : List α} {i : Int} {j : Nat} {K : D → Prop} {d : D} (k : Nat) (hi : i = k) (h : k < l.length) (hj : (cell l[k])[j]? = some d) (hk : K d) : Pick (l.flatMap cell) (i.toNat * w + j) K := by
 subst hi
 rw [Int.toNat_natCast]
 have hlt : j < w := by
  have := (List.getElem?_eq_some_iff.1 hj).1
  rwa [hw] at this
 exact ⟨⟨d, by rw [flatR_get cell w hw l k j h hlt]; exact hj, hk⟩⟩
theorem Pick.intI {l : List Int} {i : Int} {K : D → Prop} (k : Nat) (hi : i = k) (h : k < l.length) (hk : K (DI l[k])) : Pick (l.map DI) (i.toNat * 1) K := by
 subst hi
 refine ⟨⟨_, ?_, hk⟩⟩
 simp [h]
theorem Pick.intI0 {l : List Int} {i : Int} {K : D → Prop} (k : Nat) (hi : i = k) (h : k < l.length) (hk : K (DI l[k])) : Pick (l.map DI) ((0 + i.toNat) * 1) K := by
 subst hi
 refine ⟨⟨_, ?_, hk⟩⟩
 simp [h]
end Go.Proofs.YtlnlcdnpgjhaaaaGreatDoor.Co
/-
 Priority: programs, checked by the program.
-/
namespace Go.Proofs.YtlnlcdnpgjhaaaaGreatDoor.Co
open Go Go.Evl
set_option maxRecDepth 100000
theorem Tst.cells_length (t : Tst) : t.cells.length = 3 := rfl
structure Kyt where
 fa : List UInt8
 dn : Bool
def Kyt.cells (k : Kyt) : List D := [.str k.fa, .bool k.dn]
theorem Kyt.cells_length (k : Kyt) : k.cells.length = 2 := rfl
abbrev Kyv (k : Kyt) : V := .d (.agg k.cells)
structure Cls where
 nm : List UInt8
 wh : List Tst
 ky : List Kyt
def Cls.cells (c : Cls) : List D := [.str c.nm, .list c.wh.length (c.wh.flatMap Tst.cells), .list c.ky.length (c.ky.flatMap Kyt.cells)]
theorem Cls.cells_length (c : Cls) : c.cells.length = 3 := rfl
abbrev Csv (c : Cls) : V := .d (.agg c.cells)
abbrev LT (l : List Tst) : V := .d (.list l.length (l.flatMap Tst.cells))
abbrev LK (l : List Kyt) : V := .d (.list l.length (l.flatMap Kyt.cells))
abbrev LC (l : List Cls) : V := .d (.list l.length (l.flatMap Cls.cells))
structure Prg where
 cl : List Cls
 (po «of» fo : Int)
def Prg.cells (p : Prg) : List D := [.list p.cl.length (p.cl.flatMap Cls.cells), DI p.po, DI p.of, DI p.fo]
abbrev Pgv (p : Prg) : V := .d (.agg p.cells)
def chkTsG : List Tst → Int
 | [] => 0
 | t :: r => if chkTs t = 0 then chkTsG r else chkTs t
def nmsK (l : List Kyt) : List (List UInt8) := l.map (·.fa)
def chkKy (seen : List (List UInt8)) (k : Kyt) : Int := firstI [if k.fa ∈ fcL then 0 else 10, if k.fa ∈ seen then 9 else 0]
def chkKyG (seen : List (List UInt8)) : List Kyt → Int
 | [] => 0
 | k :: r => if chkKy seen k = 0 then chkKyG (seen ++ [k.fa]) r else chkKy seen k
def chkCs (c : Cls) : Int := firstI [nmE c.nm, if 8 < c.wh.length then 5 else 0, chkTsG c.wh, if 8 < c.ky.length then 5 else 0, chkKyG [] c.ky]
def nmsC (l : List Cls) : List (List UInt8) := l.map (·.nm)
def chkCa (seen : List (List UInt8)) (c : Cls) : Int := firstI [chkCs c, if c.nm ∈ seen then 9 else 0]
def chkCsG (seen : List (List UInt8)) : List Cls → Int
 | [] => 0
 | c :: r => if chkCa seen c = 0 then chkCsG (seen ++ [c.nm]) r else chkCa seen c
def chkPool (p : Prg) : Int := firstI [rng p.po 0 p.cl.length, rng p.of 1 100, rng p.fo 0 p.of]
def chkPg (p : Prg) : Int := firstI [if p.cl.length = 0 then 12 else 0, if 16 < p.cl.length then 5 else 0, chkCsG [] p.cl, chkPool p]
theorem nms_succ {α : Type} (f : α → List UInt8) {l : List α} {k : Nat} (h : k < l.length) : (l.take (k + 1)).map f = (l.take k).map f ++ [f l[k]] := by
 rw [List.take_add_one, List.getElem?_eq_getElem h, List.map_append]
 rfl
theorem win_takeG {α : Type} (f : α → List D) (n : Nat) (hf : ∀ a, (f a).length = n) (l : List α) (k : Nat) (h : k ≤ l.length) : win (l.flatMap f) 0 (k * n) = (l.take k).flatMap f := by
 unfold win
 rw [List.drop_zero]
 have e : l.flatMap f = (l.take k).flatMap f ++ (l.drop k).flatMap f := by rw [← List.flatMap_append, List.take_append_drop]
 have hn := flatR_length f n hf (l.take k)
 rw [List.length_take, Nat.min_eq_left h] at hn
 rw [e, List.take_append_of_le_length (by omega), List.take_of_length_le (by omega)]
theorem sl_take {α : Type} (f : α → List D) (n : Nat) (hf : ∀ a, (f a).length = n) (l : List α) (k : Nat) (h : k ≤ l.length) : V.d (.list (k - 0) (win (l.flatMap f) (0 * n) ((k - 0) * n))) = .d (.list (l.take k).length ((l.take k).flatMap f)) := by
 rw [Nat.zero_mul, Nat.sub_zero, win_takeG f n hf l k h, List.length_take, Nat.min_eq_left h]
section
variable {E : Oracle} (g : Good E)
include g
theorem s_Cc1 (l : List Tst) (t : Tst) : Fc E n_priority_Class_check_1 [LT l, Tsv t] (I (chkTs t)) := by
 refine g.fn code_priority_Class_check_1 rfl ?_
 have h := s_TestCheck g t
 repeat' ((conv => whnf); first
 | refine Ya ?_ | refine Yb ?_ | refine Yc ?_ | refine Yd ?_ | refine Ye ?_ | refine Yf ?_ | refine Yg ?_ | refine Yh ?_ | refine Yi rfl ?_ | refine Yj rfl ?_ | refine Yk rfl ?_ | refine Yl rfl ?_
  | (apply CallI.of; assumption)
  | (refine Ret.mk rfl))
set_option maxHeartbeats 4000000 in
theorem s_eachT (l : List Tst) (hl : l.length ≤ 1000000) : Fc E n_priority_each_priority_Test [LT l, .d (.fn n_priority_Class_check_1)] (I (chkTsG l)) := by
 refine g.fn code_priority_each_priority_Test rfl ?_
 generalize hR : chkTsG l = R
 repeat' ((conv => whnf); first
 | refine Ya ?_ | refine Yb ?_ | refine Yc ?_ | refine Yd ?_ | refine Ye ?_ | refine Yf ?_ | refine Yg ?_ | refine Yh ?_ | refine Yi rfl ?_ | refine Yj rfl ?_ | refine Yk rfl ?_ | refine Yl rfl ?_)
 refine LoopW.to (LoopW.upP g (fun k => [(0, LT l), (1, .d (.fn n_priority_Class_check_1)), (8, LT l), (9, I l.length), (10, I k)]) (fun _ => []) (fun k => chkTsG (l.drop k) = R) l.length (fun k hk h0 ih => ?_) 0 (Nat.zero_le _) hR) rfl rfl
 by_cases hlt : k < l.length
 ·rw [List.drop_eq_getElem_cons hlt, chkTsG] at h0
  have ih := ih hlt
  have hn := s_Cc1 g (l.take k) l[k]
  have ht := sl_take Tst.cells 3 Tst.cells_length l k (by omega)
  generalize chkTs l[k] = r at *
  by_cases hz : r = 0
  ·rw [if_pos hz] at h0
   have ih := ih h0
   repeat' ((conv => whnf); first
   | refine Ya ?_ | refine Yb ?_ | refine Yc ?_ | refine Yd ?_ | refine Ye ?_ | refine Yf ?_ | refine Yg ?_ | refine Yh ?_ | refine Yi rfl ?_ | refine Yj rfl ?_ | refine Yk rfl ?_ | refine Yl rfl ?_
    | (refine PickW.rec Tst.cells_length k rfl hlt ?_)
    | (refine Bounds.at 0 k rfl rfl (by omega) ?_ <;> (try rw [ht]))
    | (refine CallI.of hn ?_)
    | (refine Cmp.ff (fun h => h hz) ?_)
    | (refine LoopW.to ih rfl rfl))
  ·rw [if_neg hz] at h0
   rw [← h0]
   repeat' ((conv => whnf); first
   | refine Ya ?_ | refine Yb ?_ | refine Yc ?_ | refine Yd ?_ | refine Ye ?_ | refine Yf ?_ | refine Yg ?_ | refine Yh ?_ | refine Yi rfl ?_ | refine Yj rfl ?_ | refine Yk rfl ?_ | refine Yl rfl ?_
    | (refine PickW.rec Tst.cells_length k rfl hlt ?_)
    | (refine Bounds.at 0 k rfl rfl (by omega) ?_ <;> (try rw [ht]))
    | (refine CallI.of hn ?_)
    | (refine Cmp.tt hz ?_)
    | (refine Ret.mk rfl))
 ·rw [List.drop_eq_nil_of_le (by omega), chkTsG] at h0
  rw [← h0]
  repeat' ((conv => whnf); first
  | refine Ya ?_ | refine Yb ?_ | refine Yc ?_ | refine Yd ?_ | refine Ye ?_ | refine Yf ?_ | refine Yg ?_ | refine Yh ?_ | refine Yi rfl ?_ | refine Yj rfl ?_ | refine Yk rfl ?_ | refine Yl rfl ?_
   | (refine Ret.mk rfl))
set_option maxHeartbeats 4000000 in
theorem in_key (l : List Kyt) (q : Kyt) (hl : l.length ≤ 1000000) {K : V → Mem → Prop}
  (hK : K (I (idxG (nmsK l) q.fa 0)) [(⟨0, 3, 0⟩, .cells ty_priority_Key (q.cells.map V.d))]) :
  In E 2 n_slices_IndexFunc_Lpriority_Key_priority_Key [LK l, .fn n_priority_Class_check_2_1 [] [.ptr ⟨0, 3, 0⟩ 0 0]] [(⟨0, 3, 0⟩, .cells ty_priority_Key (q.cells.map V.d))] K := by
 generalize hA : idxG (nmsK l) q.fa 0 = A at *
 refine In.enter g.lim rfl code_slices_IndexFunc_Lpriority_Key_priority_Key ?_
 repeat' ((conv => whnf); first
 | refine Ya ?_ | refine Yb ?_ | refine Yc ?_ | refine Yd ?_ | refine Ye ?_ | refine Yf ?_ | refine Yg ?_ | refine Yh ?_ | refine Yi rfl ?_ | refine Yj rfl ?_ | refine Yk rfl ?_ | refine Yl rfl ?_)
 refine LoopW.to (LoopW.upP g (fun k => [(0, LK l), (1, .fn n_priority_Class_check_2_1 [] [.ptr ⟨0, 3, 0⟩ 0 0]), (7, I l.length), (8, I k)]) (fun _ => _) (fun k => idxG (nmsK (l.drop k)) q.fa k = A) l.length (fun k hk h0 ih => ?_) 0 (Nat.zero_le _) hA) rfl rfl
 by_cases hlt : k < l.length
 ·rw [List.drop_eq_getElem_cons hlt, nmsK, List.map_cons, idxG] at h0
  have ih := ih hlt
  by_cases hd : l[k].fa = q.fa
  ·rw [if_pos hd.symm] at h0
   subst h0
   repeat' ((conv => whnf); first
   | refine Ya ?_ | refine Yb ?_ | refine Yc ?_ | refine Yd ?_ | refine Ye ?_ | refine Yf ?_ | refine Yg ?_ | refine Yh ?_ | refine Yi rfl ?_ | refine Yj rfl ?_ | refine Yk rfl ?_ | refine Yl rfl ?_
    | (refine PickW.rec Kyt.cells_length k rfl hlt ?_)
    | (refine In.enter g.lim rfl code_priority_Class_check_2_1 ?_)
    | (refine Cmp.tt hd ?_)
    | (exact hK))
  ·rw [if_neg (Ne.symm hd)] at h0
   have ih := ih h0
   repeat' ((conv => whnf); first
   | refine Ya ?_ | refine Yb ?_ | refine Yc ?_ | refine Yd ?_ | refine Ye ?_ | refine Yf ?_ | refine Yg ?_ | refine Yh ?_ | refine Yi rfl ?_ | refine Yj rfl ?_ | refine Yk rfl ?_ | refine Yl rfl ?_
    | (refine PickW.rec Kyt.cells_length k rfl hlt ?_)
    | (refine In.enter g.lim rfl code_priority_Class_check_2_1 ?_)
    | (refine Cmp.ff hd ?_)
    | (refine LoopW.to ih rfl rfl))
 ·rw [List.drop_eq_nil_of_le (by omega), nmsK, List.map_nil, idxG] at h0
  subst h0
  repeat' ((conv => whnf); first
  | refine Ya ?_ | refine Yb ?_ | refine Yc ?_ | refine Yd ?_ | refine Ye ?_ | refine Yf ?_ | refine Yg ?_ | refine Yh ?_ | refine Yi rfl ?_ | refine Yj rfl ?_ | refine Yk rfl ?_ | refine Yl rfl ?_
   | (exact hK))
set_option maxHeartbeats 4000000 in
theorem s_Cc2 (l : List Kyt) (q : Kyt) (hl : l.length ≤ 1000000) : Fc E n_priority_Class_check_2 [LK l, Kyv q] (I (chkKy (nmsK l) q)) := by
 refine g.fn code_priority_Class_check_2 rfl ?_
 have h1 := s_Facts g
 have h2 : Fc E n_slices_Contains_Lstring_string [.d (.list 10 (fcL.map D.str)), S q.fa] (B (decide (q.fa ∈ fcL))) := s_ContainsS g fcL q.fa (by decide)
 have h3 := s_pfirst2 g (if (!decide (q.fa ∈ fcL)) = true then 10 else 0) (if q.fa ∈ nmsK l then 9 else 0)
 have e : chkKy (nmsK l) q = firstI [if (!decide (q.fa ∈ fcL)) = true then 10 else 0, if q.fa ∈ nmsK l then 9 else 0] := by
  unfold chkKy
  by_cases hf : q.fa ∈ fcL <;> simp [hf]
 rw [e]
 have hm := idxG_mem q.fa (nmsK l) 0
 have hin := fun {K} => in_key g (K := K) l q hl
 generalize idxG (nmsK l) q.fa 0 = r at *
 generalize decide (q.fa ∈ fcL) = b at *
 by_cases hr : 0 ≤ r
 ·rw [if_pos (hm.1 hr)] at h3 ⊢
  repeat' ((conv => whnf); first
  | refine Ya ?_ | refine Yb ?_ | refine Yc ?_ | refine Yd ?_ | refine Ye ?_ | refine Yf ?_ | refine Yg ?_ | refine Yh ?_ | refine Yi rfl ?_ | refine Yj rfl ?_ | refine Yk rfl ?_ | refine Yl rfl ?_
   | (refine In.enter g.lim rfl code_slices_ContainsFunc_Lpriority_Key_priority_Key ?_)
   | (refine hin ?_)
   | (apply CallI.of; assumption)
   | (refine CallI.of (s_pwhen g _ _) ?_)
   | (refine Ret.mk rfl))
 ·rw [if_neg (fun h => hr (hm.2 h))] at h3 ⊢
  repeat' ((conv => whnf); first
  | refine Ya ?_ | refine Yb ?_ | refine Yc ?_ | refine Yd ?_ | refine Ye ?_ | refine Yf ?_ | refine Yg ?_ | refine Yh ?_ | refine Yi rfl ?_ | refine Yj rfl ?_ | refine Yk rfl ?_ | refine Yl rfl ?_
   | (refine In.enter g.lim rfl code_slices_ContainsFunc_Lpriority_Key_priority_Key ?_)
   | (refine hin ?_)
   | (apply CallI.of; assumption)
   | (refine CallI.of (s_pwhen g _ _) ?_)
   | (refine Ret.mk rfl))
set_option maxHeartbeats 4000000 in
theorem s_eachK (l : List Kyt) (hl : l.length ≤ 1000000) : Fc E n_priority_each_priority_Key [LK l, .d (.fn n_priority_Class_check_2)] (I (chkKyG [] l)) := by
 refine g.fn code_priority_each_priority_Key rfl ?_
 generalize hR : chkKyG [] l = R
 repeat' ((conv => whnf); first
 | refine Ya ?_ | refine Yb ?_ | refine Yc ?_ | refine Yd ?_ | refine Ye ?_ | refine Yf ?_ | refine Yg ?_ | refine Yh ?_ | refine Yi rfl ?_ | refine Yj rfl ?_ | refine Yk rfl ?_ | refine Yl rfl ?_)
 refine LoopW.to (LoopW.upP g (fun k => [(0, LK l), (1, .d (.fn n_priority_Class_check_2)), (8, LK l), (9, I l.length), (10, I k)]) (fun _ => []) (fun k => chkKyG (nmsK (l.take k)) (l.drop k) = R) l.length (fun k hk h0 ih => ?_) 0 (Nat.zero_le _) hR) rfl rfl
 by_cases hlt : k < l.length
 ·have hs : nmsK (l.take (k + 1)) = nmsK (l.take k) ++ [l[k].fa] := nms_succ Kyt.fa hlt
  rw [List.drop_eq_getElem_cons hlt, chkKyG, ← hs] at h0
  have ih := ih hlt
  have hn := s_Cc2 g (l.take k) l[k] (by simp; omega)
  have ht := sl_take Kyt.cells 2 Kyt.cells_length l k (by omega)
  generalize chkKy (nmsK (l.take k)) l[k] = r at *
  by_cases hz : r = 0
  ·rw [if_pos hz] at h0
   have ih := ih h0
   repeat' ((conv => whnf); first
   | refine Ya ?_ | refine Yb ?_ | refine Yc ?_ | refine Yd ?_ | refine Ye ?_ | refine Yf ?_ | refine Yg ?_ | refine Yh ?_ | refine Yi rfl ?_ | refine Yj rfl ?_ | refine Yk rfl ?_ | refine Yl rfl ?_
    | (refine PickW.rec Kyt.cells_length k rfl hlt ?_)
    | (refine Bounds.at 0 k rfl rfl (by omega) ?_ <;> (try rw [ht]))
    | (refine CallI.of hn ?_)
    | (refine Cmp.ff (fun h => h hz) ?_)
    | (refine LoopW.to ih rfl rfl))
  ·rw [if_neg hz] at h0
   rw [← h0]
   repeat' ((conv => whnf); first
   | refine Ya ?_ | refine Yb ?_ | refine Yc ?_ | refine Yd ?_ | refine Ye ?_ | refine Yf ?_ | refine Yg ?_ | refine Yh ?_ | refine Yi rfl ?_ | refine Yj rfl ?_ | refine Yk rfl ?_ | refine Yl rfl ?_
    | (refine PickW.rec Kyt.cells_length k rfl hlt ?_)
    | (refine Bounds.at 0 k rfl rfl (by omega) ?_ <;> (try rw [ht]))
    | (refine CallI.of hn ?_)
    | (refine Cmp.tt hz ?_)
    | (refine Ret.mk rfl))
 ·rw [List.drop_eq_nil_of_le (by omega), chkKyG] at h0
  rw [← h0]
  repeat' ((conv => whnf); first
  | refine Ya ?_ | refine Yb ?_ | refine Yc ?_ | refine Yd ?_ | refine Ye ?_ | refine Yf ?_ | refine Yg ?_ | refine Yh ?_ | refine Yi rfl ?_ | refine Yj rfl ?_ | refine Yk rfl ?_ | refine Yl rfl ?_
   | (refine Ret.mk rfl))
end
end Go.Proofs.YtlnlcdnpgjhaaaaGreatDoor.Co
/-
 Priority: CheckProgram, by the program.
-/
namespace Go.Proofs.YtlnlcdnpgjhaaaaGreatDoor.Co
open Go Go.Evl
set_option maxRecDepth 100000
theorem firstI_two (a b : Int) (r : List Int) : firstI (a :: b :: r) = if firstI [a, b] = 0 then firstI r else firstI [a, b] := by
 simp only [firstI]
 by_cases ha : a = 0
 ·by_cases hb : b = 0 <;> simp [ha, hb]
 ·simp [ha]
def SmallC (c : Cls) : Prop := c.wh.length ≤ 1000000 ∧ c.ky.length ≤ 1000000
def SmallP (p : Prg) : Prop := p.cl.length ≤ 1000000 ∧ ∀ c ∈ p.cl, SmallC c
section
variable {E : Oracle} (g : Good E)
include g
set_option maxHeartbeats 4000000 in
theorem s_ClassCheck (c : Cls) (hs : SmallC c) : Fc E n_priority_Class_check [Csv c] (I (chkCs c)) := by
 refine g.fn code_priority_Class_check rfl ?_
 have h1 := s_IsName g c.nm
 have h2 := s_eachT g c.wh hs.1
 have h3 := s_eachK g c.ky hs.2
 have hp := s_pfirst2 g (nmE c.nm) (if 8 < c.wh.length then 5 else 0)
 have hq := s_pfirst3 g (chkTsG c.wh) (if 8 < c.ky.length then 5 else 0) (chkKyG [] c.ky)
 unfold chkCs
 rw [firstI_two]
 unfold nmE at *
 obtain ⟨l1, l2⟩ := hs
 generalize firstI [chkTsG c.wh, if 8 < c.ky.length then 5 else 0, chkKyG [] c.ky] = q at *
 by_cases n1 : 8 < c.wh.length
 ·rw [if_pos n1] at hp ⊢
  generalize isNameB c.nm = b at *
  have hz : firstI [if (!b) = true then 8 else 0, 5] ≠ 0 := by cases b <;> decide
  rw [if_neg hz]
  generalize firstI [if (!b) = true then 8 else 0, 5] = r at *
  repeat' ((conv => whnf); first
  | refine Ya ?_ | refine Yb ?_ | refine Yc ?_ | refine Yd ?_ | refine Ye ?_ | refine Yf ?_ | refine Yg ?_ | refine Yh ?_ | refine Yi rfl ?_ | refine Yj rfl ?_ | refine Yk rfl ?_ | refine Yl rfl ?_
   | (apply CallI.of; assumption)
   | (refine CallI.of (s_pwhen g _ _) ?_)
   | (refine Cmp.tt hz ?_)
   | (refine Ret.mk rfl))
 ·rw [if_neg n1] at hp ⊢
  generalize isNameB c.nm = b at *
  generalize firstI [if (!b) = true then 8 else 0, 0] = r at *
  by_cases hz : r = 0
  ·rw [if_pos hz]
   by_cases n2 : 8 < c.ky.length
   ·rw [if_pos n2] at hq
    repeat' ((conv => whnf); first
    | refine Ya ?_ | refine Yb ?_ | refine Yc ?_ | refine Yd ?_ | refine Ye ?_ | refine Yf ?_ | refine Yg ?_ | refine Yh ?_ | refine Yi rfl ?_ | refine Yj rfl ?_ | refine Yk rfl ?_ | refine Yl rfl ?_
     | (apply CallI.of; assumption)
     | (refine CallI.of (s_pwhen g _ _) ?_)
     | (refine Cmp.ff (fun h => h hz) ?_)
     | (refine Ret.mk rfl))
   ·rw [if_neg n2] at hq
    repeat' ((conv => whnf); first
    | refine Ya ?_ | refine Yb ?_ | refine Yc ?_ | refine Yd ?_ | refine Ye ?_ | refine Yf ?_ | refine Yg ?_ | refine Yh ?_ | refine Yi rfl ?_ | refine Yj rfl ?_ | refine Yk rfl ?_ | refine Yl rfl ?_
     | (apply CallI.of; assumption)
     | (refine CallI.of (s_pwhen g _ _) ?_)
     | (refine Cmp.ff (fun h => h hz) ?_)
     | (refine Ret.mk rfl))
  ·rw [if_neg hz]
   repeat' ((conv => whnf); first
   | refine Ya ?_ | refine Yb ?_ | refine Yc ?_ | refine Yd ?_ | refine Ye ?_ | refine Yf ?_ | refine Yg ?_ | refine Yh ?_ | refine Yi rfl ?_ | refine Yj rfl ?_ | refine Yk rfl ?_ | refine Yl rfl ?_
    | (apply CallI.of; assumption)
    | (refine CallI.of (s_pwhen g _ _) ?_)
    | (refine Cmp.tt hz ?_)
    | (refine Ret.mk rfl))
set_option maxHeartbeats 4000000 in
theorem in_cls (l : List Cls) (q : Cls) (hl : l.length ≤ 1000000) {K : V → Mem → Prop}
  (hK : K (I (idxG (nmsC l) q.nm 0)) [(⟨0, 3, 0⟩, .cells ty_priority_Class [V.d (.str q.nm), V.d (.list q.wh.length (q.wh.flatMap Tst.cells)), V.d (.list q.ky.length (q.ky.flatMap Kyt.cells))])]) :
  In E 2 n_slices_IndexFunc_Lpriority_Class_priority_Class [LC l, .fn n_priority_added_1 [] [.ptr ⟨0, 3, 0⟩ 0 0]] [(⟨0, 3, 0⟩, .cells ty_priority_Class [V.d (.str q.nm), V.d (.list q.wh.length (q.wh.flatMap Tst.cells)), V.d (.list q.ky.length (q.ky.flatMap Kyt.cells))])] K := by
 generalize hA : idxG (nmsC l) q.nm 0 = A at *
 refine In.enter g.lim rfl code_slices_IndexFunc_Lpriority_Class_priority_Class ?_
 repeat' ((conv => whnf); first
 | refine Ya ?_ | refine Yb ?_ | refine Yc ?_ | refine Yd ?_ | refine Ye ?_ | refine Yf ?_ | refine Yg ?_ | refine Yh ?_ | refine Yi rfl ?_ | refine Yj rfl ?_ | refine Yk rfl ?_ | refine Yl rfl ?_)
 refine LoopW.to (LoopW.upP g (fun k => [(0, LC l), (1, .fn n_priority_added_1 [] [.ptr ⟨0, 3, 0⟩ 0 0]), (7, I l.length), (8, I k)]) (fun _ => _) (fun k => idxG (nmsC (l.drop k)) q.nm k = A) l.length (fun k hk h0 ih => ?_) 0 (Nat.zero_le _) hA) rfl rfl
 by_cases hlt : k < l.length
 ·rw [List.drop_eq_getElem_cons hlt, nmsC, List.map_cons, idxG] at h0
  have ih := ih hlt
  by_cases hd : l[k].nm = q.nm
  ·rw [if_pos hd.symm] at h0
   subst h0
   repeat' ((conv => whnf); first
   | refine Ya ?_ | refine Yb ?_ | refine Yc ?_ | refine Yd ?_ | refine Ye ?_ | refine Yf ?_ | refine Yg ?_ | refine Yh ?_ | refine Yi rfl ?_ | refine Yj rfl ?_ | refine Yk rfl ?_ | refine Yl rfl ?_
    | (refine PickW.rec Cls.cells_length k rfl hlt ?_)
    | (refine In.enter g.lim rfl code_priority_added_1 ?_)
    | (refine Cmp.tt hd ?_)
    | (exact hK))
  ·rw [if_neg (Ne.symm hd)] at h0
   have ih := ih h0
   repeat' ((conv => whnf); first
   | refine Ya ?_ | refine Yb ?_ | refine Yc ?_ | refine Yd ?_ | refine Ye ?_ | refine Yf ?_ | refine Yg ?_ | refine Yh ?_ | refine Yi rfl ?_ | refine Yj rfl ?_ | refine Yk rfl ?_ | refine Yl rfl ?_
    | (refine PickW.rec Cls.cells_length k rfl hlt ?_)
    | (refine In.enter g.lim rfl code_priority_added_1 ?_)
    | (refine Cmp.ff hd ?_)
    | (refine LoopW.to ih rfl rfl))
 ·rw [List.drop_eq_nil_of_le (by omega), nmsC, List.map_nil, idxG] at h0
  subst h0
  repeat' ((conv => whnf); first
  | refine Ya ?_ | refine Yb ?_ | refine Yc ?_ | refine Yd ?_ | refine Ye ?_ | refine Yf ?_ | refine Yg ?_ | refine Yh ?_ | refine Yi rfl ?_ | refine Yj rfl ?_ | refine Yk rfl ?_ | refine Yl rfl ?_
   | (exact hK))
set_option maxHeartbeats 4000000 in
theorem s_added (l : List Cls) (c : Cls) (hl : l.length ≤ 1000000) (hs : SmallC c) : Fc E n_priority_added [LC l, Csv c] (I (chkCa (nmsC l) c)) := by
 refine g.fn code_priority_added rfl ?_
 have h1 := s_ClassCheck g c hs
 have h3 := s_pfirst2 g (chkCs c) (if c.nm ∈ nmsC l then 9 else 0)
 unfold chkCa
 have hm := idxG_mem c.nm (nmsC l) 0
 have hin := fun {K} => in_cls g (K := K) l c hl
 generalize idxG (nmsC l) c.nm 0 = r at *
 generalize chkCs c = e at *
 by_cases hr : 0 ≤ r
 ·rw [if_pos (hm.1 hr)] at h3 ⊢
  repeat' ((conv => whnf); first
  | refine Ya ?_ | refine Yb ?_ | refine Yc ?_ | refine Yd ?_ | refine Ye ?_ | refine Yf ?_ | refine Yg ?_ | refine Yh ?_ | refine Yi rfl ?_ | refine Yj rfl ?_ | refine Yk rfl ?_ | refine Yl rfl ?_
   | (refine In.enter g.lim rfl code_slices_ContainsFunc_Lpriority_Class_priority_Class ?_)
   | (refine hin ?_)
   | (apply CallI.of; assumption)
   | (refine CallI.of (s_pwhen g _ _) ?_)
   | (refine Ret.mk rfl))
 ·rw [if_neg (fun h => hr (hm.2 h))] at h3 ⊢
  repeat' ((conv => whnf); first
  | refine Ya ?_ | refine Yb ?_ | refine Yc ?_ | refine Yd ?_ | refine Ye ?_ | refine Yf ?_ | refine Yg ?_ | refine Yh ?_ | refine Yi rfl ?_ | refine Yj rfl ?_ | refine Yk rfl ?_ | refine Yl rfl ?_
   | (refine In.enter g.lim rfl code_slices_ContainsFunc_Lpriority_Class_priority_Class ?_)
   | (refine hin ?_)
   | (apply CallI.of; assumption)
   | (refine CallI.of (s_pwhen g _ _) ?_)
   | (refine Ret.mk rfl))
set_option maxHeartbeats 4000000 in
theorem s_eachC (l : List Cls) (hl : l.length ≤ 1000000) (hs : ∀ c ∈ l, SmallC c) : Fc E n_priority_each_priority_Class [LC l, .d (.fn n_priority_added)] (I (chkCsG [] l)) := by
 refine g.fn code_priority_each_priority_Class rfl ?_
 generalize hR : chkCsG [] l = R
 repeat' ((conv => whnf); first
 | refine Ya ?_ | refine Yb ?_ | refine Yc ?_ | refine Yd ?_ | refine Ye ?_ | refine Yf ?_ | refine Yg ?_ | refine Yh ?_ | refine Yi rfl ?_ | refine Yj rfl ?_ | refine Yk rfl ?_ | refine Yl rfl ?_)
 refine LoopW.to (LoopW.upP g (fun k => [(0, LC l), (1, .d (.fn n_priority_added)), (8, LC l), (9, I l.length), (10, I k)]) (fun _ => []) (fun k => chkCsG (nmsC (l.take k)) (l.drop k) = R) l.length (fun k hk h0 ih => ?_) 0 (Nat.zero_le _) hR) rfl rfl
 by_cases hlt : k < l.length
 ·have e : nmsC (l.take (k + 1)) = nmsC (l.take k) ++ [l[k].nm] := nms_succ Cls.nm hlt
  rw [List.drop_eq_getElem_cons hlt, chkCsG, ← e] at h0
  have ih := ih hlt
  have hn := s_added g (l.take k) l[k] (by simp; omega) (hs _ (List.getElem_mem hlt))
  have ht := sl_take Cls.cells 3 Cls.cells_length l k (by omega)
  generalize chkCa (nmsC (l.take k)) l[k] = r at *
  by_cases hz : r = 0
  ·rw [if_pos hz] at h0
   have ih := ih h0
   repeat' ((conv => whnf); first
   | refine Ya ?_ | refine Yb ?_ | refine Yc ?_ | refine Yd ?_ | refine Ye ?_ | refine Yf ?_ | refine Yg ?_ | refine Yh ?_ | refine Yi rfl ?_ | refine Yj rfl ?_ | refine Yk rfl ?_ | refine Yl rfl ?_
    | (refine PickW.rec Cls.cells_length k rfl hlt ?_)
    | (refine Bounds.at 0 k rfl rfl (by omega) ?_ <;> (try rw [ht]))
    | (refine CallI.of hn ?_)
    | (refine Cmp.ff (fun h => h hz) ?_)
    | (refine LoopW.to ih rfl rfl))
  ·rw [if_neg hz] at h0
   rw [← h0]
   repeat' ((conv => whnf); first
   | refine Ya ?_ | refine Yb ?_ | refine Yc ?_ | refine Yd ?_ | refine Ye ?_ | refine Yf ?_ | refine Yg ?_ | refine Yh ?_ | refine Yi rfl ?_ | refine Yj rfl ?_ | refine Yk rfl ?_ | refine Yl rfl ?_
    | (refine PickW.rec Cls.cells_length k rfl hlt ?_)
    | (refine Bounds.at 0 k rfl rfl (by omega) ?_ <;> (try rw [ht]))
    | (refine CallI.of hn ?_)
    | (refine Cmp.tt hz ?_)
    | (refine Ret.mk rfl))
 ·rw [List.drop_eq_nil_of_le (by omega), chkCsG] at h0
  rw [← h0]
  repeat' ((conv => whnf); first
  | refine Ya ?_ | refine Yb ?_ | refine Yc ?_ | refine Yd ?_ | refine Ye ?_ | refine Yf ?_ | refine Yg ?_ | refine Yh ?_ | refine Yi rfl ?_ | refine Yj rfl ?_ | refine Yk rfl ?_ | refine Yl rfl ?_
   | (refine Ret.mk rfl))
theorem s_ppool (p : Prg) : Fc E n_priority_Program_pool [Pgv p] (I (chkPool p)) := by
 refine g.fn code_priority_Program_pool rfl ?_
 have h := s_pwithin g
 repeat' ((conv => whnf); first
 | refine Ya ?_ | refine Yb ?_ | refine Yc ?_ | refine Yd ?_ | refine Ye ?_ | refine Yf ?_ | refine Yg ?_ | refine Yh ?_ | refine Yi rfl ?_ | refine Yj rfl ?_ | refine Yk rfl ?_ | refine Yl rfl ?_
  | (refine CallI.of (h _ _ _) ?_)
  | (refine CallI.of (s_pfirst3 g _ _ _) ?_)
  | (refine Ret.mk rfl))
set_option maxHeartbeats 4000000 in
theorem s_CheckProgram (p : Prg) (hs : SmallP p) : Fc E n_priority_CheckProgram [Pgv p] (I (chkPg p)) := by
 refine g.fn code_priority_CheckProgram rfl ?_
 have h1 := s_eachC g p.cl hs.1 hs.2
 have h2 := s_ppool g p
 have hq := s_pfirst2 g (chkCsG [] p.cl) (chkPool p)
 have hl := hs.1
 unfold chkPg
 rw [firstI_two]
 generalize firstI [chkCsG [] p.cl, chkPool p] = q at *
 by_cases n1 : p.cl.length = 0
 ·rw [if_pos n1, if_neg (show ¬ 16 < p.cl.length by omega), if_neg (show ¬ firstI [12, 0] = 0 by decide)]
  repeat' ((conv => whnf); first
  | refine Ya ?_ | refine Yb ?_ | refine Yc ?_ | refine Yd ?_ | refine Ye ?_ | refine Yf ?_ | refine Yg ?_ | refine Yh ?_ | refine Yi rfl ?_ | refine Yj rfl ?_ | refine Yk rfl ?_ | refine Yl rfl ?_
   | (apply CallI.of; assumption)
   | (refine CallI.of (s_pwhen g _ _) ?_)
   | (refine CallI.of (s_pfirst2 g _ _) ?_)
   | (refine Ret.mk rfl))
 ·rw [if_neg n1]
  by_cases n2 : 16 < p.cl.length
  ·rw [if_pos n2, if_neg (show ¬ firstI [0, 5] = 0 by decide)]
   repeat' ((conv => whnf); first
   | refine Ya ?_ | refine Yb ?_ | refine Yc ?_ | refine Yd ?_ | refine Ye ?_ | refine Yf ?_ | refine Yg ?_ | refine Yh ?_ | refine Yi rfl ?_ | refine Yj rfl ?_ | refine Yk rfl ?_ | refine Yl rfl ?_
    | (apply CallI.of; assumption)
    | (refine CallI.of (s_pwhen g _ _) ?_)
    | (refine CallI.of (s_pfirst2 g _ _) ?_)
    | (refine Ret.mk rfl))
  ·rw [if_neg n2, if_pos (show firstI [0, 0] = 0 by decide)]
   repeat' ((conv => whnf); first
   | refine Ya ?_ | refine Yb ?_ | refine Yc ?_ | refine Yd ?_ | refine Ye ?_ | refine Yf ?_ | refine Yg ?_ | refine Yh ?_ | refine Yi rfl ?_ | refine Yj rfl ?_ | refine Yk rfl ?_ | refine Yl rfl ?_
    | (apply CallI.of; assumption)
    | (refine CallI.of (s_pwhen g _ _) ?_)
    | (refine CallI.of (s_pfirst2 g _ _) ?_)
    | (refine Ret.mk rfl))
end
end Go.Proofs.YtlnlcdnpgjhaaaaGreatDoor.Co
/-
 Priority: lists of claims, checked by the program and by the reference; the law's copy of them.
-/
namespace Go.Proofs.YtlnlcdnpgjhaaaaGreatDoor.Co
open Go Go.Evl
set_option maxRecDepth 100000
def nmsM (l : List Clm) : List (List UInt8) := l.map (·.rq.nm)
def chkCm (seen : List (List UInt8)) (c : Clm) : Int := firstI [chkCl c, if c.rq.nm ∈ seen then 9 else 0]
def chkCmG (seen : List (List UInt8)) : List Clm → Int
 | [] => 0
 | c :: r => if chkCm seen c = 0 then chkCmG (seen ++ [c.rq.nm]) r else chkCm seen c
def chkCms (l : List Clm) : Int := if 64 < l.length then 5 else chkCmG [] l
theorem chkCmG_zero : ∀ {l : List Clm} {seen : List (List UInt8)}, chkCmG seen l = 0 → (∀ c ∈ l, chkCl c = 0) ∧ (∀ c ∈ l, c.rq.nm ∉ seen) ∧ (nmsM l).Nodup
 | [], _, _ => ⟨fun _ h => (by cases h), fun _ h => (by cases h), List.Pairwise.nil⟩
 | x :: r, seen, h => by
  rw [chkCmG] at h
  by_cases hz : chkCm seen x = 0
  ·rw [if_pos hz] at h
   obtain ⟨h1, h2, h3⟩ := chkCmG_zero h
   unfold chkCm at hz
   rw [firstI_zero] at hz
   have z1 := hz (chkCl x) (by simp)
   have z2 := hz (if x.rq.nm ∈ seen then 9 else 0) (by simp)
   have z3 : x.rq.nm ∉ seen := fun hc => by rw [if_pos hc] at z2; cases z2
   refine ⟨fun c hc => ?_, fun c hc => ?_, ?_⟩
   ·rcases List.mem_cons.1 hc with rfl | hc
    ·exact z1
    ·exact h1 c hc
   ·rcases List.mem_cons.1 hc with rfl | hc
    ·exact z3
    ·exact fun hm => h2 c hc (by simp [hm])
   ·refine List.nodup_cons.2 ⟨fun hm => ?_, h3⟩
    obtain ⟨c, hc, e⟩ := List.mem_map.1 hm
    exact h2 c hc (by simp [e])
  ·rw [if_neg hz] at h
   exact absurd h hz
theorem chkCms_zero {l : List Clm} (h : chkCms l = 0) : l.length ≤ 64 ∧ (∀ c ∈ l, chkCl c = 0) ∧ (nmsM l).Nodup := by
 unfold chkCms at h
 by_cases hl : 64 < l.length
 ·rw [if_pos hl] at h; cases h
 ·rw [if_neg hl] at h
  have := chkCmG_zero h
  exact ⟨by omega, this.1, this.2.2⟩
theorem nmsM_in {l : List Clm} {s : List UInt8} {j : Nat} (h : j < l.length) (e : l[j].rq.nm = s) : s ∈ nmsM l := List.mem_map.2 ⟨_, List.getElem_mem h, e⟩
theorem nmsM_out {l : List Clm} {k : Nat} (h : k < l.length) {s : List UInt8} (hn : s ∉ nmsM (l.take k)) (e : l[k].rq.nm ≠ s) : s ∉ nmsM (l.take (k + 1)) := by
 unfold nmsM at *
 rw [nms_succ (fun c : Clm => c.rq.nm) h]
 intro hm
 rcases List.mem_append.1 hm with h1 | h1
 ·exact hn h1
 ·exact e (List.mem_singleton.1 h1).symm
abbrev clmV (q : Clm) : List V := [S q.rq.nm, S q.rq.ca, S q.rq.ki, S q.rq.te, S q.rq.pa, S q.rq.li, I q.rq.fr, I q.rq.to, I q.rq.da, I q.rq.mi, I q.rq.se, I q.rq.si, I q.rq.no, B q.hi, B q.re, B q.ne, B q.ye, I q.di]
theorem Pick.rec00 {α : Type} {cell : α → List D} {w : Nat} (hw : ∀ a, (cell a).length = w) {l : List α} {i : Int} {K : D → Prop} {d : D} (k : Nat) (hi : i = k) (h : k < l.length) (hj : (cell l[k])[0]? = some d) (hk : K d) : Pick (l.flatMap cell) (i.toNat * w + 0 + 0) K := Pick.rec hw k hi h hj hk
theorem PickW.part {α : Type} {cell : α → List D} {w : Nat} (hw : ∀ a, (cell a).length = w) {l : List α} {i : Int} {j n : Nat} {ds : List D} {K : List D → Prop} (k : Nat) (hi : i = k) (h : k < l.length) (hj : j + n ≤ w) (hd : win (cell l[k]) j n = ds) (hk : K ds) : PickW (l.flatMap cell) (i.toNat * w + j) n K := by
 subst hi
 rw [Int.toNat_natCast]
 have h1 := flatR_length cell w hw l
 have h2 : (k + 1) * w ≤ l.length * w := Nat.mul_le_mul_right _ h
 rw [Nat.succ_mul] at h2
 refine ⟨by omega, ?_⟩
 have e : win (l.flatMap cell) (k * w + j) n = ds := by
  rw [← hd]
  unfold win
  rw [← List.drop_drop, flatR_drop cell w hw, List.drop_eq_getElem_cons h, List.flatMap_cons, List.drop_append_of_le_length (by rw [hw]; omega), List.take_append_of_le_length (by rw [List.length_drop, hw]; omega)]
 rw [e]; exact hk
section
variable {E : Oracle} (g : Good E)
include g
set_option maxHeartbeats 4000000 in
theorem w_claims (l : List Clm) (hl : l.length ≤ 1000000) : Fc E n_law05_claims [LM l] (LM l) := by
 refine g.fn code_law05_claims rfl ?_
 repeat' ((conv => whnf); first
 | refine Ya ?_ | refine Yb ?_ | refine Yc ?_ | refine Yd ?_ | refine Ye ?_ | refine Yf ?_ | refine Yg ?_ | refine Yh ?_ | refine Yi rfl ?_ | refine Yj rfl ?_ | refine Yk rfl ?_ | refine Yl rfl ?_)
 refine LoopW.to (LoopW.up g (fun k => [(3, .ref ⟨0, 3, 0⟩ 0 k k), (6, LM l), (7, I l.length), (8, I k)]) (fun k => [(⟨0, 2, 0⟩, .row false ty_priority_Claim 18 0 []), (⟨0, 3, 0⟩, .row false ty_priority_Claim 18 k ((l.take k).flatMap Clm.cells))]) l.length (fun k hk ih => ?_) 0 (Nat.zero_le _)) rfl rfl
 by_cases hlt : k < l.length
 ·have ih := ih hlt
  rw [flatR_take Clm.cells l k hlt] at ih
  have hf := flatR_length Clm.cells 18 Clm.cells_length (l.take k)
  generalize hx : l[k] = x at *
  repeat' ((conv => whnf); first
  | refine Ya ?_ | refine Yb ?_ | refine Yc ?_ | refine Yd ?_ | refine Ye ?_ | refine Yf ?_ | refine Yg ?_ | refine Yh ?_ | refine Yi rfl ?_ | refine Yj rfl ?_ | refine Yk rfl ?_ | refine Yl rfl ?_
   | (refine PickW.rec Clm.cells_length k rfl hlt ?_; rw [hx])
   | (refine Need.mk (by simp only [List.length_cons, List.length_nil]; omega) ?_)
   | (refine LoopW.to ih rfl rfl))
 ·have hk' : k = l.length := by omega
  subst hk'
  rw [List.take_length]
  have hf := flatR_length Clm.cells 18 Clm.cells_length l
  repeat' ((conv => whnf); first
  | refine Ya ?_ | refine Yb ?_ | refine Yc ?_ | refine Yd ?_ | refine Ye ?_ | refine Yf ?_ | refine Yg ?_ | refine Yh ?_ | refine Yi rfl ?_ | refine Yj rfl ?_ | refine Yk rfl ?_ | refine Yl rfl ?_
   | (refine Ret.mk ?_))
  rw [if_pos ⟨rfl, rfl⟩]
set_option maxHeartbeats 4000000 in
theorem in_clm (l : List Clm) (q : Clm) (hl : l.length ≤ 1000000) {K : V → Mem → Prop} (hK : K (I (idxG (nmsM l) q.rq.nm 0)) [(⟨0, 3, 0⟩, .cells ty_priority_Claim (clmV q))]) :
  In E 2 n_slices_IndexFunc_Lpriority_Claim_priority_Claim [LM l, .fn n_priority_checkClaims_1_1 [] [.ptr ⟨0, 3, 0⟩ 0 0]] [(⟨0, 3, 0⟩, .cells ty_priority_Claim (clmV q))] K := by
 generalize hA : idxG (nmsM l) q.rq.nm 0 = A at *
 refine In.enter g.lim rfl code_slices_IndexFunc_Lpriority_Claim_priority_Claim ?_
 repeat' ((conv => whnf); first
 | refine Ya ?_ | refine Yb ?_ | refine Yc ?_ | refine Yd ?_ | refine Ye ?_ | refine Yf ?_ | refine Yg ?_ | refine Yh ?_ | refine Yi rfl ?_ | refine Yj rfl ?_ | refine Yk rfl ?_ | refine Yl rfl ?_)
 refine LoopW.to (LoopW.upP g (fun k => [(0, LM l), (1, .fn n_priority_checkClaims_1_1 [] [.ptr ⟨0, 3, 0⟩ 0 0]), (7, I l.length), (8, I k)]) (fun _ => _) (fun k => idxG (nmsM (l.drop k)) q.rq.nm k = A) l.length (fun k hk h0 ih => ?_) 0 (Nat.zero_le _) hA) rfl rfl
 by_cases hlt : k < l.length
 ·rw [List.drop_eq_getElem_cons hlt, nmsM, List.map_cons, idxG] at h0
  have ih := ih hlt
  by_cases hd : l[k].rq.nm = q.rq.nm
  ·rw [if_pos hd.symm] at h0
   subst h0
   repeat' ((conv => whnf); first
   | refine Ya ?_ | refine Yb ?_ | refine Yc ?_ | refine Yd ?_ | refine Ye ?_ | refine Yf ?_ | refine Yg ?_ | refine Yh ?_ | refine Yi rfl ?_ | refine Yj rfl ?_ | refine Yk rfl ?_ | refine Yl rfl ?_
    | (refine PickW.rec Clm.cells_length k rfl hlt ?_)
    | (refine In.enter g.lim rfl code_priority_checkClaims_1_1 ?_)
    | (refine Cmp.tt hd ?_)
    | (exact hK))
  ·rw [if_neg (Ne.symm hd)] at h0
   have ih := ih h0
   repeat' ((conv => whnf); first
   | refine Ya ?_ | refine Yb ?_ | refine Yc ?_ | refine Yd ?_ | refine Ye ?_ | refine Yf ?_ | refine Yg ?_ | refine Yh ?_ | refine Yi rfl ?_ | refine Yj rfl ?_ | refine Yk rfl ?_ | refine Yl rfl ?_
    | (refine PickW.rec Clm.cells_length k rfl hlt ?_)
    | (refine In.enter g.lim rfl code_priority_checkClaims_1_1 ?_)
    | (refine Cmp.ff hd ?_)
    | (refine LoopW.to ih rfl rfl))
 ·rw [List.drop_eq_nil_of_le (by omega), nmsM, List.map_nil, idxG] at h0
  subst h0
  repeat' ((conv => whnf); first
  | refine Ya ?_ | refine Yb ?_ | refine Yc ?_ | refine Yd ?_ | refine Ye ?_ | refine Yf ?_ | refine Yg ?_ | refine Yh ?_ | refine Yi rfl ?_ | refine Yj rfl ?_ | refine Yk rfl ?_ | refine Yl rfl ?_
   | (exact hK))
set_option maxHeartbeats 4000000 in
theorem s_cC1 (l : List Clm) (q : Clm) (hl : l.length ≤ 1000000) : Fc E n_priority_checkClaims_1 [LM l, Clv q] (I (chkCm (nmsM l) q)) := by
 refine g.fn code_priority_checkClaims_1 rfl ?_
 have h1 := s_CheckClaim g q
 have h3 := s_pfirst2 g (chkCl q) (if q.rq.nm ∈ nmsM l then 9 else 0)
 unfold chkCm
 have hm := idxG_mem q.rq.nm (nmsM l) 0
 have hin := fun {K} => in_clm g (K := K) l q hl
 generalize idxG (nmsM l) q.rq.nm 0 = r at *
 generalize chkCl q = e at *
 by_cases hr : 0 ≤ r
 ·rw [if_pos (hm.1 hr)] at h3 ⊢
  repeat' ((conv => whnf); first
  | refine Ya ?_ | refine Yb ?_ | refine Yc ?_ | refine Yd ?_ | refine Ye ?_ | refine Yf ?_ | refine Yg ?_ | refine Yh ?_ | refine Yi rfl ?_ | refine Yj rfl ?_ | refine Yk rfl ?_ | refine Yl rfl ?_
   | (refine In.enter g.lim rfl code_slices_ContainsFunc_Lpriority_Claim_priority_Claim ?_)
   | (refine hin ?_)
   | (apply CallI.of; assumption)
   | (refine CallI.of (s_pwhen g _ _) ?_)
   | (refine Ret.mk rfl))
 ·rw [if_neg (fun h => hr (hm.2 h))] at h3 ⊢
  repeat' ((conv => whnf); first
  | refine Ya ?_ | refine Yb ?_ | refine Yc ?_ | refine Yd ?_ | refine Ye ?_ | refine Yf ?_ | refine Yg ?_ | refine Yh ?_ | refine Yi rfl ?_ | refine Yj rfl ?_ | refine Yk rfl ?_ | refine Yl rfl ?_
   | (refine In.enter g.lim rfl code_slices_ContainsFunc_Lpriority_Claim_priority_Claim ?_)
   | (refine hin ?_)
   | (apply CallI.of; assumption)
   | (refine CallI.of (s_pwhen g _ _) ?_)
   | (refine Ret.mk rfl))
set_option maxHeartbeats 4000000 in
theorem s_eachM (l : List Clm) (hl : l.length ≤ 1000000) : Fc E n_priority_each_priority_Claim [LM l, .d (.fn n_priority_checkClaims_1)] (I (chkCmG [] l)) := by
 refine g.fn code_priority_each_priority_Claim rfl ?_
 generalize hR : chkCmG [] l = R
 repeat' ((conv => whnf); first
 | refine Ya ?_ | refine Yb ?_ | refine Yc ?_ | refine Yd ?_ | refine Ye ?_ | refine Yf ?_ | refine Yg ?_ | refine Yh ?_ | refine Yi rfl ?_ | refine Yj rfl ?_ | refine Yk rfl ?_ | refine Yl rfl ?_)
 refine LoopW.to (LoopW.upP g (fun k => [(0, LM l), (1, .d (.fn n_priority_checkClaims_1)), (8, LM l), (9, I l.length), (10, I k)]) (fun _ => []) (fun k => chkCmG (nmsM (l.take k)) (l.drop k) = R) l.length (fun k hk h0 ih => ?_) 0 (Nat.zero_le _) hR) rfl rfl
 by_cases hlt : k < l.length
 ·have hs : nmsM (l.take (k + 1)) = nmsM (l.take k) ++ [l[k].rq.nm] := nms_succ (fun c : Clm => c.rq.nm) hlt
  rw [List.drop_eq_getElem_cons hlt, chkCmG, ← hs] at h0
  have ih := ih hlt
  have hn := s_cC1 g (l.take k) l[k] (by simp; omega)
  have ht := sl_take Clm.cells 18 Clm.cells_length l k (by omega)
  generalize chkCm (nmsM (l.take k)) l[k] = r at *
  by_cases hz : r = 0
  ·rw [if_pos hz] at h0
   have ih := ih h0
   repeat' ((conv => whnf); first
   | refine Ya ?_ | refine Yb ?_ | refine Yc ?_ | refine Yd ?_ | refine Ye ?_ | refine Yf ?_ | refine Yg ?_ | refine Yh ?_ | refine Yi rfl ?_ | refine Yj rfl ?_ | refine Yk rfl ?_ | refine Yl rfl ?_
    | (refine PickW.rec Clm.cells_length k rfl hlt ?_)
    | (refine Bounds.at 0 k rfl rfl (by omega) ?_ <;> (try rw [ht]))
    | (refine CallI.of hn ?_)
    | (refine Cmp.ff (fun h => h hz) ?_)
    | (refine LoopW.to ih rfl rfl))
  ·rw [if_neg hz] at h0
   rw [← h0]
   repeat' ((conv => whnf); first
   | refine Ya ?_ | refine Yb ?_ | refine Yc ?_ | refine Yd ?_ | refine Ye ?_ | refine Yf ?_ | refine Yg ?_ | refine Yh ?_ | refine Yi rfl ?_ | refine Yj rfl ?_ | refine Yk rfl ?_ | refine Yl rfl ?_
    | (refine PickW.rec Clm.cells_length k rfl hlt ?_)
    | (refine Bounds.at 0 k rfl rfl (by omega) ?_ <;> (try rw [ht]))
    | (refine CallI.of hn ?_)
    | (refine Cmp.tt hz ?_)
    | (refine Ret.mk rfl))
 ·rw [List.drop_eq_nil_of_le (by omega), chkCmG] at h0
  rw [← h0]
  repeat' ((conv => whnf); first
  | refine Ya ?_ | refine Yb ?_ | refine Yc ?_ | refine Yd ?_ | refine Ye ?_ | refine Yf ?_ | refine Yg ?_ | refine Yh ?_ | refine Yi rfl ?_ | refine Yj rfl ?_ | refine Yk rfl ?_ | refine Yl rfl ?_
   | (refine Ret.mk rfl))
theorem s_checkClaims (l : List Clm) (hl : l.length ≤ 1000000) : Fc E n_priority_checkClaims [LM l] (I (chkCms l)) := by
 refine g.fn code_priority_checkClaims rfl ?_
 have h := s_eachM g l hl
 unfold chkCms
 by_cases hm : 64 < l.length
 ·rw [if_pos hm]
  repeat' ((conv => whnf); first
  | refine Ya ?_ | refine Yb ?_ | refine Yc ?_ | refine Yd ?_ | refine Ye ?_ | refine Yf ?_ | refine Yg ?_ | refine Yh ?_ | refine Yi rfl ?_ | refine Yj rfl ?_ | refine Yk rfl ?_ | refine Yl rfl ?_
   | (refine Ret.mk rfl))
 ·rw [if_neg hm]
  repeat' ((conv => whnf); first
  | refine Ya ?_ | refine Yb ?_ | refine Yc ?_ | refine Yd ?_ | refine Ye ?_ | refine Yf ?_ | refine Yg ?_ | refine Yh ?_ | refine Yi rfl ?_ | refine Yj rfl ?_ | refine Yk rfl ?_ | refine Yl rfl ?_
   | (apply CallI.of; assumption)
   | (refine Ret.mk rfl))
set_option maxHeartbeats 4000000 in
theorem r_CheckClaims (l : List Clm) (hl : l.length ≤ 1000000) : Fc E n_ref05_CheckClaims [LM l] (I (chkCms l)) := by
 refine g.fn code_ref05_CheckClaims rfl ?_
 unfold chkCms
 by_cases hm : 64 < l.length
 ·rw [if_pos hm]
  repeat' ((conv => whnf); first
  | refine Ya ?_ | refine Yb ?_ | refine Yc ?_ | refine Yd ?_ | refine Ye ?_ | refine Yf ?_ | refine Yg ?_ | refine Yh ?_ | refine Yi rfl ?_ | refine Yj rfl ?_ | refine Yk rfl ?_ | refine Yl rfl ?_
   | (refine Ret.mk rfl))
 ·rw [if_neg hm]
  generalize hR : chkCmG [] l = R
  repeat' ((conv => whnf); first
  | refine Ya ?_ | refine Yb ?_ | refine Yc ?_ | refine Yd ?_ | refine Ye ?_ | refine Yf ?_ | refine Yg ?_ | refine Yh ?_ | refine Yi rfl ?_ | refine Yj rfl ?_ | refine Yk rfl ?_ | refine Yl rfl ?_)
  refine LoopW.to (LoopW.upP g (fun k => [(0, LM l), (3, I k)]) (fun _ => []) (fun k => chkCmG (nmsM (l.take k)) (l.drop k) = R) l.length (fun k hk h0 ih => ?_) 0 (Nat.zero_le _) hR) rfl rfl
  by_cases hlt : k < l.length
  ·have hs : nmsM (l.take (k + 1)) = nmsM (l.take k) ++ [l[k].rq.nm] := nms_succ (fun c : Clm => c.rq.nm) hlt
   rw [List.drop_eq_getElem_cons hlt, chkCmG, ← hs] at h0
   have ih := ih hlt
   have hn := r_CheckClaim g l[k]
   by_cases hz : chkCl l[k] = 0
   ·rw [hz] at hn
    repeat' ((conv => whnf); first
    | refine Ya ?_ | refine Yb ?_ | refine Yc ?_ | refine Yd ?_ | refine Ye ?_ | refine Yf ?_ | refine Yg ?_ | refine Yh ?_ | refine Yi rfl ?_ | refine Yj rfl ?_ | refine Yk rfl ?_ | refine Yl rfl ?_
     | (refine PickW.rec Clm.cells_length k rfl hlt ?_)
     | (refine CallI.of hn ?_))
    refine LoopW.to (LoopW.upP g (fun j => [(0, LM l), (3, I k), (4, I 0), (5, I j)]) (fun _ => []) (fun j => l[k].rq.nm ∉ nmsM (l.take j)) k (fun j hj hno jh => ?_) 0 (Nat.zero_le _) (by simp [nmsM])) rfl rfl
    by_cases hjk : j < k
    ·have hjl : j < l.length := by omega
     replace jh := jh hjk
     by_cases hd : l[j].rq.nm = l[k].rq.nm
     ·have hin : l[k].rq.nm ∈ nmsM (l.take k) := by
       refine nmsM_in (j := j) (by simp; omega) ?_
       rw [List.getElem_take]
       exact hd
      have he : chkCm (nmsM (l.take k)) l[k] = 9 := by
       unfold chkCm
       rw [hz, if_pos hin]
       rfl
      rw [he, if_neg (by decide)] at h0
      rw [← h0]
      repeat' ((conv => whnf); first
      | refine Ya ?_ | refine Yb ?_ | refine Yc ?_ | refine Yd ?_ | refine Ye ?_ | refine Yf ?_ | refine Yg ?_ | refine Yh ?_ | refine Yi rfl ?_ | refine Yj rfl ?_ | refine Yk rfl ?_ | refine Yl rfl ?_
       | (refine Pick.rec00 Clm.cells_length j rfl hjl rfl ?_)
       | (refine Pick.rec00 Clm.cells_length k rfl hlt rfl ?_)
       | (refine Cmp.tt hd ?_)
       | (refine LoopW.step g.lim ?_)
       | (refine Ret.mk rfl)
       | (refine Cmp.mk (fun h => ?_) (fun h => ?_)) | (refine Rem.any (by omega) (fun r hr he => ?_)) | (refine Br.mk (fun h => ?_) (fun h => ?_)))
     ·have jh := jh (nmsM_out hjl hno hd)
      repeat' ((conv => whnf); first
      | refine Ya ?_ | refine Yb ?_ | refine Yc ?_ | refine Yd ?_ | refine Ye ?_ | refine Yf ?_ | refine Yg ?_ | refine Yh ?_ | refine Yi rfl ?_ | refine Yj rfl ?_ | refine Yk rfl ?_ | refine Yl rfl ?_
       | (refine Pick.rec00 Clm.cells_length j rfl hjl rfl ?_)
       | (refine Pick.rec00 Clm.cells_length k rfl hlt rfl ?_)
       | (refine Cmp.ff hd ?_)
       | (refine LoopW.to jh rfl rfl))
    ·obtain rfl : j = k := by omega
     have he : chkCm (nmsM (l.take j)) l[j] = 0 := by
      unfold chkCm
      rw [hz, if_neg hno]
      rfl
     rw [he, if_pos rfl] at h0
     have ih := ih h0
     repeat' ((conv => whnf); first
     | refine Ya ?_ | refine Yb ?_ | refine Yc ?_ | refine Yd ?_ | refine Ye ?_ | refine Yf ?_ | refine Yg ?_ | refine Yh ?_ | refine Yi rfl ?_ | refine Yj rfl ?_ | refine Yk rfl ?_ | refine Yl rfl ?_
      | (refine LoopW.to ih rfl rfl))
   ·have he : chkCm (nmsM (l.take k)) l[k] = chkCl l[k] := by
     unfold chkCm
     simp [firstI, hz]
    rw [he, if_neg hz] at h0
    rw [← h0]
    generalize chkCl l[k] = e at *
    repeat' ((conv => whnf); first
    | refine Ya ?_ | refine Yb ?_ | refine Yc ?_ | refine Yd ?_ | refine Ye ?_ | refine Yf ?_ | refine Yg ?_ | refine Yh ?_ | refine Yi rfl ?_ | refine Yj rfl ?_ | refine Yk rfl ?_ | refine Yl rfl ?_
     | (refine PickW.rec Clm.cells_length k rfl hlt ?_)
     | (refine CallI.of hn ?_)
     | (refine LoopW.step g.lim ?_)
     | (refine Cmp.tt hz ?_)
     | (refine Cmp.ff hz ?_)
     | (refine Ret.mk rfl)
     | (refine Cmp.mk (fun h => ?_) (fun h => ?_)) | (refine Rem.any (by omega) (fun r hr he => ?_)) | (refine Br.mk (fun h => ?_) (fun h => ?_)))
  ·rw [List.drop_eq_nil_of_le (by omega), chkCmG] at h0
   rw [← h0]
   repeat' ((conv => whnf); first
   | refine Ya ?_ | refine Yb ?_ | refine Yc ?_ | refine Yd ?_ | refine Ye ?_ | refine Yf ?_ | refine Yg ?_ | refine Yh ?_ | refine Yi rfl ?_ | refine Yj rfl ?_ | refine Yk rfl ?_ | refine Yl rfl ?_
    | (refine Ret.mk rfl))
set_option maxHeartbeats 4000000 in
theorem r_ShortClaims (l : List Clm) (n : Int) (hl : l.length ≤ 9223372036854775807) : Fc E n_ref05_ShortClaims [LM l, I n] (B (decide (((l.length : Int) ≤ n ∨ l.length = 65) ∧ ∀ c ∈ l, briefB c.rq = true))) := by
 refine g.fn code_ref05_ShortClaims rfl ?_
 by_cases hs : (l.length : Int) ≤ n ∨ l.length = 65
 ·generalize hR : decide (((l.length : Int) ≤ n ∨ l.length = 65) ∧ ∀ c ∈ l, briefB c.rq = true) = R
  have hR : decide (∀ c ∈ l, briefB c.rq = true) = R := by
   rw [← hR]
   simp [hs]
  repeat' ((conv => whnf); first
  | refine Ya ?_ | refine Yb ?_ | refine Yc ?_ | refine Yd ?_ | refine Ye ?_ | refine Yf ?_ | refine Yg ?_ | refine Yh ?_ | refine Yi rfl ?_ | refine Yj rfl ?_ | refine Yk rfl ?_ | refine Yl rfl ?_
   | (refine Cmp.mk (fun h => ?_) (fun h => ?_)) | (refine Rem.any (by omega) (fun r hr he => ?_)) | (refine Br.mk (fun h => ?_) (fun h => ?_))
   | (exfalso; omega))
  all_goals
   refine LoopW.to (LoopW.upP g (fun k => [(0, LM l), (5, I k)]) (fun _ => []) (fun k => decide (∀ c ∈ l.drop k, briefB c.rq = true) = R) l.length (fun k hk h0 ih => ?_) 0 (Nat.zero_le _) hR) rfl rfl
   by_cases hlt : k < l.length
   ·rw [List.drop_eq_getElem_cons hlt] at h0
    have ih := ih hlt
    have hb := r_Brief g l[k].rq
    cases hc : briefB l[k].rq
    ·rw [hc] at hb
     rw [decide_eq_false fun h => by have := h l[k] (List.mem_cons_self ..); rw [hc] at this; cases this] at h0
     rw [← h0]
     repeat' ((conv => whnf); first
     | refine Ya ?_ | refine Yb ?_ | refine Yc ?_ | refine Yd ?_ | refine Ye ?_ | refine Yf ?_ | refine Yg ?_ | refine Yh ?_ | refine Yi rfl ?_ | refine Yj rfl ?_ | refine Yk rfl ?_ | refine Yl rfl ?_
      | (refine PickW.part Clm.cells_length k rfl hlt (by decide) rfl ?_)
      | (refine CallI.of hb ?_)
      | (refine Ret.mk rfl))
    ·rw [hc] at hb
     have ih := ih (h0 ▸ decide_eq_decide.2 ⟨fun h c hm => (List.mem_cons.1 hm).elim (fun e => e ▸ hc) (h c), fun h c hm => h c (List.mem_cons_of_mem _ hm)⟩)
     repeat' ((conv => whnf); first
     | refine Ya ?_ | refine Yb ?_ | refine Yc ?_ | refine Yd ?_ | refine Ye ?_ | refine Yf ?_ | refine Yg ?_ | refine Yh ?_ | refine Yi rfl ?_ | refine Yj rfl ?_ | refine Yk rfl ?_ | refine Yl rfl ?_
      | (refine PickW.part Clm.cells_length k rfl hlt (by decide) rfl ?_)
      | (refine CallI.of hb ?_)
      | (refine LoopW.to ih rfl rfl))
   ·rw [List.drop_eq_nil_of_le (by omega)] at h0
    rw [← h0]
    repeat' ((conv => whnf); first
    | refine Ya ?_ | refine Yb ?_ | refine Yc ?_ | refine Yd ?_ | refine Ye ?_ | refine Yf ?_ | refine Yg ?_ | refine Yh ?_ | refine Yi rfl ?_ | refine Yj rfl ?_ | refine Yk rfl ?_ | refine Yl rfl ?_
     | (refine Ret.mk (by simp)))
 ·rw [decide_eq_false (fun h => hs h.1)]
  repeat' ((conv => whnf); first
  | refine Ya ?_ | refine Yb ?_ | refine Yc ?_ | refine Yd ?_ | refine Ye ?_ | refine Yf ?_ | refine Yg ?_ | refine Yh ?_ | refine Yi rfl ?_ | refine Yj rfl ?_ | refine Yk rfl ?_ | refine Yl rfl ?_
   | (refine Cmp.mk (fun h => ?_) (fun h => ?_)) | (refine Rem.any (by omega) (fun r hr he => ?_)) | (refine Br.mk (fun h => ?_) (fun h => ?_))
   | (refine Ret.mk rfl)
   | (exfalso; omega))
end
end Go.Proofs.YtlnlcdnpgjhaaaaGreatDoor.Co
/-
 Permutations: what the program's Draw and the reference's give; equal lists.
-/
namespace Go.Proofs.YtlnlcdnpgjhaaaaGreatDoor.Co
open Go Go.Evl
theorem Pick.nat {l : List Int} {k : Nat} {K : D → Prop} (h : k < l.length) (hk : K (DI (l.getD k 0))) : Pick (l.map DI) ((k : Int).toNat * 1) K := by
 refine ⟨⟨_, ?_, hk⟩⟩
 simp [List.getD, h]
def nextX (x : Int) : Int := 48271 * x % 2147483647
def swapL (l : List Int) (i j : Nat) : List Int := (l.set i (l.getD j 0)).set j (l.getD i 0)
def drawL : Nat → Int → List Int → List Int
 | 0, _, l => l
 | i + 1, x, l => drawL i (nextX x) (swapL l (i + 1) (nextX x % (i + 2)).toNat)
def idL (n : Nat) : List Int := (List.range n).map fun (i : Nat) => (i : Int)
def drawAll (key : Int) (n : Nat) : List Int := drawL (n - 1) key (idL n)
theorem idL_succ (n : Nat) : idL (n + 1) = idL n ++ [(n : Int)] := by simp [idL, List.range_succ]
theorem idL_length (n : Nat) : (idL n).length = n := by simp [idL]
theorem swapL_length (l : List Int) (i j : Nat) : (swapL l i j).length = l.length := by simp [swapL]
theorem drawL_length : ∀ (i : Nat) (x : Int) (l : List Int), (drawL i x l).length = l.length
 | 0, _, _ => rfl
 | i + 1, x, l => by simp only [drawL]; rw [drawL_length i, swapL_length]
theorem patch_set (l : List Int) (i : Nat) (v : Int) (h : i < l.length) : patch (l.map DI) i [DI v] = (l.set i v).map DI := by
 unfold patch
 rw [List.set_eq_take_append_cons_drop, if_pos h]
 simp
theorem patch_len (l : List Int) (o : Nat) (v : Int) (h : o < l.length) : (patch (l.map DI) o [DI v]).length = l.length := by
 rw [patch_set l o v h]; simp
theorem patch_two (l : List Int) (x : Int) (i k : Nat) (h1 : i + 1 < k) (h2 : l.length = k) :
  (swapL l (i + 1) (nextX x % ((i : Int) + 2)).toNat).map DI = patch (patch (l.map DI) ((0 + ((i + 1 : Nat) : Int).toNat) * 1) [DI (l.getD (48271 * x % 2147483647 % (((i + 1 : Nat) : Int) + 1)).toNat 0)])
   ((0 + (48271 * x % 2147483647 % (((i + 1 : Nat) : Int) + 1)).toNat) * 1) [DI (l.getD ((i + 1 : Nat) : Int).toNat 0)] := by
 have e0 : ((i + 1 : Nat) : Int) + 1 = (i : Int) + 2 := by omega
 have hm1 := Int.emod_nonneg (nextX x) (show (i : Int) + 2 ≠ 0 by omega)
 have hm2 := Int.emod_lt_of_pos (nextX x) (show (0 : Int) < (i : Int) + 2 by omega)
 rw [e0]
 show _ = patch (patch (l.map DI) ((0 + ((i + 1 : Nat) : Int).toNat) * 1) [DI (l.getD (nextX x % ((i : Int) + 2)).toNat 0)]) ((0 + (nextX x % ((i : Int) + 2)).toNat) * 1) [DI (l.getD ((i + 1 : Nat) : Int).toNat 0)]
 generalize nextX x % ((i : Int) + 2) = m at hm1 hm2 ⊢
 have e1 : (0 + ((i + 1 : Nat) : Int).toNat) * 1 = i + 1 := by omega
 have e2 : (0 + m.toNat) * 1 = m.toNat := by omega
 have e3 : ((i + 1 : Nat) : Int).toNat = i + 1 := by omega
 rw [e1, e2, e3, patch_set _ _ _ (by omega), patch_set _ _ _ (by simp; omega)]
 rfl
theorem flat_rep (n : Nat) : (List.replicate n [DI 0]).flatten = (List.replicate n (0 : Int)).map DI := by
 induction n with
 | zero => rfl
 | succ n ih => simp [List.replicate_succ, ih]
section
variable {E : Oracle} (g : Good E)
include g
theorem s_Draw (key : Int) (n : Nat) (hk : 1 ≤ key ∧ key ≤ 2147483646) (hn : n ≤ 256) : Fc E n_calendar_Draw [I key, I n] (.tup [LI (drawAll key n), I 0]) := by
 refine g.fn code_calendar_Draw rfl ?_
 have k1 : firstI [rng key 1 2147483646, rng n 0 256] = 0 := by
  have h1 := (@rng_zero key 1 2147483646).2 hk
  have h2 := (@rng_zero n 0 256).2 (by omega)
  simp [firstI, h1, h2]
 repeat' ((conv => whnf); first
 | refine Ya ?_ | refine Yb ?_ | refine Yc ?_ | refine Yd ?_ | refine Ye ?_ | refine Yf ?_ | refine Yg ?_ | refine Yh ?_ | refine Yi rfl ?_ | refine Yj rfl ?_ | refine Yk rfl ?_ | refine Yl rfl ?_
  | (refine CallI.of (s_within g _ _ _) ?_)
  | (refine CallI.of (s_first2 g _ _) ?_))
 refine LoopW.to (LoopW.up g (fun k => [(0, I key), (1, I n), (7, .ref ⟨0, 7, 0⟩ 0 k k), (22, I n), (23, I k)]) (fun k => [(⟨0, 4, 0⟩, .row true ty_int 1 0 []), (⟨0, 7, 0⟩, .row false ty_int 1 k ((idL k).map DI))]) n (fun k hk ih => ?_) 0 (Nat.zero_le _)) rfl rfl
 by_cases hlt : k < n
 ·repeat' ((conv => whnf); first
 | refine Ya ?_ | refine Yb ?_ | refine Yc ?_ | refine Yd ?_ | refine Ye ?_ | refine Yf ?_ | refine Yg ?_ | refine Yh ?_ | refine Yi rfl ?_ | refine Yj rfl ?_ | refine Yk rfl ?_ | refine Yl rfl ?_
   | (refine LoopW.to (ih hlt) rfl ?_))
  simp [idL_succ]
 ·have hk' : k = n := by omega
  subst hk'
  have hl := idL_length k
  have hrow : patch ((List.replicate k [DI 0]).flatten) (0 * 1) (List.take (min k k * 1) (if 0 = 0 ∧ k = k then (idL k).map DI else win ((idL k).map DI) (0 * 1) (k * 1))) = (idL k).map DI := by
   rw [flat_rep]
   simp only [patch]
   simp [hl, List.take_of_length_le]
  repeat' ((conv => whnf); first
  | refine Ya ?_ | refine Yb ?_ | refine Yc ?_ | refine Yd ?_ | refine Ye ?_ | refine Yf ?_ | refine Yg ?_ | refine Yh ?_ | refine Yi rfl ?_ | refine Yj rfl ?_ | refine Yk rfl ?_ | refine Yl rfl ?_
   | (refine Need.mk (by simp [hl]) ?_))
  by_cases h0 : k = 0
  ·subst h0
   refine LoopW.step g.lim ?_
   repeat' ((conv => whnf); first
   | refine Ya ?_ | refine Yb ?_ | refine Yc ?_ | refine Yd ?_ | refine Ye ?_ | refine Yf ?_ | refine Yg ?_ | refine Yh ?_ | refine Yi rfl ?_ | refine Yj rfl ?_ | refine Yk rfl ?_ | refine Yl rfl ?_
    | (refine Ret.mk rfl))
  ·refine LoopW.to (LoopW.by g (fun (s : Nat × Int × List Int) => s.1 < k ∧ s.2.2.length = k ∧ 0 ≤ s.2.1 ∧ s.2.1 ≤ 2147483646 ∧ drawL s.1 s.2.1 s.2.2 = drawAll key k)
    (fun s => [(9, .ref ⟨0, 32, 0⟩ 0 k k), (10, I s.2.1), (11, I s.1)])
    (fun s => [(⟨0, 4, 0⟩, .row true ty_int 1 0 []), (⟨0, 7, 0⟩, .row false ty_int 1 k ((idL k).map DI)), (⟨0, 32, 0⟩, .row true ty_int 1 k (s.2.2.map DI))])
    (fun s => s.1) (fun s hs ih => ?_) (k - 1, key, idL k) ⟨by show k - 1 < k; omega, hl, by show 0 ≤ key; omega, by show key ≤ _; omega, rfl⟩) ?_ ?_
   ·obtain ⟨i, x, l⟩ := s
    obtain ⟨h1, h2, h3, h4, h5⟩ := hs
    simp only at h1 h2 h3 h4 h5 ih ⊢
    cases i with
    | zero =>
     simp only [drawL] at h5
     subst h5
     repeat' ((conv => whnf); first
     | refine Ya ?_ | refine Yb ?_ | refine Yc ?_ | refine Yd ?_ | refine Ye ?_ | refine Yf ?_ | refine Yg ?_ | refine Yh ?_ | refine Yi rfl ?_ | refine Yj rfl ?_ | refine Yk rfl ?_ | refine Yl rfl ?_
      | (refine Ret.mk ?_))
     simp [h2]
    | succ i =>
     have hx : 0 ≤ nextX x ∧ nextX x ≤ 2147483646 := by unfold nextX; omega
     have hm1 := Int.emod_nonneg (48271 * x % 2147483647) (show ((i + 1 : Nat) : Int) + 1 ≠ 0 by omega)
     have hm2 := Int.emod_lt_of_pos (48271 * x % 2147483647) (show (0 : Int) < ((i + 1 : Nat) : Int) + 1 by omega)
     repeat' ((conv => whnf); first
     | refine Ya ?_ | refine Yb ?_ | refine Yc ?_ | refine Yd ?_ | refine Ye ?_ | refine Yf ?_ | refine Yg ?_ | refine Yh ?_ | refine Yi rfl ?_ | refine Yj rfl ?_ | refine Yk rfl ?_ | refine Yl rfl ?_
      | (refine Need.mk (by simp; omega) ?_)
      | (refine Need.mk ⟨rfl, by rw [patch_len _ _ _ (by omega)]; omega, rfl⟩ ?_)
      | (refine Pick.int0 (by omega) ?_)
      | (refine LoopW.to (ih (i, nextX x, swapL l (i + 1) (nextX x % (i + 2)).toNat) ⟨by show i < k; omega, by rw [swapL_length]; exact h2, hx.1, hx.2, h5⟩ (by show i < i + 1; omega)) ?_ ?_))
     ·simp [nextX]
     ·exact congrArg (fun z => [((⟨0, 4, 0⟩ : Evl.Id), Ob.row true ty_int 1 0 []), (⟨0, 7, 0⟩, Ob.row false ty_int 1 k ((idL k).map DI)), (⟨0, 32, 0⟩, Ob.row true ty_int 1 k z)]) (patch_two l x i k h1 h2)
   ·simp; omega
   ·exact congrArg (fun z => [((⟨0, 4, 0⟩ : Evl.Id), Ob.row true ty_int 1 0 []), (⟨0, 7, 0⟩, Ob.row false ty_int 1 k ((idL k).map DI)), (⟨0, 32, 0⟩, Ob.row true ty_int 1 k z)]) hrow.symm
end
end Go.Proofs.YtlnlcdnpgjhaaaaGreatDoor.Co
/-
 Permutations as lists: each of the numbers below 'n' once.
-/
namespace Go.Proofs.YtlnlcdnpgjhaaaaGreatDoor.Co
open Go Go.Evl
set_option maxRecDepth 100000
theorem getD_set (l : List Int) (i k : Nat) (v : Int) (h : i < l.length) : (l.set i v).getD k 0 = if i = k then v else l.getD k 0 := by
 simp only [List.getD, List.getElem?_set]
 split
 ·subst_vars; simp
 ·rfl
theorem getD_swapL (l : List Int) (i j k : Nat) (hi : i < l.length) (hj : j < l.length) : (swapL l i j).getD k 0 = if j = k then l.getD i 0 else if i = k then l.getD j 0 else l.getD k 0 := by
 unfold swapL
 rw [getD_set _ _ _ _ (by simpa using hj), getD_set _ _ _ _ hi]
structure Ord (n : Nat) (l : List Int) : Prop where
 len : l.length = n
 rng : ∀ k, k < n → 0 ≤ l.getD k 0 ∧ l.getD k 0 < n
 inj : ∀ i j, i < n → j < n → l.getD i 0 = l.getD j 0 → i = j
theorem Ord.swap {n : Nat} {l : List Int} (h : Ord n l) {i j : Nat} (hi : i < n) (hj : j < n) : Ord n (swapL l i j) := by
 have hl := h.len
 have e : ∀ k, (swapL l i j).getD k 0 = l.getD (if j = k then i else if i = k then j else k) 0 := fun k => by
  rw [getD_swapL l i j k (by omega) (by omega)]
  split
  ·rfl
  ·split <;> rfl
 refine ⟨by rw [swapL_length]; exact hl, fun k hk => ?_, fun a b ha hb hab => ?_⟩
 ·rw [e]
  refine h.rng _ ?_
  split
  ·exact hi
  ·split
   ·exact hj
   ·exact hk
 ·rw [e, e] at hab
  have := h.inj _ _ (by split; exact hi; split; exact hj; exact ha) (by split; exact hi; split; exact hj; exact hb) hab
  split at this <;> split at this <;> (try split at this) <;> (try split at this) <;> omega
theorem idx_lt (x : Int) (i : Nat) : (nextX x % ((i : Int) + 2)).toNat < i + 2 := by
 have h1 := Int.emod_nonneg (nextX x) (show (i : Int) + 2 ≠ 0 by omega)
 have h2 := Int.emod_lt_of_pos (nextX x) (show (0 : Int) < (i : Int) + 2 by omega)
 omega
theorem Ord.draw {n : Nat} : ∀ (i : Nat) (x : Int) (l : List Int), i < n → Ord n l → Ord n (drawL i x l)
 | 0, _, _, _, h => h
 | i + 1, x, l, hi, h => by
  have := idx_lt x i
  exact Ord.draw i _ _ (by omega) (h.swap hi (by omega))
theorem Ord.id (n : Nat) : Ord n (idL n) := by
 have e : ∀ k, k < n → (idL n).getD k 0 = k := fun k hk => by simp [idL, List.getD, hk]
 refine ⟨idL_length n, fun k hk => ?_, fun i j hi hj h => ?_⟩
 ·rw [e k hk]; omega
 ·rw [e i hi, e j hj] at h; omega
section
variable {E : Oracle} (g : Good E)
include g
theorem r_IsOrder (n : Nat) (l : List Int) (h : Ord n l) (hn : n ≤ 256) : Fc E n_ref01_IsOrder [LI l] (B true) := by
 have hl := h.len
 refine g.fn code_ref01_IsOrder rfl ?_
 repeat' ((conv => whnf); first
 | refine Ya ?_ | refine Yb ?_ | refine Yc ?_ | refine Yd ?_ | refine Ye ?_ | refine Yf ?_ | refine Yg ?_ | refine Yh ?_ | refine Yi rfl ?_ | refine Yj rfl ?_ | refine Yk rfl ?_ | refine Yl rfl ?_)
 refine LoopW.up g (fun k => [(0, LI l), (3, I k)]) (fun _ => []) n (fun k hk ih => ?_) 0 (Nat.zero_le _)
 by_cases hlt : k < n
 ·have hr := h.rng k hlt
  repeat' ((conv => whnf); first
  | refine Ya ?_ | refine Yb ?_ | refine Yc ?_ | refine Yd ?_ | refine Ye ?_ | refine Yf ?_ | refine Yg ?_ | refine Yh ?_ | refine Yi rfl ?_ | refine Yj rfl ?_ | refine Yk rfl ?_ | refine Yl rfl ?_
   | (refine Pick.nat (by omega) ?_))
  refine LoopW.up g (fun j => [(0, LI l), (3, I k), (4, I j)]) (fun _ => []) k (fun j hj ih' => ?_) 0 (Nat.zero_le _)
  by_cases hlt' : j < k
  ·have hne : ¬ l.getD j 0 = l.getD k 0 := fun e => by have := h.inj j k (by omega) hlt e; omega
   repeat' ((conv => whnf); first
   | refine Ya ?_ | refine Yb ?_ | refine Yc ?_ | refine Yd ?_ | refine Ye ?_ | refine Yf ?_ | refine Yg ?_ | refine Yh ?_ | refine Yi rfl ?_ | refine Yj rfl ?_ | refine Yk rfl ?_ | refine Yl rfl ?_
    | (refine Pick.nat (by omega) ?_)
    | (refine Cmp.ff hne ?_)
    | (refine LoopW.to (ih' hlt') ?_ rfl))
   simp
  ·repeat' ((conv => whnf); first
  | refine Ya ?_ | refine Yb ?_ | refine Yc ?_ | refine Yd ?_ | refine Ye ?_ | refine Yf ?_ | refine Yg ?_ | refine Yh ?_ | refine Yi rfl ?_ | refine Yj rfl ?_ | refine Yk rfl ?_ | refine Yl rfl ?_
    | (refine LoopW.to (ih hlt) ?_ rfl))
   simp
 ·repeat' ((conv => whnf); first
 | refine Ya ?_ | refine Yb ?_ | refine Yc ?_ | refine Yd ?_ | refine Ye ?_ | refine Yf ?_ | refine Yg ?_ | refine Yh ?_ | refine Yi rfl ?_ | refine Yj rfl ?_ | refine Yk rfl ?_ | refine Yl rfl ?_
   | (refine Ret.mk rfl))
end
end Go.Proofs.YtlnlcdnpgjhaaaaGreatDoor.Co
/-
 Insertion: a list in order, and the place of each of its elements.
-/
namespace Go.Proofs.YtlnlcdnpgjhaaaaGreatDoor.Co
open Go Go.Evl
structure Tot (n : Nat) (lt : Int → Int → Bool) : Prop where
 irr : ∀ a : Int, lt a a = false
 tr : ∀ a b c : Int, a ∈ idL n → b ∈ idL n → c ∈ idL n → lt a b = true → lt b c = true → lt a c = true
 tot : ∀ a b : Int, a ∈ idL n → b ∈ idL n → a ≠ b → lt a b = false → lt b a = true
def placeL (n : Nat) (lt : Int → Int → Bool) (x : Int) : Nat := (idL n).countP fun y => lt y x
structure Srt (n : Nat) (lt : Int → Int → Bool) (l : List Int) : Prop where
 pm : l.Perm (idL n)
 up : l.Pairwise fun a b => lt a b = true
theorem idL_mem {n : Nat} {x : Int} : x ∈ idL n ↔ 0 ≤ x ∧ x < n := by
 unfold idL
 rw [List.mem_map]
 constructor
 ·rintro ⟨i, h, rfl⟩
  have := List.mem_range.1 h
  omega
 ·intro h
  exact ⟨x.toNat, List.mem_range.2 (by omega), by omega⟩
theorem idL_get {n k : Nat} (h : k < n) : (idL n)[k]? = some (k : Int) := by
 simp [idL, h]
theorem Srt.len {n : Nat} {lt : Int → Int → Bool} {l : List Int} (h : Srt n lt l) : l.length = n := by
 rw [h.pm.length_eq, idL_length]
theorem Srt.mem {n : Nat} {lt : Int → Int → Bool} {l : List Int} (h : Srt n lt l) {k : Nat} (hk : k < l.length) : l[k] ∈ idL n := h.pm.mem_iff.1 (List.getElem_mem hk)
theorem Srt.asym {n : Nat} {lt : Int → Int → Bool} (t : Tot n lt) {a b : Int} (ha : a ∈ idL n) (hb : b ∈ idL n) (h : lt a b = true) : lt b a = false := by
 cases hc : lt b a with
 | false => rfl
 | true =>
  have := t.tr a b a ha hb ha h hc
  rw [t.irr a] at this
  cases this
theorem Srt.place {n : Nat} {lt : Int → Int → Bool} {l : List Int} (t : Tot n lt) (h : Srt n lt l) {k : Nat} (hk : k < l.length) : placeL n lt l[k] = k := by
 unfold placeL
 rw [← h.pm.countP_eq]
 have e : l = l.take k ++ l[k] :: l.drop (k + 1) := by
  rw [← List.drop_eq_getElem_cons hk, List.take_append_drop]
 have hm := fun {j : Nat} (hj : j < l.length) => h.mem hj
 have hp := List.pairwise_iff_getElem.1 h.up
 generalize hx : l[k] = x at *
 have h1 : (l.take k).countP (fun y => lt y x) = k := by
  have : (l.take k).countP (fun y => lt y x) = (l.take k).length := by
   rw [List.countP_eq_length]
   intro a ha
   rw [List.mem_take_iff_getElem] at ha
   obtain ⟨i, hi, rfl⟩ := ha
   rw [← hx]
   exact hp i k (by omega) hk (by omega)
  rw [this, List.length_take]
  omega
 have h2 : (l.drop (k + 1)).countP (fun y => lt y x) = 0 := by
  rw [List.countP_eq_zero]
  intro a ha
  rw [List.mem_drop_iff_getElem] at ha
  obtain ⟨i, hi, rfl⟩ := ha
  have := hp k (k + 1 + i) hk (by omega) (by omega)
  rw [hx] at this
  rw [Srt.asym t (hx ▸ hm hk) (hm (by omega)) this]
  simp
 rw [e, List.countP_append, List.countP_cons, h1, h2, t.irr]
 simp
theorem Srt.uniq {n : Nat} {lt : Int → Int → Bool} {l : List Int} (t : Tot n lt) (h : Srt n lt l) {x : Int} (hx : x ∈ idL n) : l[placeL n lt x]? = some x := by
 obtain ⟨k, hk, rfl⟩ := List.getElem_of_mem (h.pm.mem_iff.2 hx)
 rw [h.place t hk]
 exact List.getElem?_eq_getElem hk
structure Ins (lt : Int → Int → Bool) (s : List Int) (x : Int) (p q : List Int) : Prop where
 eq : p ++ q = s
 lo : ∀ y ∈ q, lt x y = true
theorem Ins.start {lt : Int → Int → Bool} (s : List Int) (x : Int) : Ins lt s x s [] := ⟨by simp, by simp⟩
theorem Ins.step {lt : Int → Int → Bool} {s p q : List Int} {x y : Int} (h : Ins lt s x (p ++ [y]) q) (hy : lt x y = true) : Ins lt s x p (y :: q) := by
 refine ⟨by rw [← h.eq]; simp, fun z hz => ?_⟩
 rcases List.mem_cons.1 hz with rfl | hz
 ·exact hy
 ·exact h.lo z hz
theorem Ins.done {n : Nat} {lt : Int → Int → Bool} {s p q : List Int} {x : Int} (t : Tot n lt) (hs : s.Pairwise fun a b => lt a b = true) (hm : ∀ y ∈ s, y ∈ idL n) (hx : x ∈ idL n) (hn : x ∉ s) (h : Ins lt s x p q)
  (he : p = [] ∨ ∃ p' y, p = p' ++ [y] ∧ lt x y = false) : (p ++ x :: q).Pairwise fun a b => lt a b = true := by
 obtain ⟨rfl, lo⟩ := h
 have h0 := List.pairwise_append.1 hs
 refine List.pairwise_append.2 ⟨h0.1, List.pairwise_cons.2 ⟨lo, h0.2.1⟩, fun a ha b hb => ?_⟩
 rcases List.mem_cons.1 hb with rfl | hb
 ·rcases he with rfl | ⟨p', y, rfl, hy⟩
  ·cases ha
  ·have hym : y ∈ idL n := hm y (by simp)
   have hyx : lt y b = true := t.tot b y hx hym (fun e => hn (by subst e; simp)) hy
   rcases List.mem_append.1 ha with ha | ha
   ·have hay : lt a y = true := (List.pairwise_append.1 h0.1).2.2 a ha y (by simp)
    exact t.tr a y b (hm a (by simp [ha])) hym hx hay hyx
   ·rw [List.mem_singleton.1 ha]
    exact hyx
 ·exact h0.2.2 a ha b hb
end Go.Proofs.YtlnlcdnpgjhaaaaGreatDoor.Co
/-
 Priority: slices.SortFunc on a few indices, with a comparing closure.
-/
namespace Go.Proofs.YtlnlcdnpgjhaaaaGreatDoor.Co
open Go Go.Evl
set_option maxRecDepth 100000
theorem strLess_irr : ∀ s : List UInt8, strLess s s = false
 | [] => rfl
 | a :: r => by simp [strLess, strLess_irr r]
theorem strLess_cons {a b : UInt8} {x y : List UInt8} : strLess (a :: x) (b :: y) = true ↔ a < b ∨ (a = b ∧ strLess x y = true) := by
 simp [strLess]
theorem strLess_trans : ∀ {a b c : List UInt8}, strLess a b = true → strLess b c = true → strLess a c = true
 | _, _, [], _, h => by simp [strLess] at h
 | _, [], _ :: _, h, _ => by simp [strLess] at h
 | [], _ :: _, _ :: _, _, _ => rfl
 | x :: a, y :: b, z :: c, h1, h2 => by
  rw [strLess_cons] at h1 h2 ⊢
  rcases h1 with h1 | ⟨rfl, h1⟩
  ·rcases h2 with h2 | ⟨rfl, _⟩
   ·exact .inl (UInt8.lt_trans h1 h2)
   ·exact .inl h1
  ·rcases h2 with h2 | ⟨rfl, h2⟩
   ·exact .inl h2
   ·exact .inr ⟨rfl, strLess_trans h1 h2⟩
theorem strLess_tot : ∀ {a b : List UInt8}, a ≠ b → strLess a b = false → strLess b a = true
 | [], [], h, _ => absurd rfl h
 | [], _ :: _, _, h => by simp [strLess] at h
 | _ :: _, [], _, _ => rfl
 | x :: a, y :: b, h, h2 => by
  rw [strLess_cons]
  have hn : ¬ (x < y ∨ (x = y ∧ strLess a b = true)) := fun hc => by rw [strLess_cons.2 hc] at h2; cases h2
  by_cases e : x = y
  ·subst e
   refine .inr ⟨rfl, strLess_tot (fun hc => h (by rw [hc])) ?_⟩
   cases hc : strLess a b with
   | false => rfl
   | true => exact absurd (.inr ⟨rfl, hc⟩) hn
  ·left
   have h3 : ¬ x < y := fun hc => hn (.inl hc)
   rcases UInt8.lt_or_lt_of_ne e with h4 | h4
   ·exact absurd h4 h3
   ·exact h4
def cmpS (a b : List UInt8) : Int := if strLess a b = true then -1 else if a = b then 0 else 1
theorem cmpS_lt (a b : List UInt8) : cmpS a b < 0 ↔ strLess a b = true := by
 unfold cmpS
 split
 ·simp [*]
 ·split <;> simp [*, strLess_irr]
def cmpI (a b : Int) : Int := if a < b then -1 else if b < a then 1 else 0
theorem swap_row (p r : List Int) (x y : Int) {i j : Nat} (hi : i = p.length + 1) (hj : j = p.length) : patch (patch ((p ++ y :: x :: r).map DI) i [DI y]) j [DI x] = (p ++ x :: y :: r).map DI := by
 subst hi hj
 rw [patch_set _ _ _ (by simp), patch_set _ _ _ (by simp)]
 congr 1
 rw [List.set_append_right _ _ (by simp), List.set_append_right _ _ (by simp)]
 simp
theorem Wr.u64 {x : Int} {K : Int → Prop} (k : K x) (h : 0 ≤ x ∧ x ≤ 1000000 := by omega) : Wr .u64 x K := ⟨by
 have : IntKind.u64.wrap x = x := by
  simp only [IntKind.wrap, IntKind.signed, IntKind.bits]
  simp
  omega
 rw [this]
 exact k⟩
theorem get_at {l p r : List Int} {x : Int} {k : Nat} (h : l = p ++ x :: r) (hk : k = p.length) (hl : k < l.length) : l[k] = x := by
 subst h hk
 simp
structure InO where
 i : Nat
 (s r : List Int)
structure InI where
 j : Nat
 (p q : List Int)
section
variable {E : Oracle} (g : Good E)
include g
theorem s_isNaNS (a : List UInt8) : Fc E n_cmp_isNaN_string [S a] (B false) := by
 refine g.fn code_cmp_isNaN_string rfl ?_
 repeat' ((conv => whnf); first
 | refine Ya ?_ | refine Yb ?_ | refine Yc ?_ | refine Yd ?_ | refine Ye ?_ | refine Yf ?_ | refine Yg ?_ | refine Yh ?_ | refine Yi rfl ?_ | refine Yj rfl ?_ | refine Yk rfl ?_ | refine Yl rfl ?_
  | (refine Cmp.tt rfl ?_)
  | (refine Ret.mk rfl))
theorem s_isNaNI (a : Int) : Fc E n_cmp_isNaN_int [I a] (B false) := by
 refine g.fn code_cmp_isNaN_int rfl ?_
 repeat' ((conv => whnf); first
 | refine Ya ?_ | refine Yb ?_ | refine Yc ?_ | refine Yd ?_ | refine Ye ?_ | refine Yf ?_ | refine Yg ?_ | refine Yh ?_ | refine Yi rfl ?_ | refine Yj rfl ?_ | refine Yk rfl ?_ | refine Yl rfl ?_
  | (refine Cmp.tt rfl ?_)
  | (refine Ret.mk rfl))
theorem s_CmpS (a b : List UInt8) : Fc E n_cmp_Compare_string [S a, S b] (I (cmpS a b)) := by
 have h1 := s_isNaNS g a
 have h2 := s_isNaNS g b
 refine g.fn code_cmp_Compare_string rfl ?_
 unfold cmpS
 by_cases h : a = b
 ·subst h
  have hu := strLess_irr a
  have he : (a == a) = true := beq_self_eq_true a
  rw [hu, if_neg (by decide), if_pos rfl]
  repeat' ((conv => whnf); first
  | refine Ya ?_ | refine Yb ?_ | refine Yc ?_ | refine Yd ?_ | refine Ye ?_ | refine Yf ?_ | refine Yg ?_ | refine Yh ?_ | refine Yi rfl ?_ | refine Yj rfl ?_ | refine Yk rfl ?_ | refine Yl rfl ?_
   | (apply CallI.of; assumption)
   | (rw [hu])
   | (rw [he])
   | (refine Ret.mk rfl))
 ·have he : (a == b) = false := beq_eq_false_iff_ne.2 h
  rw [if_neg h]
  cases hu : strLess a b
  ·rw [if_neg (by decide)]
   repeat' ((conv => whnf); first
   | refine Ya ?_ | refine Yb ?_ | refine Yc ?_ | refine Yd ?_ | refine Ye ?_ | refine Yf ?_ | refine Yg ?_ | refine Yh ?_ | refine Yi rfl ?_ | refine Yj rfl ?_ | refine Yk rfl ?_ | refine Yl rfl ?_
    | (apply CallI.of; assumption)
    | (rw [hu])
    | (rw [he])
    | (refine Ret.mk rfl))
  ·rw [if_pos rfl]
   repeat' ((conv => whnf); first
   | refine Ya ?_ | refine Yb ?_ | refine Yc ?_ | refine Yd ?_ | refine Ye ?_ | refine Yf ?_ | refine Yg ?_ | refine Yh ?_ | refine Yi rfl ?_ | refine Yj rfl ?_ | refine Yk rfl ?_ | refine Yl rfl ?_
    | (apply CallI.of; assumption)
    | (rw [hu])
    | (refine Ret.mk rfl))
theorem s_CmpI (a b : Int) : Fc E n_cmp_Compare_int [I a, I b] (I (cmpI a b)) := by
 have h1 := s_isNaNI g a
 have h2 := s_isNaNI g b
 refine g.fn code_cmp_Compare_int rfl ?_
 unfold cmpI
 rcases Int.lt_trichotomy a b with h | h | h
 ·rw [if_pos h]
  repeat' ((conv => whnf); first
  | refine Ya ?_ | refine Yb ?_ | refine Yc ?_ | refine Yd ?_ | refine Ye ?_ | refine Yf ?_ | refine Yg ?_ | refine Yh ?_ | refine Yi rfl ?_ | refine Yj rfl ?_ | refine Yk rfl ?_ | refine Yl rfl ?_
   | (apply CallI.of; assumption)
   | (refine Ret.mk rfl))
 ·rw [if_neg (by omega), if_neg (by omega)]
  repeat' ((conv => whnf); first
  | refine Ya ?_ | refine Yb ?_ | refine Yc ?_ | refine Yd ?_ | refine Ye ?_ | refine Yf ?_ | refine Yg ?_ | refine Yh ?_ | refine Yi rfl ?_ | refine Yj rfl ?_ | refine Yk rfl ?_ | refine Yl rfl ?_
   | (apply CallI.of; assumption)
   | (refine Ret.mk rfl))
 ·rw [if_neg (by omega), if_pos h]
  repeat' ((conv => whnf); first
  | refine Ya ?_ | refine Yb ?_ | refine Yc ?_ | refine Yd ?_ | refine Ye ?_ | refine Yf ?_ | refine Yg ?_ | refine Yh ?_ | refine Yi rfl ?_ | refine Yj rfl ?_ | refine Yk rfl ?_ | refine Yl rfl ?_
   | (apply CallI.of; assumption)
   | (refine Ret.mk rfl))
theorem s_Len : ∀ n : Nat, n ≤ 12 → ∃ r, Fc E n_math_bits_Len [.d (.int .u64 n)] (I r)
 | 0, _ => ⟨0, g.compR 100 (by decide +kernel)⟩
 | 1, _ => ⟨1, g.compR 100 (by decide +kernel)⟩
 | 2, _ => ⟨2, g.compR 100 (by decide +kernel)⟩
 | 3, _ => ⟨2, g.compR 100 (by decide +kernel)⟩
 | 4, _ => ⟨3, g.compR 100 (by decide +kernel)⟩
 | 5, _ => ⟨3, g.compR 100 (by decide +kernel)⟩
 | 6, _ => ⟨3, g.compR 100 (by decide +kernel)⟩
 | 7, _ => ⟨3, g.compR 100 (by decide +kernel)⟩
 | 8, _ => ⟨4, g.compR 100 (by decide +kernel)⟩
 | 9, _ => ⟨4, g.compR 100 (by decide +kernel)⟩
 | 10, _ => ⟨4, g.compR 100 (by decide +kernel)⟩
 | 11, _ => ⟨4, g.compR 100 (by decide +kernel)⟩
 | 12, _ => ⟨4, g.compR 100 (by decide +kernel)⟩
 | n + 13, h => absurd h (by omega)
theorem in_indices (n : Nat) (hn : n ≤ 1000) : In E 0 n_priority_indices [I n] [] fun v m' => v = .ref ⟨0, 3, 0⟩ 0 n n ∧ m' = [(⟨0, 2, 0⟩, .row true ty_int 1 0 []), (⟨0, 3, 0⟩, .row true ty_int 1 n ((idL n).map DI))] := by
 refine In.enter g.lim rfl code_priority_indices ?_
 repeat' ((conv => whnf); first
 | refine Ya ?_ | refine Yb ?_ | refine Yc ?_ | refine Yd ?_ | refine Ye ?_ | refine Yf ?_ | refine Yg ?_ | refine Yh ?_ | refine Yi rfl ?_ | refine Yj rfl ?_ | refine Yk rfl ?_ | refine Yl rfl ?_)
 refine LoopW.to (LoopW.up g (fun k => [(3, .ref ⟨0, 3, 0⟩ 0 k k), (5, I n), (6, I k)]) (fun k => [(⟨0, 2, 0⟩, .row true ty_int 1 0 []), (⟨0, 3, 0⟩, .row true ty_int 1 k ((idL k).map DI))]) n (fun k hk ih => ?_) 0 (Nat.zero_le _)) rfl rfl
 have hl := idL_length k
 by_cases hlt : k < n
 ·have ih := ih hlt
  rw [idL_succ] at ih
  simp only [List.map_append, List.map_cons, List.map_nil] at ih
  repeat' ((conv => whnf); first
  | refine Ya ?_ | refine Yb ?_ | refine Yc ?_ | refine Yd ?_ | refine Ye ?_ | refine Yf ?_ | refine Yg ?_ | refine Yh ?_ | refine Yi rfl ?_ | refine Yj rfl ?_ | refine Yk rfl ?_ | refine Yl rfl ?_
   | (refine Need.mk (by simp only [List.length_cons, List.length_nil]; omega) ?_)
   | (refine LoopW.to ih rfl rfl))
 ·obtain rfl : k = n := by omega
  repeat' ((conv => whnf); first
  | refine Ya ?_ | refine Yb ?_ | refine Yc ?_ | refine Yd ?_ | refine Ye ?_ | refine Yf ?_ | refine Yg ?_ | refine Yh ?_ | refine Yi rfl ?_ | refine Yj rfl ?_ | refine Yk rfl ?_ | refine Yl rfl ?_
   | (exact ⟨rfl, rfl⟩))
theorem s_indices (n : Nat) (hn : n ≤ 1000) : Fc E n_priority_indices [I n] (LI (idL n)) := by
 obtain ⟨v, m', h, rfl, rfl⟩ := (in_indices g n hn).got
 refine ⟨_, _, h, ?_⟩
 have hl := idL_length n
 show (Go.Evl.freeze true _ (V.ref ⟨0, 3, 0⟩ 0 n n)).map V.d = _
 simp [Go.Evl.freeze, Go.Evl.look, hl]
set_option maxHeartbeats 16000000 in
theorem in_insL {n : Nat} {lt : Int → Int → Bool} (t : Tot n lt) (hn : n ≤ 12) (f : Nat) (a0 : D) (hcmp : ∀ (x y : Int) (l : List Int) {K : V → Mem → Prop}, x ∈ idL n → y ∈ idL n → (∀ c : Int, (c < 0 ↔ lt x y = true) → K (I c) [(⟨0, 3, 0⟩, .cells ty_Lpriority_Claim [.d a0]), (⟨0, 4, 0⟩, .row true ty_int 1 0 []), (⟨0, 13, 0⟩, .row true ty_int 1 n (l.map DI))]) → In E 4 f [I x, I y, .ptr ⟨0, 3, 0⟩ 0 0] [(⟨0, 3, 0⟩, .cells ty_Lpriority_Claim [.d a0]), (⟨0, 4, 0⟩, .row true ty_int 1 0 []), (⟨0, 13, 0⟩, .row true ty_int 1 n (l.map DI))] K) {K : V → Mem → Prop} (hK : ∀ l, Srt n lt l → K (.tup []) [(⟨0, 3, 0⟩, .cells ty_Lpriority_Claim [.d a0]), (⟨0, 4, 0⟩, .row true ty_int 1 0 []), (⟨0, 13, 0⟩, .row true ty_int 1 n (l.map DI))]) :
  In E 3 n_slices_insertionSortCmpFunc_int [.ref ⟨0, 13, 0⟩ 0 n n, I 0, I n, .fn f [] [.ptr ⟨0, 3, 0⟩ 0 0]] [(⟨0, 3, 0⟩, .cells ty_Lpriority_Claim [.d a0]), (⟨0, 4, 0⟩, .row true ty_int 1 0 []), (⟨0, 13, 0⟩, .row true ty_int 1 n ((idL n).map DI))] K := by
 refine In.enter g.lim rfl code_slices_insertionSortCmpFunc_int ?_
 rcases Nat.eq_zero_or_pos n with h0 | h0
 ·subst h0
  have hs := hK [] ⟨List.Perm.nil, .nil⟩
  repeat' ((conv => whnf); first
  | refine Ya ?_ | refine Yb ?_ | refine Yc ?_ | refine Yd ?_ | refine Ye ?_ | refine Yf ?_ | refine Yg ?_ | refine Yh ?_ | refine Yi rfl ?_ | refine Yj rfl ?_ | refine Yk rfl ?_ | refine Yl rfl ?_
   | (refine LoopW.step g.lim ?_)
   | (exact hs))
 ·obtain ⟨x0, r0, hi⟩ : ∃ x r, idL n = x :: r := by
   cases h : idL n with
   | nil => have := idL_length n; rw [h] at this; simp at this; omega
   | cons x r => exact ⟨x, r, rfl⟩
  have hpm : (x0 :: r0).Perm (idL n) := by rw [hi]
  rw [hi]
  repeat' ((conv => whnf); first
  | refine Ya ?_ | refine Yb ?_ | refine Yc ?_ | refine Yd ?_ | refine Ye ?_ | refine Yf ?_ | refine Yg ?_ | refine Yh ?_ | refine Yi rfl ?_ | refine Yj rfl ?_ | refine Yk rfl ?_ | refine Yl rfl ?_)
  refine LoopW.to (LoopW.by g (fun s : InO => s.s.length = s.i ∧ s.s.Pairwise (fun a b => lt a b = true) ∧ (s.s ++ s.r).Perm (idL n))
   (fun s => [(0, .ref ⟨0, 13, 0⟩ 0 n n), (1, I 0), (2, I n), (3, .fn f [] [.ptr ⟨0, 3, 0⟩ 0 0]), (8, I s.i)])
   (fun s => [(⟨0, 3, 0⟩, .cells ty_Lpriority_Claim [.d a0]), (⟨0, 4, 0⟩, .row true ty_int 1 0 []), (⟨0, 13, 0⟩, .row true ty_int 1 n ((s.s ++ s.r).map DI))])
   (fun s => n - s.i) (fun s hs ih => ?_) ⟨1, [x0], r0⟩ ⟨rfl, List.pairwise_singleton .., hpm⟩) rfl rfl
  obtain ⟨i, s, r⟩ := s
  obtain ⟨h1, h2, h3⟩ := hs
  dsimp only at h1 h2 h3 ih ⊢
  have hlen := h3.length_eq
  rw [idL_length, List.length_append] at hlen
  by_cases hlt : i < n
  ·cases r with
   | nil => simp at hlen; omega
   | cons x r =>
    have hx : x ∈ idL n := h3.mem_iff.1 (by simp)
    have hsm : ∀ y ∈ s, y ∈ idL n := fun y hy => h3.mem_iff.1 (by simp [hy])
    have hnd : (s ++ x :: r).Nodup := by
     rw [h3.nodup_iff]
     refine List.pairwise_iff_getElem.2 fun a b ha hb hab => ?_
     rw [idL_length] at ha hb
     have e1 := List.getElem?_eq_getElem (l := idL n) (i := a) (by rw [idL_length]; exact ha)
     have e2 := List.getElem?_eq_getElem (l := idL n) (i := b) (by rw [idL_length]; exact hb)
     rw [idL_get ha] at e1
     rw [idL_get hb] at e2
     rw [← Option.some.inj e1, ← Option.some.inj e2]
     omega
    have hxs : x ∉ s := fun hc => (List.nodup_append.1 hnd).2.2 x hc x (by simp) rfl
    rw [List.length_cons] at hlen
    repeat' ((conv => whnf); first
    | refine Ya ?_ | refine Yb ?_ | refine Yc ?_ | refine Yd ?_ | refine Ye ?_ | refine Yf ?_ | refine Yg ?_ | refine Yh ?_ | refine Yi rfl ?_ | refine Yj rfl ?_ | refine Yk rfl ?_ | refine Yl rfl ?_)
    refine LoopW.to (LoopW.by g (fun u : InI => u.p.length = u.j ∧ Ins lt s x u.p u.q)
     (fun u => [(0, .ref ⟨0, 13, 0⟩ 0 n n), (1, I 0), (2, I n), (3, .fn f [] [.ptr ⟨0, 3, 0⟩ 0 0]), (8, I i), (9, I u.j)])
     (fun u => [(⟨0, 3, 0⟩, .cells ty_Lpriority_Claim [.d a0]), (⟨0, 4, 0⟩, .row true ty_int 1 0 []), (⟨0, 13, 0⟩, .row true ty_int 1 n ((u.p ++ x :: (u.q ++ r)).map DI))])
     (fun u => u.j) (fun u hu jh => ?_) ⟨i, s, []⟩ ⟨h1, Ins.start s x⟩) rfl rfl
    obtain ⟨j, p, q⟩ := u
    obtain ⟨k1, k2⟩ := hu
    dsimp only at k1 k2 jh ⊢
    have hpq := k2.eq
    have hpl : p.length + q.length = s.length := by rw [← hpq, List.length_append]
    have out : (p = [] ∨ ∃ p' y, p = p' ++ [y] ∧ lt x y = false) → (p ++ x :: q).Pairwise (fun a b => lt a b = true) := fun he => k2.done t h2 hsm hx hxs he
    have hperm : (p ++ x :: q ++ r).Perm (idL n) := by
     refine List.Perm.trans ?_ h3
     rw [← hpq]
     simp only [List.append_assoc, List.cons_append]
     exact List.Perm.append_left p List.perm_middle.symm
    have ih := ih ⟨i + 1, p ++ x :: q, r⟩
    dsimp only at ih
    rcases List.eq_nil_or_concat p with rfl | ⟨p', y, rfl⟩
    ·have ih := ih ⟨by simp at hpl ⊢; omega, out (.inl rfl), hperm⟩ (by omega)
     have hj0 : j = 0 := k1.symm
     subst hj0
     repeat' ((conv => whnf); first
     | refine Ya ?_ | refine Yb ?_ | refine Yc ?_ | refine Yd ?_ | refine Ye ?_ | refine Yf ?_ | refine Yg ?_ | refine Yh ?_ | refine Yi rfl ?_ | refine Yj rfl ?_ | refine Yk rfl ?_ | refine Yl rfl ?_
      | (refine LoopW.to ih rfl rfl))
    ·rw [List.concat_eq_append] at *
     obtain ⟨j, rfl⟩ : ∃ m, j = m + 1 := ⟨j - 1, by simp at k1; omega⟩
     have k3 : p'.length = j := by simpa using k1
     have hy : y ∈ idL n := hsm y (by rw [← hpq]; simp)
     have jh := jh ⟨j, p', y :: q⟩ 
     dsimp only at jh
     obtain ⟨L, hL⟩ : ∃ L, L = (p' ++ [y]) ++ x :: (q ++ r) := ⟨_, rfl⟩
     have hll : L.length = n := by
      rw [hL]
      simp only [List.length_append, List.length_cons, List.length_nil] at hpl hlen ⊢
      omega
     have g1 := get_at (l := L) (p := p' ++ [y]) (x := x) (r := q ++ r) (k := j + 1) hL (by simp [k3]) (by omega)
     have g2 := get_at (l := L) (p := p') (x := y) (r := x :: (q ++ r)) (k := j) (by rw [hL]; simp) (by simp [k3]) (by omega)
     have hsw := swap_row p' (q ++ r) x y (i := (0 + ((j + 1 : Nat) : Int).toNat) * 1) (j := (0 + (((j + 1 : Nat) : Int) - 1).toNat) * 1) (by omega) (by omega)
     rw [show p' ++ y :: x :: (q ++ r) = L by rw [hL]; simp] at hsw
     rw [← hL]
     by_cases hc0 : lt x y = true
     ·have jh := jh ⟨k3, k2.step hc0⟩ (by omega)
      have e1 : ((j + 1 : Nat) : Int) - 1 = (j : Int) := by omega
      repeat' ((conv => whnf); first
      | refine Ya ?_ | refine Yb ?_ | refine Yc ?_ | refine Yd ?_ | refine Ye ?_ | refine Yf ?_ | refine Yg ?_ | refine Yh ?_ | refine Yi rfl ?_ | refine Yj rfl ?_ | refine Yk rfl ?_ | refine Yl rfl ?_
       | (refine Pick.intI0 (j + 1) rfl (by omega) ?_; rw [g1])
       | (refine Pick.intI0 j (by omega) (by omega) ?_; rw [g2])
       | (refine hcmp x y L hx hy (fun c hc => ?_))
       | (refine Cmp.tt (hc.2 hc0) ?_)
       | (refine Need.mk ⟨rfl, by rw [patch_len _ _ _ (by omega)]; omega, rfl⟩ ?_)
       | (refine LoopW.to jh (by first | (rw [e1]; done) | (rw [e1]; rfl)) ?_))
      rw [hsw]
      rfl
     ·have hcf : lt x y = false := by simpa using hc0
      have ih := ih ⟨by simp only [List.length_append, List.length_cons, List.length_nil] at hpl ⊢; omega, out (.inr ⟨p', y, rfl, hcf⟩), hperm⟩ (by omega)
      rw [show (p' ++ [y]) ++ x :: q ++ r = L by rw [hL]; simp] at ih
      repeat' ((conv => whnf); first
      | refine Ya ?_ | refine Yb ?_ | refine Yc ?_ | refine Yd ?_ | refine Ye ?_ | refine Yf ?_ | refine Yg ?_ | refine Yh ?_ | refine Yi rfl ?_ | refine Yj rfl ?_ | refine Yk rfl ?_ | refine Yl rfl ?_
       | (refine Pick.intI0 (j + 1) rfl (by omega) ?_; rw [g1])
       | (refine Pick.intI0 j (by omega) (by omega) ?_; rw [g2])
       | (refine hcmp x y L hx hy (fun c hc => ?_))
       | (refine Cmp.ff (fun h => hc0 (hc.1 h)) ?_)
       | (refine LoopW.to ih rfl rfl))
  ·have hr : r = [] := List.length_eq_zero_iff.1 (by omega)
   subst hr
   rw [List.append_nil] at *
   have hs := hK s ⟨h3, h2⟩
   repeat' ((conv => whnf); first
   | refine Ya ?_ | refine Yb ?_ | refine Yc ?_ | refine Yd ?_ | refine Ye ?_ | refine Yf ?_ | refine Yg ?_ | refine Yh ?_ | refine Yi rfl ?_ | refine Yj rfl ?_ | refine Yk rfl ?_ | refine Yl rfl ?_
    | (exact hs))
theorem in_sortL {n : Nat} {lt : Int → Int → Bool} (t : Tot n lt) (hn : n ≤ 12) (f : Nat) (a0 : D) (hcmp : ∀ (x y : Int) (l : List Int) {K : V → Mem → Prop}, x ∈ idL n → y ∈ idL n → (∀ c : Int, (c < 0 ↔ lt x y = true) → K (I c) [(⟨0, 3, 0⟩, .cells ty_Lpriority_Claim [.d a0]), (⟨0, 4, 0⟩, .row true ty_int 1 0 []), (⟨0, 13, 0⟩, .row true ty_int 1 n (l.map DI))]) → In E 4 f [I x, I y, .ptr ⟨0, 3, 0⟩ 0 0] [(⟨0, 3, 0⟩, .cells ty_Lpriority_Claim [.d a0]), (⟨0, 4, 0⟩, .row true ty_int 1 0 []), (⟨0, 13, 0⟩, .row true ty_int 1 n (l.map DI))] K) {K : V → Mem → Prop} (hK : ∀ l, Srt n lt l → K (.tup []) [(⟨0, 3, 0⟩, .cells ty_Lpriority_Claim [.d a0]), (⟨0, 4, 0⟩, .row true ty_int 1 0 []), (⟨0, 13, 0⟩, .row true ty_int 1 n (l.map DI))]) :
  In E 1 n_slices_SortFunc_Lint_int [.ref ⟨0, 13, 0⟩ 0 n n, .fn f [] [.ptr ⟨0, 3, 0⟩ 0 0]] [(⟨0, 3, 0⟩, .cells ty_Lpriority_Claim [.d a0]), (⟨0, 4, 0⟩, .row true ty_int 1 0 []), (⟨0, 13, 0⟩, .row true ty_int 1 n ((idL n).map DI))] K := by
 obtain ⟨b, hb⟩ := s_Len g n hn
 refine In.enter g.lim rfl code_slices_SortFunc_Lint_int ?_
 repeat' ((conv => whnf); first
 | refine Ya ?_ | refine Yb ?_ | refine Yc ?_ | refine Yd ?_ | refine Ye ?_ | refine Yf ?_ | refine Yg ?_ | refine Yh ?_ | refine Yi rfl ?_ | refine Yj rfl ?_ | refine Yk rfl ?_ | refine Yl rfl ?_
  | (apply CallI.of; assumption)
  | (refine Wr.u64 ?_)
  | (refine In.enter g.lim rfl code_slices_pdqsortCmpFunc_int ?_)
  | (refine LoopW.step g.lim ?_)
  | (refine in_insL g t hn f a0 hcmp (fun l hl => ?_))
  | (exact hK _ (by assumption)))
set_option maxHeartbeats 16000000 in
theorem in_insR {n : Nat} {lt : Int → Int → Bool} (t : Tot n lt) (hn : n ≤ 12) (f : Nat) (a0 a1 a2 a3 a4 a5 : D) (hcmp : ∀ (x y : Int) (l : List Int) {K : V → Mem → Prop}, x ∈ idL n → y ∈ idL n → (∀ c : Int, (c < 0 ↔ lt x y = true) → K (I c) [(⟨0, 1, 0⟩, .cells ty_priority_ranking [.d a0, .d a1, .d a2, .d a3, .d a4, .d a5]), (⟨0, 2, 0⟩, .row true ty_int 1 0 []), (⟨0, 14, 0⟩, .row true ty_int 1 n (l.map DI))]) → In E 4 f [I x, I y, .ptr ⟨0, 1, 0⟩ 0 0] [(⟨0, 1, 0⟩, .cells ty_priority_ranking [.d a0, .d a1, .d a2, .d a3, .d a4, .d a5]), (⟨0, 2, 0⟩, .row true ty_int 1 0 []), (⟨0, 14, 0⟩, .row true ty_int 1 n (l.map DI))] K) {K : V → Mem → Prop} (hK : ∀ l, Srt n lt l → K (.tup []) [(⟨0, 1, 0⟩, .cells ty_priority_ranking [.d a0, .d a1, .d a2, .d a3, .d a4, .d a5]), (⟨0, 2, 0⟩, .row true ty_int 1 0 []), (⟨0, 14, 0⟩, .row true ty_int 1 n (l.map DI))]) :
  In E 3 n_slices_insertionSortCmpFunc_int [.ref ⟨0, 14, 0⟩ 0 n n, I 0, I n, .fn f [] [.ptr ⟨0, 1, 0⟩ 0 0]] [(⟨0, 1, 0⟩, .cells ty_priority_ranking [.d a0, .d a1, .d a2, .d a3, .d a4, .d a5]), (⟨0, 2, 0⟩, .row true ty_int 1 0 []), (⟨0, 14, 0⟩, .row true ty_int 1 n ((idL n).map DI))] K := by
 refine In.enter g.lim rfl code_slices_insertionSortCmpFunc_int ?_
 rcases Nat.eq_zero_or_pos n with h0 | h0
 ·subst h0
  have hs := hK [] ⟨List.Perm.nil, .nil⟩
  repeat' ((conv => whnf); first
  | refine Ya ?_ | refine Yb ?_ | refine Yc ?_ | refine Yd ?_ | refine Ye ?_ | refine Yf ?_ | refine Yg ?_ | refine Yh ?_ | refine Yi rfl ?_ | refine Yj rfl ?_ | refine Yk rfl ?_ | refine Yl rfl ?_
   | (refine LoopW.step g.lim ?_)
   | (exact hs))
 ·obtain ⟨x0, r0, hi⟩ : ∃ x r, idL n = x :: r := by
   cases h : idL n with
   | nil => have := idL_length n; rw [h] at this; simp at this; omega
   | cons x r => exact ⟨x, r, rfl⟩
  have hpm : (x0 :: r0).Perm (idL n) := by rw [hi]
  rw [hi]
  repeat' ((conv => whnf); first
  | refine Ya ?_ | refine Yb ?_ | refine Yc ?_ | refine Yd ?_ | refine Ye ?_ | refine Yf ?_ | refine Yg ?_ | refine Yh ?_ | refine Yi rfl ?_ | refine Yj rfl ?_ | refine Yk rfl ?_ | refine Yl rfl ?_)
  refine LoopW.to (LoopW.by g (fun s : InO => s.s.length = s.i ∧ s.s.Pairwise (fun a b => lt a b = true) ∧ (s.s ++ s.r).Perm (idL n))
   (fun s => [(0, .ref ⟨0, 14, 0⟩ 0 n n), (1, I 0), (2, I n), (3, .fn f [] [.ptr ⟨0, 1, 0⟩ 0 0]), (8, I s.i)])
   (fun s => [(⟨0, 1, 0⟩, .cells ty_priority_ranking [.d a0, .d a1, .d a2, .d a3, .d a4, .d a5]), (⟨0, 2, 0⟩, .row true ty_int 1 0 []), (⟨0, 14, 0⟩, .row true ty_int 1 n ((s.s ++ s.r).map DI))])
   (fun s => n - s.i) (fun s hs ih => ?_) ⟨1, [x0], r0⟩ ⟨rfl, List.pairwise_singleton .., hpm⟩) rfl rfl
  obtain ⟨i, s, r⟩ := s
  obtain ⟨h1, h2, h3⟩ := hs
  dsimp only at h1 h2 h3 ih ⊢
  have hlen := h3.length_eq
  rw [idL_length, List.length_append] at hlen
  by_cases hlt : i < n
  ·cases r with
   | nil => simp at hlen; omega
   | cons x r =>
    have hx : x ∈ idL n := h3.mem_iff.1 (by simp)
    have hsm : ∀ y ∈ s, y ∈ idL n := fun y hy => h3.mem_iff.1 (by simp [hy])
    have hnd : (s ++ x :: r).Nodup := by
     rw [h3.nodup_iff]
     refine List.pairwise_iff_getElem.2 fun a b ha hb hab => ?_
     rw [idL_length] at ha hb
     have e1 := List.getElem?_eq_getElem (l := idL n) (i := a) (by rw [idL_length]; exact ha)
     have e2 := List.getElem?_eq_getElem (l := idL n) (i := b) (by rw [idL_length]; exact hb)
     rw [idL_get ha] at e1
     rw [idL_get hb] at e2
     rw [← Option.some.inj e1, ← Option.some.inj e2]
     omega
    have hxs : x ∉ s := fun hc => (List.nodup_append.1 hnd).2.2 x hc x (by simp) rfl
    rw [List.length_cons] at hlen
    repeat' ((conv => whnf); first
    | refine Ya ?_ | refine Yb ?_ | refine Yc ?_ | refine Yd ?_ | refine Ye ?_ | refine Yf ?_ | refine Yg ?_ | refine Yh ?_ | refine Yi rfl ?_ | refine Yj rfl ?_ | refine Yk rfl ?_ | refine Yl rfl ?_)
    refine LoopW.to (LoopW.by g (fun u : InI => u.p.length = u.j ∧ Ins lt s x u.p u.q)
     (fun u => [(0, .ref ⟨0, 14, 0⟩ 0 n n), (1, I 0), (2, I n), (3, .fn f [] [.ptr ⟨0, 1, 0⟩ 0 0]), (8, I i), (9, I u.j)])
     (fun u => [(⟨0, 1, 0⟩, .cells ty_priority_ranking [.d a0, .d a1, .d a2, .d a3, .d a4, .d a5]), (⟨0, 2, 0⟩, .row true ty_int 1 0 []), (⟨0, 14, 0⟩, .row true ty_int 1 n ((u.p ++ x :: (u.q ++ r)).map DI))])
     (fun u => u.j) (fun u hu jh => ?_) ⟨i, s, []⟩ ⟨h1, Ins.start s x⟩) rfl rfl
    obtain ⟨j, p, q⟩ := u
    obtain ⟨k1, k2⟩ := hu
    dsimp only at k1 k2 jh ⊢
    have hpq := k2.eq
    have hpl : p.length + q.length = s.length := by rw [← hpq, List.length_append]
    have out : (p = [] ∨ ∃ p' y, p = p' ++ [y] ∧ lt x y = false) → (p ++ x :: q).Pairwise (fun a b => lt a b = true) := fun he => k2.done t h2 hsm hx hxs he
    have hperm : (p ++ x :: q ++ r).Perm (idL n) := by
     refine List.Perm.trans ?_ h3
     rw [← hpq]
     simp only [List.append_assoc, List.cons_append]
     exact List.Perm.append_left p List.perm_middle.symm
    have ih := ih ⟨i + 1, p ++ x :: q, r⟩
    dsimp only at ih
    rcases List.eq_nil_or_concat p with rfl | ⟨p', y, rfl⟩
    ·have ih := ih ⟨by simp at hpl ⊢; omega, out (.inl rfl), hperm⟩ (by omega)
     have hj0 : j = 0 := k1.symm
     subst hj0
     repeat' ((conv => whnf); first
     | refine Ya ?_ | refine Yb ?_ | refine Yc ?_ | refine Yd ?_ | refine Ye ?_ | refine Yf ?_ | refine Yg ?_ | refine Yh ?_ | refine Yi rfl ?_ | refine Yj rfl ?_ | refine Yk rfl ?_ | refine Yl rfl ?_
      | (refine LoopW.to ih rfl rfl))
    ·rw [List.concat_eq_append] at *
     obtain ⟨j, rfl⟩ : ∃ m, j = m + 1 := ⟨j - 1, by simp at k1; omega⟩
     have k3 : p'.length = j := by simpa using k1
     have hy : y ∈ idL n := hsm y (by rw [← hpq]; simp)
     have jh := jh ⟨j, p', y :: q⟩ 
     dsimp only at jh
     obtain ⟨L, hL⟩ : ∃ L, L = (p' ++ [y]) ++ x :: (q ++ r) := ⟨_, rfl⟩
     have hll : L.length = n := by
      rw [hL]
      simp only [List.length_append, List.length_cons, List.length_nil] at hpl hlen ⊢
      omega
     have g1 := get_at (l := L) (p := p' ++ [y]) (x := x) (r := q ++ r) (k := j + 1) hL (by simp [k3]) (by omega)
     have g2 := get_at (l := L) (p := p') (x := y) (r := x :: (q ++ r)) (k := j) (by rw [hL]; simp) (by simp [k3]) (by omega)
     have hsw := swap_row p' (q ++ r) x y (i := (0 + ((j + 1 : Nat) : Int).toNat) * 1) (j := (0 + (((j + 1 : Nat) : Int) - 1).toNat) * 1) (by omega) (by omega)
     rw [show p' ++ y :: x :: (q ++ r) = L by rw [hL]; simp] at hsw
     rw [← hL]
     by_cases hc0 : lt x y = true
     ·have jh := jh ⟨k3, k2.step hc0⟩ (by omega)
      have e1 : ((j + 1 : Nat) : Int) - 1 = (j : Int) := by omega
      repeat' ((conv => whnf); first
      | refine Ya ?_ | refine Yb ?_ | refine Yc ?_ | refine Yd ?_ | refine Ye ?_ | refine Yf ?_ | refine Yg ?_ | refine Yh ?_ | refine Yi rfl ?_ | refine Yj rfl ?_ | refine Yk rfl ?_ | refine Yl rfl ?_
       | (refine Pick.intI0 (j + 1) rfl (by omega) ?_; rw [g1])
       | (refine Pick.intI0 j (by omega) (by omega) ?_; rw [g2])
       | (refine hcmp x y L hx hy (fun c hc => ?_))
       | (refine Cmp.tt (hc.2 hc0) ?_)
       | (refine Need.mk ⟨rfl, by rw [patch_len _ _ _ (by omega)]; omega, rfl⟩ ?_)
       | (refine LoopW.to jh (by first | (rw [e1]; done) | (rw [e1]; rfl)) ?_))
      rw [hsw]
      rfl
     ·have hcf : lt x y = false := by simpa using hc0
      have ih := ih ⟨by simp only [List.length_append, List.length_cons, List.length_nil] at hpl ⊢; omega, out (.inr ⟨p', y, rfl, hcf⟩), hperm⟩ (by omega)
      rw [show (p' ++ [y]) ++ x :: q ++ r = L by rw [hL]; simp] at ih
      repeat' ((conv => whnf); first
      | refine Ya ?_ | refine Yb ?_ | refine Yc ?_ | refine Yd ?_ | refine Ye ?_ | refine Yf ?_ | refine Yg ?_ | refine Yh ?_ | refine Yi rfl ?_ | refine Yj rfl ?_ | refine Yk rfl ?_ | refine Yl rfl ?_
       | (refine Pick.intI0 (j + 1) rfl (by omega) ?_; rw [g1])
       | (refine Pick.intI0 j (by omega) (by omega) ?_; rw [g2])
       | (refine hcmp x y L hx hy (fun c hc => ?_))
       | (refine Cmp.ff (fun h => hc0 (hc.1 h)) ?_)
       | (refine LoopW.to ih rfl rfl))
  ·have hr : r = [] := List.length_eq_zero_iff.1 (by omega)
   subst hr
   rw [List.append_nil] at *
   have hs := hK s ⟨h3, h2⟩
   repeat' ((conv => whnf); first
   | refine Ya ?_ | refine Yb ?_ | refine Yc ?_ | refine Yd ?_ | refine Ye ?_ | refine Yf ?_ | refine Yg ?_ | refine Yh ?_ | refine Yi rfl ?_ | refine Yj rfl ?_ | refine Yk rfl ?_ | refine Yl rfl ?_
    | (exact hs))
theorem in_sortR {n : Nat} {lt : Int → Int → Bool} (t : Tot n lt) (hn : n ≤ 12) (f : Nat) (a0 a1 a2 a3 a4 a5 : D) (hcmp : ∀ (x y : Int) (l : List Int) {K : V → Mem → Prop}, x ∈ idL n → y ∈ idL n → (∀ c : Int, (c < 0 ↔ lt x y = true) → K (I c) [(⟨0, 1, 0⟩, .cells ty_priority_ranking [.d a0, .d a1, .d a2, .d a3, .d a4, .d a5]), (⟨0, 2, 0⟩, .row true ty_int 1 0 []), (⟨0, 14, 0⟩, .row true ty_int 1 n (l.map DI))]) → In E 4 f [I x, I y, .ptr ⟨0, 1, 0⟩ 0 0] [(⟨0, 1, 0⟩, .cells ty_priority_ranking [.d a0, .d a1, .d a2, .d a3, .d a4, .d a5]), (⟨0, 2, 0⟩, .row true ty_int 1 0 []), (⟨0, 14, 0⟩, .row true ty_int 1 n (l.map DI))] K) {K : V → Mem → Prop} (hK : ∀ l, Srt n lt l → K (.tup []) [(⟨0, 1, 0⟩, .cells ty_priority_ranking [.d a0, .d a1, .d a2, .d a3, .d a4, .d a5]), (⟨0, 2, 0⟩, .row true ty_int 1 0 []), (⟨0, 14, 0⟩, .row true ty_int 1 n (l.map DI))]) :
  In E 1 n_slices_SortFunc_Lint_int [.ref ⟨0, 14, 0⟩ 0 n n, .fn f [] [.ptr ⟨0, 1, 0⟩ 0 0]] [(⟨0, 1, 0⟩, .cells ty_priority_ranking [.d a0, .d a1, .d a2, .d a3, .d a4, .d a5]), (⟨0, 2, 0⟩, .row true ty_int 1 0 []), (⟨0, 14, 0⟩, .row true ty_int 1 n ((idL n).map DI))] K := by
 obtain ⟨b, hb⟩ := s_Len g n hn
 refine In.enter g.lim rfl code_slices_SortFunc_Lint_int ?_
 repeat' ((conv => whnf); first
 | refine Ya ?_ | refine Yb ?_ | refine Yc ?_ | refine Yd ?_ | refine Ye ?_ | refine Yf ?_ | refine Yg ?_ | refine Yh ?_ | refine Yi rfl ?_ | refine Yj rfl ?_ | refine Yk rfl ?_ | refine Yl rfl ?_
  | (apply CallI.of; assumption)
  | (refine Wr.u64 ?_)
  | (refine In.enter g.lim rfl code_slices_pdqsortCmpFunc_int ?_)
  | (refine LoopW.step g.lim ?_)
  | (refine in_insR g t hn f a0 a1 a2 a3 a4 a5 hcmp (fun l hl => ?_))
  | (exact hK _ (by assumption)))
end
end Go.Proofs.YtlnlcdnpgjhaaaaGreatDoor.Co
/-
 Names as the keys of a map, and the lists of names.
-/
namespace Go.Proofs.YtlnlcdnpgjhaaaaGreatDoor.Co
open Go Go.Evl
open Go Go.Evl
theorem settle_row {cx : Cx} {slot lo : Nat} {old m : Mem} {o : Evl.Id} {off l top : Nat} {wr : Bool} {t sz n : Nat} {xs : List D} (hlo : lo ≤ o.lv) (hl : Evl.look m o = some (.row wr t sz n xs)) :
  Go.Evl.settle cx slot lo old m (.ref o off l top) = some (.ref ⟨cx.lv, slot, Go.Evl.freeK cx.lv slot old⟩ off l top, old ++ [(⟨cx.lv, slot, Go.Evl.freeK cx.lv slot old⟩, .row wr t sz n xs)]) := by
 have hr : Go.Evl.reach lo m 64 (Go.Evl.ids (.ref o off l top)) [] = [o] := by
  simp [Go.Evl.ids, Go.Evl.reach, hlo, hl, Go.Evl.idsO]
 unfold Go.Evl.settle
 simp only [hr]
 rw [if_pos (by simp [Go.Evl.within, Go.Evl.movable, Go.Evl.onceB, Go.Evl.ids, hl, hlo, Go.Evl.idsO, Go.Evl.isLoop])]
 simp [Go.Evl.number, Go.Evl.ren, Go.Evl.subst, Go.Evl.moved, hl, Go.Evl.renO]
theorem Some'.row {cx : Cx} {slot lo : Nat} {old m : Mem} {o : Evl.Id} {off l top : Nat} {wr : Bool} {t sz n : Nat} {xs : List D} {K : V × Mem → Prop} (hlo : lo ≤ o.lv) (hl : Evl.look m o = some (.row wr t sz n xs))
  (k : K (.ref ⟨cx.lv, slot, Go.Evl.freeK cx.lv slot old⟩ off l top, old ++ [(⟨cx.lv, slot, Go.Evl.freeK cx.lv slot old⟩, .row wr t sz n xs)])) : Some' (Go.Evl.settle cx slot lo old m (.ref o off l top)) K := ⟨_, settle_row hlo hl, k⟩
end Go.Proofs.YtlnlcdnpgjhaaaaGreatDoor.Co
/-
 Priority: the lots of claims, by the program and by the reference.
-/
namespace Go.Proofs.YtlnlcdnpgjhaaaaGreatDoor.Co
open Go Go.Evl
set_option maxRecDepth 100000
def nmAt (l : List Clm) (i : Int) : List UInt8 := ((l[i.toNat]?).map (·.rq.nm)).getD []
def ltN (l : List Clm) (a b : Int) : Bool := strLess (nmAt l a) (nmAt l b)
theorem nmAt_get {l : List Clm} {i : Int} (h : i.toNat < l.length) : nmAt l i = l[i.toNat].rq.nm := by
 unfold nmAt
 rw [List.getElem?_eq_getElem h]
 rfl
theorem ltN_tot {l : List Clm} (h : (nmsM l).Nodup) : Tot l.length (ltN l) := by
 refine ⟨fun a => strLess_irr _, fun a b c _ _ _ => strLess_trans, fun a b ha hb hab => strLess_tot fun e => ?_⟩
 have h1 := idL_mem.1 ha
 have h2 := idL_mem.1 hb
 have ha' : a.toNat < l.length := by omega
 have hb' : b.toNat < l.length := by omega
 rw [nmAt_get ha', nmAt_get hb'] at e
 have hw := List.pairwise_iff_getElem.1 h
 have hla : a.toNat < (nmsM l).length := by simp [nmsM]; omega
 have hlb : b.toNat < (nmsM l).length := by simp [nmsM]; omega
 rcases Nat.lt_trichotomy a.toNat b.toNat with hh | hh | hh
 ·exact hw _ _ hla hlb hh (by simp [nmsM, e])
 ·omega
 ·exact hw _ _ hlb hla hh (by simp [nmsM, e])
def lotL (key : Int) (l : List Clm) : List Int := (idL l.length).map fun i => (drawAll key l.length).getD (placeL l.length (ltN l) i) 0
theorem lotL_length (key : Int) (l : List Clm) : (lotL key l).length = l.length := by simp [lotL, idL_length]
theorem drawAll_length (key : Int) (n : Nat) : (drawAll key n).length = n := by
 unfold drawAll
 rw [drawL_length, idL_length]
structure Lts (n : Nat) (s d : List Int) (k : Nat) (T : List Int) : Prop where
 len : T.length = n
 got : ∀ j, j < k → T.getD (s.getD j 0).toNat 0 = d.getD j 0
theorem Lts.step {n : Nat} {lt : Int → Int → Bool} {s d T : List Int} {k : Nat} (t : Tot n lt) (hs : Srt n lt s) (h : Lts n s d k T) (hk : k < n) : Lts n s d (k + 1) (T.set (s.getD k 0).toNat (d.getD k 0)) := by
 have hl := hs.len
 have hg : ∀ j (hj : j < n), s.getD j 0 = s[j]'(by omega) := fun j hj => by simp [List.getD, show j < s.length by omega]
 have hm : ∀ j, j < n → 0 ≤ s.getD j 0 ∧ s.getD j 0 < n := fun j hj => by
  rw [hg j hj]
  exact idL_mem.1 (hs.mem (by omega))
 refine ⟨by rw [List.length_set]; exact h.len, fun j hj => ?_⟩
 have h1 := hm k hk
 have h2 := hm j (by omega)
 rw [getD_set _ _ _ _ (by rw [h.len]; omega)]
 by_cases e : j = k
 ·subst e
  rw [if_pos rfl]
 ·have hne : s.getD j 0 ≠ s.getD k 0 := fun hc => by
   rw [hg j (by omega), hg k hk] at hc
   have := List.pairwise_iff_getElem.1 hs.up j k (by omega) (by omega) (by omega)
   rw [hc, t.irr] at this
   cases this
  rw [if_neg (by omega)]
  exact h.got j (by omega)
theorem Lts.done {key : Int} {l : List Clm} {s T : List Int} (hn : (nmsM l).Nodup) (hs : Srt l.length (ltN l) s) (h : Lts l.length s (drawAll key l.length) l.length T) : T = lotL key l := by
 have t := ltN_tot hn
 refine List.ext_getElem (by rw [h.len, lotL_length]) fun i h1 h2 => ?_
 have hi : i < l.length := by rw [h.len] at h1; exact h1
 have hmem : (i : Int) ∈ idL l.length := idL_mem.2 (by omega)
 have hu := hs.uniq t hmem
 have hp := (List.getElem?_eq_some_iff.1 hu).1
 rw [hs.len] at hp
 have hg := h.got _ hp
 have e0 : s.getD (placeL l.length (ltN l) i) 0 = i := by rw [List.getD, hu]; rfl
 rw [e0, Int.toNat_natCast, List.getD, List.getElem?_eq_getElem h1] at hg
 refine Eq.trans hg ?_
 simp [lotL, idL]
section
variable {E : Oracle} (g : Good E)
include g
theorem CallS.indices {n : Nat} {cx : Cx} {slot : Nat} {m : Mem} {K : V → Mem → Prop} (hn : n ≤ 1000) (hf : Go.Evl.freeK cx.lv slot m = 0) (h : K (.ref ⟨cx.lv, slot, 0⟩ 0 n n) (m ++ [(⟨cx.lv, slot, 0⟩, .row true ty_int 1 n ((idL n).map DI))])) : CallS E n_priority_indices [I n] cx slot m K := by
 obtain ⟨v, m', h1, rfl, rfl⟩ := (in_indices g n hn).got
 refine ⟨_, _, (.ref ⟨cx.lv, slot, 0⟩ 0 n n, m ++ [(⟨cx.lv, slot, 0⟩, .row true ty_int 1 n ((idL n).map DI))]), h1, ?_, h⟩
 have := settle_row (cx := cx) (slot := slot) (lo := 0) (old := m) (o := ⟨0, 3, 0⟩) (off := 0) (l := n) (top := n) (m := [(⟨0, 2, 0⟩, .row true ty_int 1 0 []), (⟨0, 3, 0⟩, .row true ty_int 1 n ((idL n).map DI))]) (Nat.zero_le _) rfl
 rw [hf] at this
 exact this
theorem in_lots1 (l : List Clm) (x y : Int) (s : List Int) {K : V → Mem → Prop} (hx : x ∈ idL l.length) (hy : y ∈ idL l.length)
  (hK : ∀ c : Int, (c < 0 ↔ ltN l x y = true) → K (I c) [(⟨0, 3, 0⟩, .cells ty_Lpriority_Claim [LM l]), (⟨0, 4, 0⟩, .row true ty_int 1 0 []), (⟨0, 13, 0⟩, .row true ty_int 1 l.length (s.map DI))]) :
  In E 4 n_priority_lots_1 [I x, I y, .ptr ⟨0, 3, 0⟩ 0 0] [(⟨0, 3, 0⟩, .cells ty_Lpriority_Claim [LM l]), (⟨0, 4, 0⟩, .row true ty_int 1 0 []), (⟨0, 13, 0⟩, .row true ty_int 1 l.length (s.map DI))] K := by
 have h1 := idL_mem.1 hx
 have h2 := idL_mem.1 hy
 have hx' : x.toNat < l.length := by omega
 have hy' : y.toNat < l.length := by omega
 have hc := s_CmpS g l[x.toNat].rq.nm l[y.toNat].rq.nm
 have hk := hK (cmpS l[x.toNat].rq.nm l[y.toNat].rq.nm) (by unfold ltN; rw [nmAt_get hx', nmAt_get hy']; exact cmpS_lt _ _)
 refine In.enter g.lim rfl code_priority_lots_1 ?_
 repeat' ((conv => whnf); first
 | refine Ya ?_ | refine Yb ?_ | refine Yc ?_ | refine Yd ?_ | refine Ye ?_ | refine Yf ?_ | refine Yg ?_ | refine Yh ?_ | refine Yi rfl ?_ | refine Yj rfl ?_ | refine Yk rfl ?_ | refine Yl rfl ?_
  | (refine Pick.rec00 Clm.cells_length x.toNat (by omega) hx' rfl ?_)
  | (refine Pick.rec00 Clm.cells_length y.toNat (by omega) hy' rfl ?_)
  | (apply CallI.of; assumption)
  | (exact hk))
set_option maxHeartbeats 8000000 in
theorem s_lots (key : Int) (l : List Clm) (hk : 1 ≤ key ∧ key ≤ 2147483646) (hl : l.length ≤ 12) (hn : (nmsM l).Nodup) : Fc E n_priority_lots [I key, LM l] (LI (lotL key l)) := by
 refine g.fn code_priority_lots rfl ?_
 have t := ltN_tot hn
 have hd := s_Draw g key l.length hk (by omega)
 have hdl := drawAll_length key l.length
 have hsort := fun {K} => in_sortL g (K := K) t hl n_priority_lots_1 (.list l.length (l.flatMap Clm.cells)) (fun x y s K hx hy hK => in_lots1 g l x y s hx hy hK)
 repeat' ((conv => whnf); first
 | refine Ya ?_ | refine Yb ?_ | refine Yc ?_ | refine Yd ?_ | refine Ye ?_ | refine Yf ?_ | refine Yg ?_ | refine Yh ?_ | refine Yi rfl ?_ | refine Yj rfl ?_ | refine Yk rfl ?_ | refine Yl rfl ?_
  | (refine CallS.indices g (by omega) rfl ?_)
  | (refine hsort fun s hs => ?_)
  | (refine CallI.of hd ?_)
  | (refine Need.mk ⟨by omega, rfl, by omega, by omega⟩ ?_))
 have hsl := hs.len
 refine LoopW.to (LoopW.by g (fun u : Nat × List Int => u.1 ≤ l.length ∧ Lts l.length s (drawAll key l.length) u.1 u.2)
  (fun u => [(6, LI (drawAll key l.length)), (8, .ref ⟨0, 26, 0⟩ 0 l.length l.length), (27, .ref ⟨0, 13, 0⟩ 0 l.length l.length), (28, I l.length), (29, I u.1)])
  (fun u => [(⟨0, 3, 0⟩, .cells ty_Lpriority_Claim [LM l]), (⟨0, 4, 0⟩, .row true ty_int 1 0 []), (⟨0, 13, 0⟩, .row true ty_int 1 l.length (s.map DI)), (⟨0, 26, 0⟩, .row true ty_int 1 l.length (u.2.map DI))])
  (fun u => l.length - u.1) (fun u hu ih => ?_) (0, List.replicate l.length 0) ⟨Nat.zero_le _, by simp, fun j hj => absurd hj (Nat.not_lt_zero _)⟩) rfl ?_
 ·obtain ⟨k, T⟩ := u
  obtain ⟨hk1, hT⟩ := hu
  dsimp only at hk1 hT ih ⊢
  have hTl := hT.len
  by_cases hlt : k < l.length
  ·have ih := ih (k + 1, T.set (s.getD k 0).toNat ((drawAll key l.length).getD k 0)) ⟨hlt, hT.step t hs hlt⟩ (by simp only; omega)
   dsimp only at ih
   have hks : k < s.length := by omega
   have hkd : k < (drawAll key l.length).length := by omega
   have hm := idL_mem.1 (hs.mem hks)
   have e1 : s.getD k 0 = s[k] := by simp [List.getD, hks]
   have e2 : (drawAll key l.length).getD k 0 = (drawAll key l.length)[k] := by simp [List.getD, hkd]
   rw [e1, e2] at ih
   have hp := patch_set T s[k].toNat (drawAll key l.length)[k] (by omega)
   generalize drawAll key l.length = d at *
   repeat' ((conv => whnf); first
   | refine Ya ?_ | refine Yb ?_ | refine Yc ?_ | refine Yd ?_ | refine Ye ?_ | refine Yf ?_ | refine Yg ?_ | refine Yh ?_ | refine Yi rfl ?_ | refine Yj rfl ?_ | refine Yk rfl ?_ | refine Yl rfl ?_
    | (refine Pick.intI0 k rfl hks ?_)
    | (refine Pick.intI k rfl hkd ?_)
    | (refine LoopW.to ih rfl ?_))
   simp only [Nat.zero_add, Nat.mul_one]
   rw [hp]
  ·obtain rfl : k = l.length := by omega
   have he := hT.done hn hs
   subst he
   have hll := lotL_length key l
   repeat' ((conv => whnf); first
   | refine Ya ?_ | refine Yb ?_ | refine Yc ?_ | refine Yd ?_ | refine Ye ?_ | refine Yf ?_ | refine Yg ?_ | refine Yh ?_ | refine Yi rfl ?_ | refine Yj rfl ?_ | refine Yk rfl ?_ | refine Yl rfl ?_
    | (refine Ret.mk ?_))
   rw [if_pos ⟨rfl, rfl⟩]
   show V.d (.list l.length _) = V.d (.list (lotL key l).length _)
   rw [hll]
 ·simp
end
end Go.Proofs.YtlnlcdnpgjhaaaaGreatDoor.Co
/-
 Places given in turns to newcomers and others: the plain law.
-/
namespace Go.Proofs.YtlnlcdnpgjhaaaaGreatDoor.Co
def pickQ : Bool → List Int → List Int → Option (Int × List Int × List Int)
 | true, a :: A, C => some (a, A, C)
 | true, [], c :: C => some (c, [], C)
 | false, A, c :: C => some (c, A, C)
 | false, a :: A, [] => some (a, A, [])
 | _, [], [] => none
def shrG (m fo : Int) : Nat → Nat → List Int → List Int → List Int
 | 0, _, _, _ => []
 | n + 1, i, A, C => match pickQ (decide ((i : Int) % m < fo)) A C with
  | some (x, A', C') => x :: shrG m fo n (i + 1) A' C'
  | none => []
def selG (v : Bool) : Nat → List Bool → List Int
 | _, [] => []
 | k, b :: r => if b = v then (k : Int) :: selG v (k + 1) r else selG v (k + 1) r
def shrL (m fo : Int) (l : List Bool) : List Int := shrG m fo l.length 0 (selG true 0 l) (selG false 0 l)
theorem selG_append (v b : Bool) : ∀ (k : Nat) (l : List Bool), selG v k (l ++ [b]) = selG v k l ++ (if b = v then [((k + l.length : Nat) : Int)] else [])
 | k, [] => by simp [selG]
 | k, x :: r => by
  simp only [List.cons_append, selG]
  rw [selG_append v b (k + 1) r, List.length_cons, show k + 1 + r.length = k + (r.length + 1) by omega]
  split <;> rfl
theorem selG_take (v : Bool) {l : List Bool} {k : Nat} (h : k < l.length) : selG v 0 (l.take (k + 1)) = selG v 0 (l.take k) ++ (if l[k] = v then [(k : Int)] else []) := by
 rw [List.take_add_one, List.getElem?_eq_getElem h]
 show selG v 0 (l.take k ++ [l[k]]) = _
 rw [selG_append, List.length_take, Nat.min_eq_left (by omega), Nat.zero_add]
theorem selG_length : ∀ (k : Nat) (l : List Bool), (selG true k l).length + (selG false k l).length = l.length
 | _, [] => rfl
 | k, b :: r => by
  have := selG_length (k + 1) r
  cases b <;> simp only [selG, reduceIte, reduceCtorEq, List.length_cons] <;> omega
theorem selG_le (v : Bool) (k : Nat) (l : List Bool) : (selG v k l).length ≤ l.length := by
 have := selG_length k l
 cases v <;> omega
theorem pickQ_len {w : Bool} {A C A' C' : List Int} {x : Int} (h : pickQ w A C = some (x, A', C')) : A'.length + C'.length + 1 = A.length + C.length := by
 cases w <;> cases A <;> cases C <;> simp [pickQ] at h <;> obtain ⟨rfl, rfl, rfl⟩ := h <;> simp <;> omega
theorem pickQ_some {w : Bool} {A C : List Int} (h : 0 < A.length + C.length) : ∃ x A' C', pickQ w A C = some (x, A', C') := by
 cases w <;> cases A <;> cases C <;> simp [pickQ] at h ⊢
end Go.Proofs.YtlnlcdnpgjhaaaaGreatDoor.Co
/-
 Places given in turns: what holds of the order, in plain Lean.
-/
namespace Go.Proofs.YtlnlcdnpgjhaaaaGreatDoor.Co
open Go Go.Evl
theorem pickQ_cases {w : Bool} {A C A' C' : List Int} {x : Int} (h : pickQ w A C = some (x, A', C')) : (A = x :: A' ∧ C' = C ∧ (w = true ∨ C = [])) ∨ (C = x :: C' ∧ A' = A ∧ (w = false ∨ A = [])) := by
 cases w <;> cases A <;> cases C <;> simp [pickQ] at h <;> obtain ⟨rfl, rfl, rfl⟩ := h <;> simp
theorem shrG_perm (m fo : Int) : ∀ (n i : Nat) (A C : List Int), A.length + C.length = n → (shrG m fo n i A C).Perm (A ++ C)
 | 0, i, A, C, h => by
  have h1 : A = [] := List.length_eq_zero_iff.1 (by omega)
  have h2 : C = [] := List.length_eq_zero_iff.1 (by omega)
  subst h1
  subst h2
  exact .refl _
 | n + 1, i, A, C, h => by
  obtain ⟨x, A', C', hp⟩ := pickQ_some (w := decide ((i : Int) % m < fo)) (A := A) (C := C) (by omega)
  have hl := pickQ_len hp
  have ih := shrG_perm m fo n (i + 1) A' C' (by omega)
  rw [shrG, hp]
  rcases pickQ_cases hp with ⟨rfl, rfl, _⟩ | ⟨rfl, rfl, _⟩
  ·exact ih.cons x
  ·exact (ih.cons x).trans List.perm_middle.symm
theorem shrG_length (m fo : Int) {n i : Nat} {A C : List Int} (h : A.length + C.length = n) : (shrG m fo n i A C).length = n := by
 rw [(shrG_perm m fo n i A C h).length_eq, List.length_append, h]
theorem selG_mem {v : Bool} {x : Int} : ∀ {k : Nat} {l : List Bool}, x ∈ selG v k l → ∃ i : Nat, x = ((k + i : Nat) : Int) ∧ l[i]? = some v
 | k, [], h => by simp [selG] at h
 | k, b :: r, h => by
  have tl : x ∈ selG v (k + 1) r → ∃ i : Nat, x = ((k + i : Nat) : Int) ∧ (b :: r)[i]? = some v := by
   intro h
   obtain ⟨i, rfl, h1⟩ := selG_mem h
   exact ⟨i + 1, by omega, by simpa using h1⟩
  simp only [selG] at h
  split at h
  ·rename_i hc
   subst hc
   rcases List.mem_cons.1 h with rfl | h
   ·exact ⟨0, by simp, rfl⟩
   ·exact tl h
  ·exact tl h
theorem selG_up (v : Bool) : ∀ (k : Nat) (l : List Bool), (selG v k l).Pairwise (· < ·)
 | _, [] => .nil
 | k, b :: r => by
  have ih := selG_up v (k + 1) r
  simp only [selG]
  split
  ·refine .cons (fun x hx => ?_) ih
   obtain ⟨i, rfl, _⟩ := selG_mem hx
   omega
  ·exact ih
theorem shrL_length (m fo : Int) (l : List Bool) : (shrL m fo l).length = l.length := shrG_length m fo (selG_length 0 l)
theorem shrL_ord (m fo : Int) (l : List Bool) : Ord l.length (shrL m fo l) := by
 have hp : (shrL m fo l).Perm (selG true 0 l ++ selG false 0 l) := shrG_perm m fo _ _ _ _ (selG_length 0 l)
 have hl := shrL_length m fo l
 have hn : (shrL m fo l).Nodup := by
  rw [hp.nodup_iff, List.nodup_append]
  refine ⟨(selG_up true 0 l).imp fun h => by omega, (selG_up false 0 l).imp fun h => by omega, fun a ha b hb hab => ?_⟩
  obtain ⟨i, h1, h2⟩ := selG_mem ha
  obtain ⟨j, h3, h4⟩ := selG_mem hb
  have : i = j := by omega
  subst this
  rw [h2] at h4
  cases h4
 have hg : ∀ k, k < l.length → (shrL m fo l).getD k 0 ∈ shrL m fo l := fun k hk => by
  have hk' : k < (shrL m fo l).length := by omega
  simp [List.getD, hk']
 refine ⟨hl, fun k hk => ?_, fun i j hi hj e => ?_⟩
 ·have hm := hp.mem_iff.1 (hg k hk)
  rcases List.mem_append.1 hm with h | h
  ·obtain ⟨i, h1, h2⟩ := selG_mem h
   have := (List.getElem?_eq_some_iff.1 h2).1
   omega
  ·obtain ⟨i, h1, h2⟩ := selG_mem h
   have := (List.getElem?_eq_some_iff.1 h2).1
   omega
 ·have hi' : i < (shrL m fo l).length := by omega
  have hj' : j < (shrL m fo l).length := by omega
  simp only [List.getD, List.getElem?_eq_getElem hi', List.getElem?_eq_getElem hj', Option.getD_some] at e
  have hw := List.pairwise_iff_getElem.1 hn
  rcases Nat.lt_trichotomy i j with h | h | h
  ·exact absurd e (hw i j hi' hj' h)
  ·exact h
  ·exact absurd e.symm (hw j i hj' hi' h)
structure Quo (l : List Bool) (tot : Nat) (i : Nat) (A C : List Int) (got due la lc : Int) : Prop where
 hg : got + A.length = tot
 hc : (i : Int) - got + C.length + tot = l.length
 lo : got ≥ tot ∨ got ≥ due
 hi : got ≤ due ∨ got ≤ i + tot - l.length
 ua : A.Pairwise (· < ·)
 uc : C.Pairwise (· < ·)
 fa : ∀ x ∈ A, la ≤ x
 fc : ∀ x ∈ C, lc ≤ x
 na : ∀ x ∈ A, ∃ k : Nat, x = k ∧ l[k]? = some true
 nc : ∀ x ∈ C, ∃ k : Nat, x = k ∧ l[k]? = some false
 du : 0 ≤ due ∧ due ≤ i
 tl : tot ≤ l.length
theorem Quo.zero (l : List Bool) : Quo l (selG true 0 l).length 0 (selG true 0 l) (selG false 0 l) 0 0 (-1) (-1) := by
 have h := selG_length 0 l
 refine ⟨by omega, by omega, .inr (by omega), .inl (by omega), selG_up _ _ _, selG_up _ _ _, fun x hx => ?_, fun x hx => ?_, fun x hx => ?_, fun x hx => ?_, by omega, by omega⟩
 all_goals obtain ⟨i, h1, h2⟩ := selG_mem hx
 ·omega
 ·omega
 ·exact ⟨i, by omega, h2⟩
 ·exact ⟨i, by omega, h2⟩
theorem Quo.old {l : List Bool} {tot i : Nat} {C : List Int} {x : Int} {A : List Int} {got due la lc : Int} {w : Bool} (h : Quo l tot i A (x :: C) got due la lc) (hw : w = false ∨ A = []) : Quo l tot (i + 1) A C got (due + if w then 1 else 0) la x := by
 obtain ⟨hg, hc, lo, hi, ua, uc, fa, fc, na, nc, du, tl⟩ := h
 rw [List.length_cons] at hc
 have h1 := List.pairwise_cons.1 uc
 refine ⟨by omega, by omega, ?_, ?_, ua, h1.2, fa, fun y hy => by have := h1.1 y hy; omega, na, fun y hy => nc y (List.mem_cons_of_mem _ hy), by split <;> omega, tl⟩
 ·rcases hw with rfl | rfl
  ·rcases lo with lo | lo
   ·exact .inl (by omega)
   ·exact .inr (by simp; omega)
  ·rw [List.length_nil] at hg
   exact .inl (by omega)
 ·rcases hi with hi | hi
  ·exact .inl (by split <;> omega)
  ·exact .inr (by omega)
end Go.Proofs.YtlnlcdnpgjhaaaaGreatDoor.Co
/-
 Priority: the order of a list by a share; by the program and by the reference.
-/
namespace Go.Proofs.YtlnlcdnpgjhaaaaGreatDoor.Co
open Go Go.Evl
set_option maxRecDepth 100000
abbrev LB (l : List Bool) : V := .d (.list l.length (l.map D.bool))
theorem Pick.boolI {l : List Bool} {i : Int} {K : D → Prop} (k : Nat) (hi : i = k) (h : k < l.length) (hk : K (.bool l[k])) : Pick (l.map D.bool) (i.toNat * 1) K := by
 subst hi
 refine ⟨⟨_, ?_, hk⟩⟩
 simp [h]
def leftV (t : Bool) (o : Evl.Id) (A0 A : List Int) : V := if t = true then LI A else .ref o 0 A0.length A0.length
theorem take_map (l : List Int) : List.take l.length (l.map DI) = l.map DI := List.take_of_length_le (by simp)
structure ShS where
 i : Nat
 (A C : List Int)
 (ta tc : Bool)
 out : List Int
section
variable {E : Oracle} (g : Good E)
include g
set_option maxHeartbeats 32000000 in
theorem s_interleaved (m fo : Int) (l : List Bool) (hm : 1 ≤ m ∧ m ≤ 100) (hl : l.length ≤ 64) : Fc E n_priority_interleaved [I m, I fo, LB l] (LI (shrL m fo l)) := by
 refine g.fn code_priority_interleaved rfl ?_
 have b0 : Fc E n_priority_bit [B false] (I 0) := s_pbit g false
 have b1 : Fc E n_priority_bit [B true] (I 1) := s_pbit g true
 have hAC := selG_length 0 l
 unfold shrL
 repeat' ((conv => whnf); first
 | refine Ya ?_ | refine Yb ?_ | refine Yc ?_ | refine Yd ?_ | refine Ye ?_ | refine Yf ?_ | refine Yg ?_ | refine Yh ?_ | refine Yi rfl ?_ | refine Yj rfl ?_ | refine Yk rfl ?_ | refine Yl rfl ?_)
 refine LoopW.to (LoopW.up g (fun k => [(0, I m), (1, I fo), (2, LB l), (7, .ptr ⟨0, 7, 2⟩ 0 0), (13, LB l), (14, I l.length), (15, I k)])
  (fun k => [(⟨0, 6, 0⟩, .row false ty_int 1 0 []), (⟨0, 7, 0⟩, .row false ty_int 1 (selG true 0 (l.take k)).length ((selG true 0 (l.take k)).map DI)), (⟨0, 7, 1⟩, .row false ty_int 1 (selG false 0 (l.take k)).length ((selG false 0 (l.take k)).map DI)), (⟨0, 7, 2⟩, .cells ty_2_Lint [.ref ⟨0, 7, 0⟩ 0 (selG true 0 (l.take k)).length (selG true 0 (l.take k)).length, .ref ⟨0, 7, 1⟩ 0 (selG false 0 (l.take k)).length (selG false 0 (l.take k)).length])])
  l.length (fun k hk ih => ?_) 0 (Nat.zero_le _)) rfl rfl
 have l1 := selG_le true 0 (l.take k)
 have l2 := selG_le false 0 (l.take k)
 have l3 : (l.take k).length = k := by simp; omega
 by_cases hlt : k < l.length
 ·have ih := ih hlt
  rw [selG_take true hlt, selG_take false hlt] at ih
  generalize hx : l[k] = x at *
  generalize selG true 0 (l.take k) = A at *
  generalize selG false 0 (l.take k) = C at *
  cases x
  ·simp only [reduceCtorEq, if_false, if_true, List.append_nil, List.length_append, List.length_cons, List.length_nil, List.map_append, List.map_cons, List.map_nil] at ih
   repeat' ((conv => whnf); first
   | refine Ya ?_ | refine Yb ?_ | refine Yc ?_ | refine Yd ?_ | refine Ye ?_ | refine Yf ?_ | refine Yg ?_ | refine Yh ?_ | refine Yi rfl ?_ | refine Yj rfl ?_ | refine Yk rfl ?_ | refine Yl rfl ?_
    | (refine Pick.boolI k rfl hlt ?_; rw [hx])
    | (apply CallI.of; assumption)
    | (refine Need.mk (by simp only [List.length_cons, List.length_nil, List.length_map]; omega) ?_)
    | (refine LoopW.to ih rfl rfl))
  ·simp only [reduceCtorEq, if_false, if_true, List.append_nil, List.length_append, List.length_cons, List.length_nil, List.map_append, List.map_cons, List.map_nil] at ih
   repeat' ((conv => whnf); first
   | refine Ya ?_ | refine Yb ?_ | refine Yc ?_ | refine Yd ?_ | refine Ye ?_ | refine Yf ?_ | refine Yg ?_ | refine Yh ?_ | refine Yi rfl ?_ | refine Yj rfl ?_ | refine Yk rfl ?_ | refine Yl rfl ?_
    | (refine Pick.boolI k rfl hlt ?_; rw [hx])
    | (apply CallI.of; assumption)
    | (refine Need.mk (by simp only [List.length_cons, List.length_nil, List.length_map]; omega) ?_)
    | (refine LoopW.to ih rfl rfl))
 ·have hk' : k = l.length := by omega
  subst hk'
  rw [List.take_length] at *
  generalize hA0 : selG true 0 l = A0 at *
  generalize hC0 : selG false 0 l = C0 at *
  generalize hR : shrG m fo l.length 0 A0 C0 = R
  repeat' ((conv => whnf); first
  | refine Ya ?_ | refine Yb ?_ | refine Yc ?_ | refine Yd ?_ | refine Ye ?_ | refine Yf ?_ | refine Yg ?_ | refine Yh ?_ | refine Yi rfl ?_ | refine Yj rfl ?_ | refine Yk rfl ?_ | refine Yl rfl ?_)
  refine LoopW.to (LoopW.by g (fun s : ShS => s.out ++ shrG m fo (l.length - s.i) s.i s.A s.C = R ∧ s.A.length + s.C.length + s.i = l.length ∧ s.out.length = s.i ∧ (s.ta = false → s.A = A0) ∧ (s.tc = false → s.C = C0))
   (fun s => [(0, I m), (1, I fo), (7, .ptr ⟨0, 7, 2⟩ 0 0), (10, .ref ⟨0, 10, 0⟩ 0 s.out.length s.out.length), (34, I l.length), (35, I s.i)])
   (fun s => [(⟨0, 6, 0⟩, .row false ty_int 1 0 []), (⟨0, 7, 0⟩, .row false ty_int 1 A0.length (A0.map DI)), (⟨0, 7, 1⟩, .row false ty_int 1 C0.length (C0.map DI)), (⟨0, 7, 2⟩, .cells ty_2_Lint [leftV s.ta ⟨0, 7, 0⟩ A0 s.A, leftV s.tc ⟨0, 7, 1⟩ C0 s.C]), (⟨0, 10, 0⟩, .row false ty_int 1 s.out.length (s.out.map DI))])
   (fun s => l.length - s.i) (fun s hs ih => ?_) ⟨0, A0, C0, false, false, []⟩ ⟨by simpa using hR, by simpa using hAC, rfl, fun _ => rfl, fun _ => rfl⟩) rfl rfl
  obtain ⟨i, A, C, ta, tc, out⟩ := s
  obtain ⟨h1, h2, h3, h4, h5⟩ := hs
  dsimp only at h1 h2 h3 h4 h5 ih ⊢
  by_cases hlt : i < l.length
  ·obtain ⟨x, A', C', hp⟩ := pickQ_some (w := decide ((i : Int) % m < fo)) (A := A) (C := C) (by omega)
   have hn : l.length - i = (l.length - (i + 1)) + 1 := by omega
   rw [hn, shrG, hp] at h1
   have hq := pickQ_len hp
   have ihn := ih ⟨i + 1, A', C', true, tc, out ++ [x]⟩
   have iho := ih ⟨i + 1, A', C', ta, true, out ++ [x]⟩
   dsimp only at ihn iho
   have hw := Int.emod_nonneg (i : Int) (show m ≠ 0 by omega)
   rcases pickQ_cases hp with ⟨rfl, rfl, hc⟩ | ⟨rfl, rfl, hc⟩
   ·have ihn := ihn ⟨by simpa using h1, by omega, by simp [h3], by simp, h5⟩ (by omega)
    simp only [List.length_append, List.length_cons, List.length_nil, List.map_append, List.map_cons, List.map_nil] at ihn
    cases ta
    ·have h4 := h4 rfl
     subst h4
     cases hwd : decide ((i : Int) % m < fo)
     ·have hwf := of_decide_eq_false hwd
      rw [hwd] at hc
      have hc : C' = [] := by simpa using hc
      subst hc
      cases tc
      ·have h5 := h5 rfl
       subst h5
       repeat' ((conv => whnf); first
       | refine Ya ?_ | refine Yb ?_ | refine Yc ?_ | refine Yd ?_ | refine Ye ?_ | refine Yf ?_ | refine Yg ?_ | refine Yh ?_ | refine Yi rfl ?_ | refine Yj rfl ?_ | refine Yk rfl ?_ | refine Yl rfl ?_
        | (apply CallI.of; assumption)
        | (refine Need.mk (by simp only [List.length_cons, List.length_nil, List.length_map]; omega) ?_)
        | (refine Bounds.at 1 (A'.length + 1) rfl rfl ⟨by omega, by simp⟩ ?_)
        | (refine LoopW.to ihn rfl ?_))
       simp [leftV, win, take_map]
      ·repeat' ((conv => whnf); first
      | refine Ya ?_ | refine Yb ?_ | refine Yc ?_ | refine Yd ?_ | refine Ye ?_ | refine Yf ?_ | refine Yg ?_ | refine Yh ?_ | refine Yi rfl ?_ | refine Yj rfl ?_ | refine Yk rfl ?_ | refine Yl rfl ?_
        | (apply CallI.of; assumption)
        | (refine Need.mk (by simp only [List.length_cons, List.length_nil, List.length_map]; omega) ?_)
        | (refine Bounds.at 1 (A'.length + 1) rfl rfl ⟨by omega, by simp⟩ ?_)
        | (refine LoopW.to ihn rfl ?_))
       simp [leftV, win, take_map]
     ·have hwf := of_decide_eq_true hwd
      cases tc
      ·have h5 := h5 rfl
       subst h5
       repeat' ((conv => whnf); first
       | refine Ya ?_ | refine Yb ?_ | refine Yc ?_ | refine Yd ?_ | refine Ye ?_ | refine Yf ?_ | refine Yg ?_ | refine Yh ?_ | refine Yi rfl ?_ | refine Yj rfl ?_ | refine Yk rfl ?_ | refine Yl rfl ?_
        | (apply CallI.of; assumption)
        | (refine Need.mk (by simp only [List.length_cons, List.length_nil, List.length_map]; omega) ?_)
        | (refine Bounds.at 1 (A'.length + 1) rfl rfl ⟨by omega, by simp⟩ ?_)
        | (refine LoopW.to ihn rfl ?_))
       simp [leftV, win, take_map]
      ·repeat' ((conv => whnf); first
      | refine Ya ?_ | refine Yb ?_ | refine Yc ?_ | refine Yd ?_ | refine Ye ?_ | refine Yf ?_ | refine Yg ?_ | refine Yh ?_ | refine Yi rfl ?_ | refine Yj rfl ?_ | refine Yk rfl ?_ | refine Yl rfl ?_
        | (apply CallI.of; assumption)
        | (refine Need.mk (by simp only [List.length_cons, List.length_nil, List.length_map]; omega) ?_)
        | (refine Bounds.at 1 (A'.length + 1) rfl rfl ⟨by omega, by simp⟩ ?_)
        | (refine LoopW.to ihn rfl ?_))
       simp [leftV, win, take_map]
    ·cases hwd : decide ((i : Int) % m < fo)
     ·have hwf := of_decide_eq_false hwd
      rw [hwd] at hc
      have hc : C' = [] := by simpa using hc
      subst hc
      cases tc
      ·have h5 := h5 rfl
       subst h5
       repeat' ((conv => whnf); first
       | refine Ya ?_ | refine Yb ?_ | refine Yc ?_ | refine Yd ?_ | refine Ye ?_ | refine Yf ?_ | refine Yg ?_ | refine Yh ?_ | refine Yi rfl ?_ | refine Yj rfl ?_ | refine Yk rfl ?_ | refine Yl rfl ?_
        | (apply CallI.of; assumption)
        | (refine Need.mk (by simp only [List.length_cons, List.length_nil, List.length_map]; omega) ?_)
        | (refine Bounds.at 1 (A'.length + 1) rfl rfl ⟨by omega, by simp⟩ ?_)
        | (refine LoopW.to ihn rfl ?_))
       simp [leftV, win, take_map]
      ·repeat' ((conv => whnf); first
      | refine Ya ?_ | refine Yb ?_ | refine Yc ?_ | refine Yd ?_ | refine Ye ?_ | refine Yf ?_ | refine Yg ?_ | refine Yh ?_ | refine Yi rfl ?_ | refine Yj rfl ?_ | refine Yk rfl ?_ | refine Yl rfl ?_
        | (apply CallI.of; assumption)
        | (refine Need.mk (by simp only [List.length_cons, List.length_nil, List.length_map]; omega) ?_)
        | (refine Bounds.at 1 (A'.length + 1) rfl rfl ⟨by omega, by simp⟩ ?_)
        | (refine LoopW.to ihn rfl ?_))
       simp [leftV, win, take_map]
     ·have hwf := of_decide_eq_true hwd
      cases tc
      ·have h5 := h5 rfl
       subst h5
       repeat' ((conv => whnf); first
       | refine Ya ?_ | refine Yb ?_ | refine Yc ?_ | refine Yd ?_ | refine Ye ?_ | refine Yf ?_ | refine Yg ?_ | refine Yh ?_ | refine Yi rfl ?_ | refine Yj rfl ?_ | refine Yk rfl ?_ | refine Yl rfl ?_
        | (apply CallI.of; assumption)
        | (refine Need.mk (by simp only [List.length_cons, List.length_nil, List.length_map]; omega) ?_)
        | (refine Bounds.at 1 (A'.length + 1) rfl rfl ⟨by omega, by simp⟩ ?_)
        | (refine LoopW.to ihn rfl ?_))
       simp [leftV, win, take_map]
      ·repeat' ((conv => whnf); first
      | refine Ya ?_ | refine Yb ?_ | refine Yc ?_ | refine Yd ?_ | refine Ye ?_ | refine Yf ?_ | refine Yg ?_ | refine Yh ?_ | refine Yi rfl ?_ | refine Yj rfl ?_ | refine Yk rfl ?_ | refine Yl rfl ?_
        | (apply CallI.of; assumption)
        | (refine Need.mk (by simp only [List.length_cons, List.length_nil, List.length_map]; omega) ?_)
        | (refine Bounds.at 1 (A'.length + 1) rfl rfl ⟨by omega, by simp⟩ ?_)
        | (refine LoopW.to ihn rfl ?_))
       simp [leftV, win, take_map]
   ·have iho := iho ⟨by simpa using h1, by omega, by simp [h3], h4, by simp⟩ (by omega)
    simp only [List.length_append, List.length_cons, List.length_nil, List.map_append, List.map_cons, List.map_nil] at iho
    cases tc
    ·have h5 := h5 rfl
     subst h5
     cases hwd : decide ((i : Int) % m < fo)
     ·have hwf := of_decide_eq_false hwd
      cases ta
      ·have h4 := h4 rfl
       subst h4
       repeat' ((conv => whnf); first
       | refine Ya ?_ | refine Yb ?_ | refine Yc ?_ | refine Yd ?_ | refine Ye ?_ | refine Yf ?_ | refine Yg ?_ | refine Yh ?_ | refine Yi rfl ?_ | refine Yj rfl ?_ | refine Yk rfl ?_ | refine Yl rfl ?_
        | (apply CallI.of; assumption)
        | (refine Need.mk (by simp only [List.length_cons, List.length_nil, List.length_map]; omega) ?_)
        | (refine Bounds.at 1 (C'.length + 1) rfl rfl ⟨by omega, by simp⟩ ?_)
        | (refine LoopW.to iho rfl ?_))
       simp [leftV, win, take_map]
      ·repeat' ((conv => whnf); first
      | refine Ya ?_ | refine Yb ?_ | refine Yc ?_ | refine Yd ?_ | refine Ye ?_ | refine Yf ?_ | refine Yg ?_ | refine Yh ?_ | refine Yi rfl ?_ | refine Yj rfl ?_ | refine Yk rfl ?_ | refine Yl rfl ?_
        | (apply CallI.of; assumption)
        | (refine Need.mk (by simp only [List.length_cons, List.length_nil, List.length_map]; omega) ?_)
        | (refine Bounds.at 1 (C'.length + 1) rfl rfl ⟨by omega, by simp⟩ ?_)
        | (refine LoopW.to iho rfl ?_))
       simp [leftV, win, take_map]
     ·have hwf := of_decide_eq_true hwd
      rw [hwd] at hc
      have hc : A' = [] := by simpa using hc
      subst hc
      cases ta
      ·have h4 := h4 rfl
       subst h4
       repeat' ((conv => whnf); first
       | refine Ya ?_ | refine Yb ?_ | refine Yc ?_ | refine Yd ?_ | refine Ye ?_ | refine Yf ?_ | refine Yg ?_ | refine Yh ?_ | refine Yi rfl ?_ | refine Yj rfl ?_ | refine Yk rfl ?_ | refine Yl rfl ?_
        | (apply CallI.of; assumption)
        | (refine Need.mk (by simp only [List.length_cons, List.length_nil, List.length_map]; omega) ?_)
        | (refine Bounds.at 1 (C'.length + 1) rfl rfl ⟨by omega, by simp⟩ ?_)
        | (refine LoopW.to iho rfl ?_))
       simp [leftV, win, take_map]
      ·repeat' ((conv => whnf); first
      | refine Ya ?_ | refine Yb ?_ | refine Yc ?_ | refine Yd ?_ | refine Ye ?_ | refine Yf ?_ | refine Yg ?_ | refine Yh ?_ | refine Yi rfl ?_ | refine Yj rfl ?_ | refine Yk rfl ?_ | refine Yl rfl ?_
        | (apply CallI.of; assumption)
        | (refine Need.mk (by simp only [List.length_cons, List.length_nil, List.length_map]; omega) ?_)
        | (refine Bounds.at 1 (C'.length + 1) rfl rfl ⟨by omega, by simp⟩ ?_)
        | (refine LoopW.to iho rfl ?_))
       simp [leftV, win, take_map]
    ·cases hwd : decide ((i : Int) % m < fo)
     ·have hwf := of_decide_eq_false hwd
      cases ta
      ·have h4 := h4 rfl
       subst h4
       repeat' ((conv => whnf); first
       | refine Ya ?_ | refine Yb ?_ | refine Yc ?_ | refine Yd ?_ | refine Ye ?_ | refine Yf ?_ | refine Yg ?_ | refine Yh ?_ | refine Yi rfl ?_ | refine Yj rfl ?_ | refine Yk rfl ?_ | refine Yl rfl ?_
        | (apply CallI.of; assumption)
        | (refine Need.mk (by simp only [List.length_cons, List.length_nil, List.length_map]; omega) ?_)
        | (refine Bounds.at 1 (C'.length + 1) rfl rfl ⟨by omega, by simp⟩ ?_)
        | (refine LoopW.to iho rfl ?_))
       simp [leftV, win, take_map]
      ·repeat' ((conv => whnf); first
      | refine Ya ?_ | refine Yb ?_ | refine Yc ?_ | refine Yd ?_ | refine Ye ?_ | refine Yf ?_ | refine Yg ?_ | refine Yh ?_ | refine Yi rfl ?_ | refine Yj rfl ?_ | refine Yk rfl ?_ | refine Yl rfl ?_
        | (apply CallI.of; assumption)
        | (refine Need.mk (by simp only [List.length_cons, List.length_nil, List.length_map]; omega) ?_)
        | (refine Bounds.at 1 (C'.length + 1) rfl rfl ⟨by omega, by simp⟩ ?_)
        | (refine LoopW.to iho rfl ?_))
       simp [leftV, win, take_map]
     ·have hwf := of_decide_eq_true hwd
      rw [hwd] at hc
      have hc : A' = [] := by simpa using hc
      subst hc
      cases ta
      ·have h4 := h4 rfl
       subst h4
       repeat' ((conv => whnf); first
       | refine Ya ?_ | refine Yb ?_ | refine Yc ?_ | refine Yd ?_ | refine Ye ?_ | refine Yf ?_ | refine Yg ?_ | refine Yh ?_ | refine Yi rfl ?_ | refine Yj rfl ?_ | refine Yk rfl ?_ | refine Yl rfl ?_
        | (apply CallI.of; assumption)
        | (refine Need.mk (by simp only [List.length_cons, List.length_nil, List.length_map]; omega) ?_)
        | (refine Bounds.at 1 (C'.length + 1) rfl rfl ⟨by omega, by simp⟩ ?_)
        | (refine LoopW.to iho rfl ?_))
       simp [leftV, win, take_map]
      ·repeat' ((conv => whnf); first
      | refine Ya ?_ | refine Yb ?_ | refine Yc ?_ | refine Yd ?_ | refine Ye ?_ | refine Yf ?_ | refine Yg ?_ | refine Yh ?_ | refine Yi rfl ?_ | refine Yj rfl ?_ | refine Yk rfl ?_ | refine Yl rfl ?_
        | (apply CallI.of; assumption)
        | (refine Need.mk (by simp only [List.length_cons, List.length_nil, List.length_map]; omega) ?_)
        | (refine Bounds.at 1 (C'.length + 1) rfl rfl ⟨by omega, by simp⟩ ?_)
        | (refine LoopW.to iho rfl ?_))
       simp [leftV, win, take_map]
  ·have e : l.length - i = 0 := by omega
   rw [e, shrG, List.append_nil] at h1
   subst h1
   repeat' ((conv => whnf); first
   | refine Ya ?_ | refine Yb ?_ | refine Yc ?_ | refine Yd ?_ | refine Ye ?_ | refine Yf ?_ | refine Yg ?_ | refine Yh ?_ | refine Yi rfl ?_ | refine Yj rfl ?_ | refine Yk rfl ?_ | refine Yl rfl ?_
    | (refine Ret.mk ?_))
   rw [if_pos ⟨rfl, rfl⟩]
end
end Go.Proofs.YtlnlcdnpgjhaaaaGreatDoor.Co
/-
 Priority: CheckProgram, by the reference.
-/
namespace Go.Proofs.YtlnlcdnpgjhaaaaGreatDoor.Co
open Go Go.Evl
set_option maxRecDepth 100000
theorem key_in {l : List Kyt} {k j : Nat} (h : k < l.length) (hj : j < k) (e : (l[j]'(Nat.lt_trans hj h)).fa = l[k].fa) : l[k].fa ∈ nmsK (l.take k) := by
 unfold nmsK
 rw [List.mem_map]
 refine ⟨l[j]'(Nat.lt_trans hj h), ?_, e⟩
 rw [List.mem_take_iff_getElem]
 exact ⟨j, by omega, rfl⟩
theorem key_out {l : List Kyt} {k : Nat} (h : k < l.length) (hn : ∀ (i : Nat) (hi : i < k), (l[i]'(Nat.lt_trans hi h)).fa ≠ l[k].fa) : l[k].fa ∉ nmsK (l.take k) := by
 intro hm
 unfold nmsK at hm
 rw [List.mem_map] at hm
 obtain ⟨x, hx, e⟩ := hm
 rw [List.mem_take_iff_getElem] at hx
 obtain ⟨i, hi, rfl⟩ := hx
 exact hn i (by omega) e
theorem cls_in {l : List Cls} {s : List UInt8} {j : Nat} (h : j < l.length) (e : l[j].nm = s) : s ∈ nmsC l := by
 unfold nmsC
 rw [List.mem_map]
 exact ⟨_, List.getElem_mem h, e⟩
theorem cls_out {l : List Cls} {s : List UInt8} (hn : ∀ (i : Nat) (h : i < l.length), l[i].nm ≠ s) : s ∉ nmsC l := by
 intro hm
 unfold nmsC at hm
 rw [List.mem_map] at hm
 obtain ⟨x, hx, e⟩ := hm
 obtain ⟨i, hi, rfl⟩ := List.getElem_of_mem hx
 exact hn i hi e
section
variable {E : Oracle} (g : Good E)
include g
set_option maxHeartbeats 8000000 in
theorem r_CheckClass (c : Cls) (hs : SmallC c) : Fc E n_ref05_CheckClass [Csv c] (I (chkCs c)) := by
 refine g.fn code_ref05_CheckClass rfl ?_
 have h1 := r_IsName g c.nm
 have h2 := r_Facts g
 obtain ⟨l1, l2⟩ := hs
 unfold chkCs nmE
 generalize isNameB c.nm = b at *
 cases b
 ·repeat' ((conv => whnf); first
 | refine Ya ?_ | refine Yb ?_ | refine Yc ?_ | refine Yd ?_ | refine Ye ?_ | refine Yf ?_ | refine Yg ?_ | refine Yh ?_ | refine Yi rfl ?_ | refine Yj rfl ?_ | refine Yk rfl ?_ | refine Yl rfl ?_
   | (apply CallI.of; assumption)
   | (refine Ret.mk rfl))
 ·by_cases n1 : 8 < c.wh.length
  ·rw [if_pos n1]
   repeat' ((conv => whnf); first
   | refine Ya ?_ | refine Yb ?_ | refine Yc ?_ | refine Yd ?_ | refine Ye ?_ | refine Yf ?_ | refine Yg ?_ | refine Yh ?_ | refine Yi rfl ?_ | refine Yj rfl ?_ | refine Yk rfl ?_ | refine Yl rfl ?_
    | (apply CallI.of; assumption)
    | (refine Ret.mk rfl))
  ·rw [if_neg n1]
   generalize hR : chkTsG c.wh = R
   repeat' ((conv => whnf); first
   | refine Ya ?_ | refine Yb ?_ | refine Yc ?_ | refine Yd ?_ | refine Ye ?_ | refine Yf ?_ | refine Yg ?_ | refine Yh ?_ | refine Yi rfl ?_ | refine Yj rfl ?_ | refine Yk rfl ?_ | refine Yl rfl ?_
    | (apply CallI.of; assumption))
   refine LoopW.to (LoopW.upP g (fun k => [(1, .ptr ⟨0, 1, 0⟩ 0 0), (3, I k)]) (fun _ => _) (fun k => chkTsG (c.wh.drop k) = R) c.wh.length (fun k hk h0 ih => ?_) 0 (Nat.zero_le _) hR) rfl rfl
   by_cases hlt : k < c.wh.length
   ·rw [List.drop_eq_getElem_cons hlt, chkTsG] at h0
    have ih := ih hlt
    have hc := r_CheckTest g c.wh[k]
    generalize chkTs c.wh[k] = e at *
    by_cases hz : e = 0
    ·rw [if_pos hz] at h0
     have ih := ih h0
     repeat' ((conv => whnf); first
     | refine Ya ?_ | refine Yb ?_ | refine Yc ?_ | refine Yd ?_ | refine Ye ?_ | refine Yf ?_ | refine Yg ?_ | refine Yh ?_ | refine Yi rfl ?_ | refine Yj rfl ?_ | refine Yk rfl ?_ | refine Yl rfl ?_
      | (refine PickW.rec Tst.cells_length k rfl hlt ?_)
      | (refine CallI.of hc ?_)
      | (refine Cmp.ff (fun h => h hz) ?_)
      | (refine LoopW.to ih rfl rfl))
    ·rw [if_neg hz] at h0
     have hf : firstI [if (!true) = true then 8 else 0, 0, R, if 8 < c.ky.length then 5 else 0, chkKyG [] c.ky] = e := by
      rw [← h0]
      simp [firstI, hz]
     rw [hf]
     repeat' ((conv => whnf); first
     | refine Ya ?_ | refine Yb ?_ | refine Yc ?_ | refine Yd ?_ | refine Ye ?_ | refine Yf ?_ | refine Yg ?_ | refine Yh ?_ | refine Yi rfl ?_ | refine Yj rfl ?_ | refine Yk rfl ?_ | refine Yl rfl ?_
      | (refine PickW.rec Tst.cells_length k rfl hlt ?_)
      | (refine CallI.of hc ?_)
      | (refine Cmp.tt hz ?_)
      | (refine Ret.mk rfl))
   ·rw [List.drop_eq_nil_of_le (by omega), chkTsG] at h0
    subst h0
    by_cases n2 : 8 < c.ky.length
    ·rw [if_pos n2]
     repeat' ((conv => whnf); first
     | refine Ya ?_ | refine Yb ?_ | refine Yc ?_ | refine Yd ?_ | refine Ye ?_ | refine Yf ?_ | refine Yg ?_ | refine Yh ?_ | refine Yi rfl ?_ | refine Yj rfl ?_ | refine Yk rfl ?_ | refine Yl rfl ?_
      | (refine Ret.mk rfl))
    ·rw [if_neg n2]
     generalize hQ : chkKyG [] c.ky = Q
     have hf : firstI [if (!true) = true then 8 else 0, 0, 0, 0, Q] = Q := by
      simp only [firstI]
      simp
      intro h; exact h.symm
     rw [hf]
     repeat' ((conv => whnf); first
     | refine Ya ?_ | refine Yb ?_ | refine Yc ?_ | refine Yd ?_ | refine Ye ?_ | refine Yf ?_ | refine Yg ?_ | refine Yh ?_ | refine Yi rfl ?_ | refine Yj rfl ?_ | refine Yk rfl ?_ | refine Yl rfl ?_)
     refine LoopW.to (LoopW.upP g (fun k => [(1, .ptr ⟨0, 1, 0⟩ 0 0), (5, I k)]) (fun _ => _) (fun k => chkKyG (nmsK (c.ky.take k)) (c.ky.drop k) = Q) c.ky.length (fun k hk h0 ih => ?_) 0 (Nat.zero_le _) hQ) rfl rfl
     by_cases hlt : k < c.ky.length
     ·have e : nmsK (c.ky.take (k + 1)) = nmsK (c.ky.take k) ++ [c.ky[k].fa] := nms_succ Kyt.fa hlt
      rw [List.drop_eq_getElem_cons hlt, chkKyG, ← e] at h0
      have ih := ih hlt
      have hw := r_HasFact g c.ky[k].fa
      by_cases hk1 : c.ky[k].fa ∈ fcL
      ·rw [decide_eq_true hk1] at hw
       repeat' ((conv => whnf); first
       | refine Ya ?_ | refine Yb ?_ | refine Yc ?_ | refine Yd ?_ | refine Ye ?_ | refine Yf ?_ | refine Yg ?_ | refine Yh ?_ | refine Yi rfl ?_ | refine Yj rfl ?_ | refine Yk rfl ?_ | refine Yl rfl ?_
        | (refine PickW.rec Kyt.cells_length k rfl hlt ?_)
        | (refine Pick.rec Kyt.cells_length k rfl hlt rfl ?_)
        | (apply CallI.of; assumption))
       refine LoopW.to (LoopW.upP g (fun j => [(1, .ptr ⟨0, 1, 0⟩ 0 0), (5, I k), (6, I j)]) (fun _ => _) (fun j => ∀ (i : Nat) (_ : i < j) (h : i < c.ky.length), c.ky[i].fa ≠ c.ky[k].fa) k (fun j hj hn jh => ?_) 0 (Nat.zero_le _) (fun i hi => absurd hi (Nat.not_lt_zero _))) rfl rfl
       by_cases hjk : j < k
       ·have hjl : j < c.ky.length := by omega
        by_cases hd : c.ky[j].fa = c.ky[k].fa
        ·have hm := key_in hlt hjk hd
         have hc : chkKy (nmsK (c.ky.take k)) c.ky[k] = 9 := by
          unfold chkKy
          rw [if_pos hk1, if_pos hm]
          rfl
         rw [hc, if_neg (by decide)] at h0
         rw [← h0]
         repeat' ((conv => whnf); first
         | refine Ya ?_ | refine Yb ?_ | refine Yc ?_ | refine Yd ?_ | refine Ye ?_ | refine Yf ?_ | refine Yg ?_ | refine Yh ?_ | refine Yi rfl ?_ | refine Yj rfl ?_ | refine Yk rfl ?_ | refine Yl rfl ?_
          | (refine Pick.rec Kyt.cells_length j rfl hjl rfl ?_)
          | (refine Pick.rec Kyt.cells_length k rfl hlt rfl ?_)
          | (refine Cmp.tt hd ?_)
          | (refine Ret.mk rfl))
        ·have jh := jh hjk fun i hi h => by
          by_cases e : i = j
          ·subst e; exact hd
          ·exact hn i (by omega) h
         repeat' ((conv => whnf); first
         | refine Ya ?_ | refine Yb ?_ | refine Yc ?_ | refine Yd ?_ | refine Ye ?_ | refine Yf ?_ | refine Yg ?_ | refine Yh ?_ | refine Yi rfl ?_ | refine Yj rfl ?_ | refine Yk rfl ?_ | refine Yl rfl ?_
          | (refine Pick.rec Kyt.cells_length j rfl hjl rfl ?_)
          | (refine Pick.rec Kyt.cells_length k rfl hlt rfl ?_)
          | (refine Cmp.ff hd ?_)
          | (refine LoopW.to jh rfl rfl))
       ·have hm := key_out hlt fun i hi => hn i (by omega) (by omega)
        have hc : chkKy (nmsK (c.ky.take k)) c.ky[k] = 0 := by
         unfold chkKy
         rw [if_pos hk1, if_neg hm]
         rfl
        rw [hc, if_pos rfl] at h0
        have ih := ih h0
        repeat' ((conv => whnf); first
        | refine Ya ?_ | refine Yb ?_ | refine Yc ?_ | refine Yd ?_ | refine Ye ?_ | refine Yf ?_ | refine Yg ?_ | refine Yh ?_ | refine Yi rfl ?_ | refine Yj rfl ?_ | refine Yk rfl ?_ | refine Yl rfl ?_
         | (refine LoopW.to ih rfl rfl))
      ·rw [decide_eq_false hk1] at hw
       have hc : chkKy (nmsK (c.ky.take k)) c.ky[k] = 10 := by
        unfold chkKy
        rw [if_neg hk1]
        rfl
       rw [hc, if_neg (by decide)] at h0
       rw [← h0]
       repeat' ((conv => whnf); first
       | refine Ya ?_ | refine Yb ?_ | refine Yc ?_ | refine Yd ?_ | refine Ye ?_ | refine Yf ?_ | refine Yg ?_ | refine Yh ?_ | refine Yi rfl ?_ | refine Yj rfl ?_ | refine Yk rfl ?_ | refine Yl rfl ?_
        | (refine Pick.rec Kyt.cells_length k rfl hlt rfl ?_)
        | (apply CallI.of; assumption)
        | (refine Ret.mk rfl))
     ·rw [List.drop_eq_nil_of_le (by omega), chkKyG] at h0
      rw [← h0]
      repeat' ((conv => whnf); first
      | refine Ya ?_ | refine Yb ?_ | refine Yc ?_ | refine Yd ?_ | refine Ye ?_ | refine Yf ?_ | refine Yg ?_ | refine Yh ?_ | refine Yi rfl ?_ | refine Yj rfl ?_ | refine Yk rfl ?_ | refine Yl rfl ?_
       | (refine Ret.mk rfl))
theorem r_CheckPool (p : Prg) : Fc E n_ref05_CheckPool [Pgv p] (I (chkPool p)) := by
 refine g.fn code_ref05_CheckPool rfl ?_
 have h := r_CheckRange g
 have h3 : Fc E n_ref01_First [.d (.list 3 [DI (rng p.po 0 p.cl.length), DI (rng p.of 1 100), DI (rng p.fo 0 p.of)])] (I (chkPool p)) := r_First g [_, _, _] (by simp)
 repeat' ((conv => whnf); first
 | refine Ya ?_ | refine Yb ?_ | refine Yc ?_ | refine Yd ?_ | refine Ye ?_ | refine Yf ?_ | refine Yg ?_ | refine Yh ?_ | refine Yi rfl ?_ | refine Yj rfl ?_ | refine Yk rfl ?_ | refine Yl rfl ?_
  | (refine CallI.of (h _ _ _) ?_)
  | (apply CallI.of; assumption)
  | (refine Ret.mk rfl))
set_option maxHeartbeats 8000000 in
theorem r_padded (l : List Cls) (c : Cls) (hl : l.length ≤ 1000000) (hs : SmallC c) : Fc E n_ref05_added [LC l, Csv c] (I (chkCa (nmsC l) c)) := by
 refine g.fn code_ref05_added rfl ?_
 have h1 := r_CheckClass g c hs
 unfold chkCa
 generalize chkCs c = e at *
 by_cases he : e = 0
 ·subst he
  repeat' ((conv => whnf); first
  | refine Ya ?_ | refine Yb ?_ | refine Yc ?_ | refine Yd ?_ | refine Ye ?_ | refine Yf ?_ | refine Yg ?_ | refine Yh ?_ | refine Yi rfl ?_ | refine Yj rfl ?_ | refine Yk rfl ?_ | refine Yl rfl ?_
   | (apply CallI.of; assumption))
  refine LoopW.to (LoopW.upP g (fun k => [(0, LC l), (3, .ptr ⟨0, 3, 0⟩ 0 0), (5, I 0), (6, I k)]) (fun _ => _) (fun k => ∀ (i : Nat) (_ : i < k) (h : i < l.length), l[i].nm ≠ c.nm) l.length (fun k hk hn ih => ?_) 0 (Nat.zero_le _) (fun i hi => absurd hi (Nat.not_lt_zero _))) rfl rfl
  by_cases hlt : k < l.length
  ·by_cases hd : l[k].nm = c.nm
   ·rw [if_pos (cls_in hlt hd)]
    by_cases hx : k + 1 < l.length
    all_goals repeat' ((conv => whnf); first
    | refine Ya ?_ | refine Yb ?_ | refine Yc ?_ | refine Yd ?_ | refine Ye ?_ | refine Yf ?_ | refine Yg ?_ | refine Yh ?_ | refine Yi rfl ?_ | refine Yj rfl ?_ | refine Yk rfl ?_ | refine Yl rfl ?_
     | (refine Pick.rec Cls.cells_length k rfl hlt rfl ?_)
     | (refine Cmp.tt hd ?_)
     | (refine LoopW.step g.lim ?_)
     | (refine Ret.mk rfl))
   ·have ih := ih hlt fun i hi h => by
     by_cases e : i = k
     ·subst e; exact hd
     ·exact hn i (by omega) h
    repeat' ((conv => whnf); first
    | refine Ya ?_ | refine Yb ?_ | refine Yc ?_ | refine Yd ?_ | refine Ye ?_ | refine Yf ?_ | refine Yg ?_ | refine Yh ?_ | refine Yi rfl ?_ | refine Yj rfl ?_ | refine Yk rfl ?_ | refine Yl rfl ?_
     | (refine Pick.rec Cls.cells_length k rfl hlt rfl ?_)
     | (refine Cmp.ff hd ?_)
     | (refine LoopW.to ih rfl rfl))
  ·rw [if_neg (cls_out fun i h => hn i (by omega) h)]
   repeat' ((conv => whnf); first
   | refine Ya ?_ | refine Yb ?_ | refine Yc ?_ | refine Yd ?_ | refine Ye ?_ | refine Yf ?_ | refine Yg ?_ | refine Yh ?_ | refine Yi rfl ?_ | refine Yj rfl ?_ | refine Yk rfl ?_ | refine Yl rfl ?_
    | (refine Ret.mk rfl))
 ·have hf : ∀ x, firstI [e, x] = e := fun x => by simp [firstI, he]
  rw [hf]
  by_cases hx : 0 < l.length
  all_goals repeat' ((conv => whnf); first
  | refine Ya ?_ | refine Yb ?_ | refine Yc ?_ | refine Yd ?_ | refine Ye ?_ | refine Yf ?_ | refine Yg ?_ | refine Yh ?_ | refine Yi rfl ?_ | refine Yj rfl ?_ | refine Yk rfl ?_ | refine Yl rfl ?_
   | (apply CallI.of; assumption)
   | (refine Cmp.ff he ?_)
   | (refine LoopW.step g.lim ?_)
   | (refine Ret.mk rfl))
set_option maxHeartbeats 8000000 in
theorem r_CheckProgram (p : Prg) (hs : SmallP p) : Fc E n_ref05_CheckProgram [Pgv p] (I (chkPg p)) := by
 refine g.fn code_ref05_CheckProgram rfl ?_
 have hp := r_CheckPool g p
 obtain ⟨l1, l2⟩ := hs
 unfold chkPg
 by_cases n1 : p.cl.length = 0
 ·rw [if_pos n1]
  repeat' ((conv => whnf); first
  | refine Ya ?_ | refine Yb ?_ | refine Yc ?_ | refine Yd ?_ | refine Ye ?_ | refine Yf ?_ | refine Yg ?_ | refine Yh ?_ | refine Yi rfl ?_ | refine Yj rfl ?_ | refine Yk rfl ?_ | refine Yl rfl ?_
   | (refine Ret.mk rfl))
 ·rw [if_neg n1]
  by_cases n2 : 16 < p.cl.length
  ·rw [if_pos n2]
   repeat' ((conv => whnf); first
   | refine Ya ?_ | refine Yb ?_ | refine Yc ?_ | refine Yd ?_ | refine Ye ?_ | refine Yf ?_ | refine Yg ?_ | refine Yh ?_ | refine Yi rfl ?_ | refine Yj rfl ?_ | refine Yk rfl ?_ | refine Yl rfl ?_
    | (refine Ret.mk rfl))
  ·rw [if_neg n2]
   generalize hR : chkCsG [] p.cl = R
   generalize chkPool p = q at *
   repeat' ((conv => whnf); first
   | refine Ya ?_ | refine Yb ?_ | refine Yc ?_ | refine Yd ?_ | refine Ye ?_ | refine Yf ?_ | refine Yg ?_ | refine Yh ?_ | refine Yi rfl ?_ | refine Yj rfl ?_ | refine Yk rfl ?_ | refine Yl rfl ?_)
   refine LoopW.to (LoopW.upP g (fun k => [(1, .ptr ⟨0, 1, 0⟩ 0 0), (3, I k)]) (fun _ => _) (fun k => chkCsG (nmsC (p.cl.take k)) (p.cl.drop k) = R) p.cl.length (fun k hk h0 ih => ?_) 0 (Nat.zero_le _) hR) rfl rfl
   by_cases hlt : k < p.cl.length
   ·have e : nmsC (p.cl.take (k + 1)) = nmsC (p.cl.take k) ++ [p.cl[k].nm] := nms_succ Cls.nm hlt
    rw [List.drop_eq_getElem_cons hlt, chkCsG, ← e] at h0
    have ih := ih hlt
    have hn := r_padded g (p.cl.take k) p.cl[k] (by simp; omega) (l2 _ (List.getElem_mem hlt))
    have ht := sl_take Cls.cells 3 Cls.cells_length p.cl k (by omega)
    generalize chkCa (nmsC (p.cl.take k)) p.cl[k] = r at *
    by_cases hz : r = 0
    ·rw [if_pos hz] at h0
     have ih := ih h0
     repeat' ((conv => whnf); first
     | refine Ya ?_ | refine Yb ?_ | refine Yc ?_ | refine Yd ?_ | refine Ye ?_ | refine Yf ?_ | refine Yg ?_ | refine Yh ?_ | refine Yi rfl ?_ | refine Yj rfl ?_ | refine Yk rfl ?_ | refine Yl rfl ?_
      | (refine PickW.rec Cls.cells_length k rfl hlt ?_)
      | (refine Bounds.at 0 k rfl rfl (by omega) ?_ <;> (try rw [ht]))
      | (refine CallI.of hn ?_)
      | (refine Cmp.ff (fun h => h hz) ?_)
      | (refine LoopW.to ih rfl rfl))
    ·rw [if_neg hz] at h0
     have hf : firstI [0, 0, R, q] = r := by rw [← h0]; simp [firstI, hz]
     rw [hf]
     repeat' ((conv => whnf); first
     | refine Ya ?_ | refine Yb ?_ | refine Yc ?_ | refine Yd ?_ | refine Ye ?_ | refine Yf ?_ | refine Yg ?_ | refine Yh ?_ | refine Yi rfl ?_ | refine Yj rfl ?_ | refine Yk rfl ?_ | refine Yl rfl ?_
      | (refine PickW.rec Cls.cells_length k rfl hlt ?_)
      | (refine Bounds.at 0 k rfl rfl (by omega) ?_ <;> (try rw [ht]))
      | (refine CallI.of hn ?_)
      | (refine Cmp.tt hz ?_)
      | (refine Ret.mk rfl))
   ·rw [List.drop_eq_nil_of_le (by omega), chkCsG] at h0
    have hf : firstI [0, 0, R, q] = q := by
     rw [← h0]
     simp only [firstI]
     simp
     intro h; exact h.symm
    rw [hf]
    repeat' ((conv => whnf); first
    | refine Ya ?_ | refine Yb ?_ | refine Yc ?_ | refine Yd ?_ | refine Ye ?_ | refine Yf ?_ | refine Yg ?_ | refine Yh ?_ | refine Yi rfl ?_ | refine Yj rfl ?_ | refine Yk rfl ?_ | refine Yl rfl ?_
     | (apply CallI.of; assumption)
     | (refine Ret.mk rfl))
end
end Go.Proofs.YtlnlcdnpgjhaaaaGreatDoor.Co
/-
 Priority: the class of a claim, by the program and by the reference.
-/
namespace Go.Proofs.YtlnlcdnpgjhaaaaGreatDoor.Co
open Go Go.Evl
set_option maxRecDepth 100000
def clsG (c : Clm) : Nat → List Cls → Int
 | i, [] => i
 | i, x :: r => if x.wh.all (holdB c) = true then i else clsG c (i + 1) r
def OkWh (p : Prg) : Prop := ∀ x ∈ p.cl, ∀ t ∈ x.wh, chkTs t = 0
theorem chkTsG_zero : ∀ {l : List Tst}, chkTsG l = 0 → ∀ t ∈ l, chkTs t = 0
 | [], _, t, ht => by cases ht
 | x :: r, h, t, ht => by
  rw [chkTsG] at h
  by_cases hz : chkTs x = 0
  ·rw [if_pos hz] at h
   rcases List.mem_cons.1 ht with rfl | ht
   ·exact hz
   ·exact chkTsG_zero h t ht
  ·rw [if_neg hz] at h
   exact absurd h hz
theorem chkKyG_zero : ∀ {l : List Kyt} {seen : List (List UInt8)}, chkKyG seen l = 0 → ∀ k ∈ l, k.fa ∈ fcL
 | [], _, _, k, hk => by cases hk
 | x :: r, seen, h, k, hk => by
  rw [chkKyG] at h
  by_cases hz : chkKy seen x = 0
  ·rw [if_pos hz] at h
   rcases List.mem_cons.1 hk with rfl | hk
   ·unfold chkKy at hz
    rw [firstI_zero] at hz
    refine Classical.byContradiction fun hn => ?_
    have := hz _ (List.mem_cons_self ..)
    rw [if_neg hn] at this
    cases this
   ·exact chkKyG_zero h k hk
  ·rw [if_neg hz] at h
   exact absurd h hz
structure OkCls (c : Cls) : Prop where
 nm : isNameB c.nm = true
 wh : c.wh.length ≤ 8
 ky : c.ky.length ≤ 8
 ts : ∀ t ∈ c.wh, chkTs t = 0
 ks : ∀ k ∈ c.ky, k.fa ∈ fcL
theorem chkCs_zero {c : Cls} (h : chkCs c = 0) : OkCls c := by
 unfold chkCs at h
 rw [firstI_zero] at h
 have h1 := h (nmE c.nm) (by simp)
 have h2 := h (if 8 < c.wh.length then 5 else 0) (by simp)
 have h3 := h (chkTsG c.wh) (by simp)
 have h4 := h (if 8 < c.ky.length then 5 else 0) (by simp)
 have h5 := h (chkKyG [] c.ky) (by simp)
 refine ⟨?_, ?_, ?_, chkTsG_zero h3, chkKyG_zero h5⟩
 ·unfold nmE at h1
  cases hb : isNameB c.nm with
  | true => rfl
  | false => rw [hb] at h1; cases h1
 ·refine Classical.byContradiction fun hn => ?_
  rw [if_pos (by omega)] at h2
  cases h2
 ·refine Classical.byContradiction fun hn => ?_
  rw [if_pos (by omega)] at h4
  cases h4
theorem chkCsG_zero : ∀ {l : List Cls} {seen : List (List UInt8)}, chkCsG seen l = 0 → ∀ c ∈ l, OkCls c
 | [], _, _, c, hc => by cases hc
 | x :: r, seen, h, c, hc => by
  rw [chkCsG] at h
  by_cases hz : chkCa seen x = 0
  ·rw [if_pos hz] at h
   rcases List.mem_cons.1 hc with rfl | hc
   ·unfold chkCa at hz
    rw [firstI_zero] at hz
    exact chkCs_zero (hz _ (List.mem_cons_self ..))
   ·exact chkCsG_zero h c hc
  ·rw [if_neg hz] at h
   exact absurd h hz
structure OkPrg (p : Prg) : Prop where
 one : 0 < p.cl.length
 many : p.cl.length ≤ 16
 cs : ∀ c ∈ p.cl, OkCls c
 po : 0 ≤ p.po ∧ p.po ≤ p.cl.length
 of' : 1 ≤ p.of ∧ p.of ≤ 100
 fo : 0 ≤ p.fo ∧ p.fo ≤ p.of
theorem chkPg_zero {p : Prg} (h : chkPg p = 0) : OkPrg p := by
 unfold chkPg at h
 rw [firstI_zero] at h
 have h1 := h (if p.cl.length = 0 then 12 else 0) (by simp)
 have h2 := h (if 16 < p.cl.length then 5 else 0) (by simp)
 have h3 := h (chkCsG [] p.cl) (by simp)
 have h4 := h (chkPool p) (by simp)
 unfold chkPool at h4
 rw [firstI_zero] at h4
 refine ⟨?_, ?_, chkCsG_zero h3, rng_zero.1 (h4 _ (by simp)), rng_zero.1 (h4 _ (by simp)), rng_zero.1 (h4 _ (by simp))⟩
 ·refine Classical.byContradiction fun hn => ?_
  rw [if_pos (by omega)] at h1
  cases h1
 ·refine Classical.byContradiction fun hn => ?_
  rw [if_pos (by omega)] at h2
  cases h2
theorem OkPrg.okWh {p : Prg} (h : OkPrg p) : OkWh p := fun x hx => (h.cs x hx).ts
theorem OkPrg.small {p : Prg} (h : OkPrg p) : SmallP p := ⟨by have := h.many; omega, fun c hc => ⟨by have := (h.cs c hc).wh; omega, by have := (h.cs c hc).ky; omega⟩⟩
section
variable {E : Oracle} (g : Good E)
include g
set_option maxHeartbeats 8000000 in
theorem s_classOf (p : Prg) (c : Clm) (hs : SmallP p) (hc : chkCl c = 0) (hp : OkWh p) : Fc E n_priority_Program_classOf [Pgv p, Clv c] (I (clsG c 0 p.cl)) := by
 refine g.fn code_priority_Program_classOf rfl ?_
 obtain ⟨l1, l2⟩ := hs
 generalize hR : clsG c 0 p.cl = R
 repeat' ((conv => whnf); first
 | refine Ya ?_ | refine Yb ?_ | refine Yc ?_ | refine Yd ?_ | refine Ye ?_ | refine Yf ?_ | refine Yg ?_ | refine Yh ?_ | refine Yi rfl ?_ | refine Yj rfl ?_ | refine Yk rfl ?_ | refine Yl rfl ?_)
 refine LoopW.to (LoopW.upP g (fun k => [(2, .ptr ⟨0, 2, 0⟩ 0 0), (3, .ptr ⟨0, 3, 0⟩ 0 0), (10, LC p.cl), (11, I p.cl.length), (12, I k)]) (fun _ => _) (fun k => clsG c k (p.cl.drop k) = R) p.cl.length (fun k hk h0 ih => ?_) 0 (Nat.zero_le _) hR) rfl rfl
 by_cases hlt : k < p.cl.length
 ·rw [List.drop_eq_getElem_cons hlt, clsG] at h0
  have ih := ih hlt
  have hx := hp _ (List.getElem_mem hlt)
  have l3 := (l2 _ (List.getElem_mem hlt)).1
  generalize hA : p.cl[k].wh.all (holdB c) = A at h0
  repeat' ((conv => whnf); first
  | refine Ya ?_ | refine Yb ?_ | refine Yc ?_ | refine Yd ?_ | refine Ye ?_ | refine Yf ?_ | refine Yg ?_ | refine Yh ?_ | refine Yi rfl ?_ | refine Yj rfl ?_ | refine Yk rfl ?_ | refine Yl rfl ?_
   | (refine PickW.rec Cls.cells_length k rfl hlt ?_))
  refine LoopW.to (LoopW.upP g (fun j => [(2, .ptr ⟨0, 2, 0⟩ 0 0), (3, .ptr ⟨0, 3, 0⟩ 0 0), (5, I k), (10, LC p.cl), (11, I p.cl.length), (12, I k), (18, LT p.cl[k].wh), (19, I p.cl[k].wh.length), (20, I j)]) (fun _ => _) (fun j => (p.cl[k].wh.drop j).all (holdB c) = A) p.cl[k].wh.length (fun j hj h1 jh => ?_) 0 (Nat.zero_le _) hA) rfl rfl
  by_cases hjl : j < p.cl[k].wh.length
  ·rw [List.drop_eq_getElem_cons hjl, List.all_cons] at h1
   have jh := jh hjl
   have hh := s_holds g c _ hc (hx _ (List.getElem_mem hjl))
   generalize holdB c p.cl[k].wh[j] = b at *
   cases b
   ·rw [Bool.false_and] at h1
    rw [← h1, if_neg (by decide)] at h0
    have ih := ih h0
    repeat' ((conv => whnf); first
    | refine Ya ?_ | refine Yb ?_ | refine Yc ?_ | refine Yd ?_ | refine Ye ?_ | refine Yf ?_ | refine Yg ?_ | refine Yh ?_ | refine Yi rfl ?_ | refine Yj rfl ?_ | refine Yk rfl ?_ | refine Yl rfl ?_
     | (refine PickW.rec Tst.cells_length j rfl hjl ?_)
     | (refine CallI.of hh ?_)
     | (refine LoopW.to ih rfl rfl))
   ·rw [Bool.true_and] at h1
    have jh := jh h1
    repeat' ((conv => whnf); first
    | refine Ya ?_ | refine Yb ?_ | refine Yc ?_ | refine Yd ?_ | refine Ye ?_ | refine Yf ?_ | refine Yg ?_ | refine Yh ?_ | refine Yi rfl ?_ | refine Yj rfl ?_ | refine Yk rfl ?_ | refine Yl rfl ?_
     | (refine PickW.rec Tst.cells_length j rfl hjl ?_)
     | (refine CallI.of hh ?_)
     | (refine LoopW.to jh rfl rfl))
  ·rw [List.drop_eq_nil_of_le (by omega), List.all_nil] at h1
   rw [← h1, if_pos rfl] at h0
   rw [← h0]
   repeat' ((conv => whnf); first
   | refine Ya ?_ | refine Yb ?_ | refine Yc ?_ | refine Yd ?_ | refine Ye ?_ | refine Yf ?_ | refine Yg ?_ | refine Yh ?_ | refine Yi rfl ?_ | refine Yj rfl ?_ | refine Yk rfl ?_ | refine Yl rfl ?_
    | (refine Ret.mk rfl))
 ·rw [List.drop_eq_nil_of_le (by omega), clsG] at h0
  have e : k = p.cl.length := by omega
  subst e
  rw [← h0]
  repeat' ((conv => whnf); first
  | refine Ya ?_ | refine Yb ?_ | refine Yc ?_ | refine Yd ?_ | refine Ye ?_ | refine Yf ?_ | refine Yg ?_ | refine Yh ?_ | refine Yi rfl ?_ | refine Yj rfl ?_ | refine Yk rfl ?_ | refine Yl rfl ?_
   | (refine Ret.mk rfl))
theorem s_ClassOf (p : Prg) (c : Clm) (hs : SmallP p) (hc : chkCl c = 0) (hq : chkPg p = 0) (hp : OkWh p) : Fc E n_priority_ClassOf [Pgv p, Clv c] (.tup [I (clsG c 0 p.cl), I 0]) := by
 refine g.fn code_priority_ClassOf rfl ?_
 have h1 := s_CheckProgram g p hs
 have h2 := s_CheckClaim g c
 have h3 := s_classOf g p c hs hc hp
 rw [hq] at h1
 rw [hc] at h2
 repeat' ((conv => whnf); first
 | refine Ya ?_ | refine Yb ?_ | refine Yc ?_ | refine Yd ?_ | refine Ye ?_ | refine Yf ?_ | refine Yg ?_ | refine Yh ?_ | refine Yi rfl ?_ | refine Yj rfl ?_ | refine Yk rfl ?_ | refine Yl rfl ?_
  | (apply CallI.of; assumption)
  | (refine CallI.of (s_pfirst2 g _ _) ?_)
  | (refine Ret.mk rfl))
end
end Go.Proofs.YtlnlcdnpgjhaaaaGreatDoor.Co
