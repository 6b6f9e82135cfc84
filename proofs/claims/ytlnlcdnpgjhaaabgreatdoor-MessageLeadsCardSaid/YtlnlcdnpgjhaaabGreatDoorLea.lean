/-
  MessageLeads: what its law leans on, part 1.
-/
import Derived.KernelRfl
import Derived.Laws.RangeAny
import Derived.Lib.SplitLaws
import Derived.Test.YtlnlcdnpgjhaaabGreatDoorEvE
import Derived.Test.YtlnlcdnpgjhaaabGreatDoorEvX
import Derived.Test.YtlnlcdnpgjhaaabGreatDoorGood
import Derived.Test.YtlnlcdnpgjhaaabGreatDoorRead
/-
 Ways to show what a function of the program gives: how data stand for Go's values; steps; loops.
-/
namespace Go.Proofs.YtlnlcdnpgjhaaabGreatDoor.Co
open Go Go.Evl
abbrev I (x : Int) : V := .d (.int .i64 x)
abbrev B (b : Bool) : V := .d (.bool b)
abbrev S (s : List UInt8) : V := .d (.str s)
abbrev DI (x : Int) : D := .int .i64 x
abbrev LI (l : List Int) : V := .d (.list l.length (l.map DI))
abbrev Per (a b c : Int) : V := .d (.agg [DI a, DI b, DI c])
theorem wrap_id {x : Int} (h : -9223372036854775808 ≤ x ∧ x ≤ 9223372036854775807) : IntKind.i64.wrap x = x := by
 have hb : IntKind.i64.wrap x = (if x % 18446744073709551616 ≥ 9223372036854775808 then x % 18446744073709551616 - 18446744073709551616 else x % 18446744073709551616) := by
  simp [IntKind.wrap, IntKind.signed, IntKind.bits]
 rw [hb]
 split <;> omega
section
variable {E : Oracle}
theorem Wr.keep {x : Int} {K : Int → Prop} (h : -9223372036854775808 ≤ x ∧ x ≤ 9223372036854775807) (k : K x) : Wr .i64 x K := ⟨by rw [wrap_id h]; exact k⟩
theorem Br.tt {a b : Prop} (h : a) : Br true a b := ⟨fun _ => h, fun h => nomatch h⟩
theorem Br.ff {a b : Prop} (h : b) : Br false a b := ⟨fun h => (nomatch h), fun _ => h⟩
theorem Cmp.tt {p a b : Prop} (hp : p) (h : a) : Cmp p a b := ⟨fun _ => h, fun hn => absurd hp hn⟩
theorem Cmp.ff {p a b : Prop} (hp : ¬ p) (h : b) : Cmp p a b := ⟨fun hn => absurd hn hp, fun _ => h⟩
theorem Rem.pos {a b : Int} {K : Int → Prop} (hb : 0 < b ∧ 0 ≤ a) (k : K (a % b)) : Rem a b K := ⟨by omega, by rw [Int.tmod_eq_emod_of_nonneg hb.2]; exact k⟩
theorem Rem.any {a b : Int} {K : Int → Prop} (hb : 0 < b) (k : ∀ r, -b < r ∧ r < b → r = a.tmod b → K r) : Rem a b K :=
 by
 refine ⟨by omega, k _ ⟨?_, Int.tmod_lt_of_pos a hb⟩ rfl⟩
 rw [Int.tmod_eq_emod]
 have h1 := Int.emod_nonneg a (show b ≠ 0 by omega)
 have h2 := Int.emod_lt_of_pos a hb
 split
 ·omega
 ·rename_i hn
  have : a % b ≠ 0 := fun e => hn (.inr (Int.dvd_of_emod_eq_zero e))
  omega
theorem Quo.pos {a b : Int} {K : Int → Prop} (hb : 0 < b ∧ 0 ≤ a ∧ a ≤ 9223372036854775807) (k : K (a / b)) : Quo .i64 a b K := by
 have h1 : a / b ≤ a := Int.ediv_le_self b hb.2.1
 have h2 : 0 ≤ a / b := Int.ediv_nonneg hb.2.1 (by omega)
 exact ⟨by omega, by rw [Int.tdiv_eq_ediv_of_nonneg hb.2.1, wrap_id (by omega)]; exact k⟩
theorem Pick.now {cs : List D} {off : Nat} {K : D → Prop} {d : D} (h : cs[off]? = some d) (k : K d) : Pick cs off K := ⟨⟨d, h, k⟩⟩
theorem PickV.now {cs : List V} {off : Nat} {K : V → Prop} {d : V} (h : cs[off]? = some d) (k : K d) : PickV cs off K := ⟨⟨d, h, k⟩⟩
theorem PickW.now {cs ds : List D} {off n : Nat} {K : List D → Prop} (hl : off + n ≤ cs.length) (h : win cs off n = ds) (k : K ds) : PickW cs off n K := ⟨hl, by rw [h]; exact k⟩
theorem Ya {a b : Prop} (h : a) : Br true a b := Br.tt h
theorem Yb {a b : Prop} (h : b) : Br false a b := Br.ff h
theorem Yi {cs : List V} {off : Nat} {K : V → Prop} {d : V} (h : cs[off]? = some d) (k : K d) : PickV cs off K := PickV.now h k
theorem Yj {cs : List D} {off : Nat} {K : D → Prop} {d : D} (h : cs[off]? = some d) (k : K d) : Pick cs off K := Pick.now h k
theorem Yk {b : Bool} {k : Prop} (h : b = true) (hk : k) : Chk b k := ⟨h, hk⟩
theorem Ye {p a b : Prop} (h : a) (hp : p := by first | omega | decide) : Cmp p a b := Cmp.tt hp h
theorem Yf {p a b : Prop} (h : b) (hp : ¬ p := by first | omega | decide) : Cmp p a b := Cmp.ff hp h
theorem Yc {p k : Prop} (h : k) (hp : p := by first | omega | (simp; done) | (simp; omega)) : Need p k := ⟨hp, h⟩
theorem Yd {x : Int} {K : Int → Prop} (k : K x) (h : -9223372036854775808 ≤ x ∧ x ≤ 9223372036854775807 := by omega) : Wr .i64 x K := Wr.keep h k
theorem Yg {a b : Int} {K : Int → Prop} (k : K (a % b)) (hb : 0 < b ∧ 0 ≤ a := by omega) : Rem a b K := Rem.pos hb k
theorem Yh {a b : Int} {K : Int → Prop} (k : K (a / b)) (hb : 0 < b ∧ 0 ≤ a ∧ a ≤ 9223372036854775807 := by omega) : Quo .i64 a b K := Quo.pos hb k
theorem Yl {cs ds : List D} {off n : Nat} {K : List D → Prop} (h : win cs off n = ds) (k : K ds) (hl : off + n ≤ cs.length := by first | omega | decide) : PickW cs off n K := PickW.now hl h k
theorem Bounds.at {n : Nat} {l h : Int} {K : Nat → Nat → Prop} (a b : Nat) (hl : l = a) (hh : h = b) (hb : a ≤ b ∧ b ≤ n) (k : K a b) : Bounds n l h K := by
 subst hl
 subst hh
 exact ⟨by omega, k⟩
theorem Pick.int {l : List Int} {i : Int} {K : D → Prop} (h : 0 ≤ i ∧ i < l.length) (k : K (DI (l.getD i.toNat 0))) : Pick (l.map DI) (i.toNat * 1) K := by
 refine ⟨⟨_, ?_, k⟩⟩
 have hi : i.toNat < l.length := by omega
 simp [List.getD, hi]
theorem LoopW.to {cx : Cx} {live : List Nat} {keep : List Evl.Id} {body : C} {e1 e2 : Env} {m1 m2 : Mem} {K : Ex → Env → Mem → Prop} (h : LoopW E cx live keep body e1 m1 K) (he : e1 = e2) (hm : m1 = m2) : LoopW E cx live keep body e2 m2 K := by
 subst he; subst hm; exact h
theorem LoopW.up (g : Good E) {cx : Cx} {live : List Nat} {keep : List Evl.Id} {body : C} {K : Ex → Env → Mem → Prop} (env : Nat → Env) (mem : Nat → Mem) (b : Nat)
  (h : ∀ k, k ≤ b → (k < b → LoopW E cx live keep body (env (k + 1)) (mem (k + 1)) K) → wpC E cx body (env k) (mem k) (againK E cx live keep body K)) : ∀ a, a ≤ b → LoopW E cx live keep body (env a) (mem a) K := by
 have key : ∀ n a, a + n = b → LoopW E cx live keep body (env a) (mem a) K := by
  intro n
  induction n with
  | zero => exact fun a ha => LoopW.step g.lim (h a (by omega) fun hlt => absurd hlt (by omega))
  | succ n ih => exact fun a ha => LoopW.step g.lim (h a (by omega) fun _ => ih (a + 1) (by omega))
 exact fun a ha => key (b - a) a (by omega)
theorem LoopW.upP (g : Good E) {cx : Cx} {live : List Nat} {keep : List Evl.Id} {body : C} {K : Ex → Env → Mem → Prop} (env : Nat → Env) (mem : Nat → Mem) (P : Nat → Prop) (b : Nat)
  (h : ∀ k, k ≤ b → P k → (k < b → P (k + 1) → LoopW E cx live keep body (env (k + 1)) (mem (k + 1)) K) → wpC E cx body (env k) (mem k) (againK E cx live keep body K)) : ∀ a, a ≤ b → P a → LoopW E cx live keep body (env a) (mem a) K := by
 have key : ∀ n a, a + n = b → P a → LoopW E cx live keep body (env a) (mem a) K := by
  intro n
  induction n with
  | zero => exact fun a ha hp => LoopW.step g.lim (h a (by omega) hp fun hlt => absurd hlt (by omega))
  | succ n ih => exact fun a ha hp => LoopW.step g.lim (h a (by omega) hp fun _ hp' => ih (a + 1) (by omega) hp')
 exact fun a ha => key (b - a) a (by omega)
theorem LoopW.by {σ : Type} (g : Good E) {cx : Cx} {live : List Nat} {keep : List Evl.Id} {body : C} {K : Ex → Env → Mem → Prop} (inv : σ → Prop) (env : σ → Env) (mem : σ → Mem) (μ : σ → Nat)
  (h : ∀ s, inv s → (∀ s', inv s' → μ s' < μ s → LoopW E cx live keep body (env s') (mem s') K) → wpC E cx body (env s) (mem s) (againK E cx live keep body K)) : ∀ s, inv s → LoopW E cx live keep body (env s) (mem s) K := by
 have key : ∀ n s, μ s < n → inv s → LoopW E cx live keep body (env s) (mem s) K := by
  intro n
  induction n with
  | zero => exact fun s hs => absurd hs (Nat.not_lt_zero _)
  | succ n ih => exact fun s hs hi => LoopW.step g.lim (h s hi fun s' hi' hlt => ih s' (by omega) hi')
 exact fun s hi => key (μ s + 1) s (Nat.lt_succ_self _) hi
theorem Good.fn (g : Good E) {f : Nat} {args : List V} {r : V} {cf : CF} (hc : code f = some cf) (hX : ext f = none) (h : bodyW E 0 cf args [] fun v m' => thawW m' v fun d => Ret d r) : Fc E f args r := Fc.enter g.lim hX hc h
def sameR : V → V → Bool
 | .d a, .d b => sameD a b
 | .tup as1, .tup bs =>
  match allD as1, allD bs with
  | some xs, some ys => sameDL xs ys
  | _, _ => false
 | _, _ => false
theorem sameR_eq (a b : V) (h : sameR a b = true) : a = b := by
 unfold sameR at h
 split at h
 ·rw [sameD_eq _ _ h]
 ·split at h
  ·rename_i h1 h2
   rw [sameDL_eq _ _ h] at h1
   rw [allD_eq _ _ _ h1 h2]
  ·cases h
 ·cases h
def isRes (o : Option Res) (r : V) : Bool :=
 match o with
 | some (.val v m) =>
  (match thaw m v with
  | some x => sameR x r
  | none => false)
 | _ => false
theorem Good.compR (g : Good E) (n : Nat) {f : Nat} {args : List V} {r : V} (h : isRes (iter code ext n (.call 0 f args [])) r = true) : Fc E f args r := by
 cases hr : iter code ext n (.call 0 f args []) with
 | none => rw [hr] at h; cases h
 | some x =>
  rw [hr] at h
  unfold isRes at h
  split at h
  ·rename_i v m e
   obtain rfl := Option.some.inj e
   split at h
   ·rename_i y hy
    exact ⟨_, _, g.lim.of_iter n _ _ hr, by rw [hy, sameR_eq _ _ h]⟩
   ·cases h
  ·cases h
end
end Go.Proofs.YtlnlcdnpgjhaaabGreatDoor.Co
/-
 Names as the keys of a map, and the lists of names.
-/
namespace Go.Proofs.YtlnlcdnpgjhaaabGreatDoor.Co
open Go Go.Evl
def keysL (ns : List (List UInt8)) : List (D × V) := ns.map fun s => (.str s, B true)
theorem find_keys (s : List UInt8) : ∀ ns : List (List UInt8), findE (.str s) (keysL ns) = some (if s ∈ ns then some (B true) else none)
 | [] => rfl
 | t :: r => by
  have ih := find_keys s r
  unfold keysL at ih ⊢
  rw [List.map_cons, findE]
  simp only [eqD]
  by_cases h : s = t
  ·subst h; simp
  ·have e : (s == t) = false := beq_eq_false_iff_ne.2 h
   rw [e]
   simp only [ih, List.mem_cons, h, false_or]
theorem ids_keys : ∀ ns : List (List UInt8), Evl.idsM (keysL ns) = []
 | [] => rfl
 | _ :: r => by
  show [] ++ Evl.idsM (keysL r) = []
  rw [ids_keys r]; rfl
theorem set_keys (s : List UInt8) : ∀ ns : List (List UInt8), s ∉ ns → setE (.str s) (B true) (keysL ns) = some (keysL (ns ++ [s]))
 | [], _ => rfl
 | t :: r, h => by
  have ih := set_keys s r fun hm => h (List.mem_cons_of_mem _ hm)
  have hne : s ≠ t := fun e => h (by simp [e])
  unfold keysL at ih ⊢
  rw [List.map_cons, setE]
  have e : (s == t) = false := beq_eq_false_iff_ne.2 hne
  simp only [eqD, e, ih, Option.map_some, List.cons_append, List.map_cons]
open Go Go.Evl
theorem settle_row {cx : Cx} {slot lo : Nat} {old m : Mem} {o : Evl.Id} {off l top : Nat} {wr : Bool} {t sz n : Nat} {xs : List D} (hlo : lo ≤ o.lv) (hl : Evl.look m o = some (.row wr t sz n xs)) :
  Go.Evl.settle cx slot lo old m (.ref o off l top) = some (.ref ⟨cx.lv, slot, Go.Evl.freeK cx.lv slot old⟩ off l top, old ++ [(⟨cx.lv, slot, Go.Evl.freeK cx.lv slot old⟩, .row wr t sz n xs)]) := by
 have hr : Go.Evl.reach lo m 64 (Go.Evl.ids (.ref o off l top)) [] = [o] := by
  simp [Go.Evl.ids, Go.Evl.reach, hlo, hl, Go.Evl.idsO]
 unfold Go.Evl.settle
 simp only [hr]
 rw [if_pos (by simp [Go.Evl.within, Go.Evl.movable, Go.Evl.onceB, Go.Evl.ids, hl, hlo, Go.Evl.idsO, Go.Evl.isLoop])]
 simp [Go.Evl.number, Go.Evl.ren, Go.Evl.subst, Go.Evl.moved, hl, Go.Evl.renO]
theorem Some'.row {cx : Cx} {slot lo : Nat} {old m : Mem} {o : Evl.Id} {off l top : Nat} {wr : Bool} {t sz n : Nat} {xs : List D} {K : V × Mem → Prop} (hlo : lo ≤ o.lv) (hl : Evl.look m o = some (.row wr t sz n xs))
  (k : K (.ref ⟨cx.lv, slot, Go.Evl.freeK cx.lv slot old⟩ off l top, old ++ [(⟨cx.lv, slot, Go.Evl.freeK cx.lv slot old⟩, .row wr t sz n xs)])) : Some' (Go.Evl.settle cx slot lo old m (.ref o off l top)) K := ⟨_, settle_row hlo hl, k⟩
end Go.Proofs.YtlnlcdnpgjhaaabGreatDoor.Co
/-
 Periods: errors, masks, moves: what the program's functions and the reference's give.
-/
namespace Go.Proofs.YtlnlcdnpgjhaaabGreatDoor.Co
open Go Go.Evl
def rng (n a b : Int) : Int := if n < a ∨ b < n then 3 else 0
def firstI : List Int → Int
 | [] => 0
 | x :: r => if x = 0 then firstI r else x
theorem rng_range (n a b : Int) : 0 ≤ rng n a b ∧ rng n a b ≤ 3 := by unfold rng; split <;> omega
theorem rng_zero {n a b : Int} : rng n a b = 0 ↔ a ≤ n ∧ n ≤ b := by unfold rng; split <;> omega
section
variable {E : Oracle} (g : Good E)
include g
theorem s_when (b : Bool) (e : Int) : Fc E n_calendar_when [B b, I e] (I (if b then e else 0)) := by
 refine g.fn code_calendar_when rfl ?_
 cases b
 all_goals repeat' ((conv => whnf); first
 | refine Ya ?_ | refine Yb ?_ | refine Yc ?_ | refine Yd ?_ | refine Ye ?_ | refine Yf ?_ | refine Yg ?_ | refine Yh ?_ | refine Yi rfl ?_ | refine Yj rfl ?_ | refine Yk rfl ?_ | refine Yl rfl ?_
  | (refine Ret.mk rfl))
theorem s_within (n a b : Int) : Fc E n_calendar_within [I n, I a, I b] (I (rng n a b)) := by
 refine g.fn code_calendar_within rfl ?_
 repeat' ((conv => whnf); first
 | refine Ya ?_ | refine Yb ?_ | refine Yc ?_ | refine Yd ?_ | refine Ye ?_ | refine Yf ?_ | refine Yg ?_ | refine Yh ?_ | refine Yi rfl ?_ | refine Yj rfl ?_ | refine Yk rfl ?_ | refine Yl rfl ?_
  | (refine Cmp.mk (fun h => ?_) (fun h => ?_)) | (refine Rem.any (by omega) (fun r hr he => ?_)) | (refine Br.mk (fun h => ?_) (fun h => ?_))
  | (refine CallI.of (s_when g _ _) ?_)
  | (refine Ret.mk ?_))
 all_goals (simp only [V.d.injEq, D.int.injEq, true_and, rng]; simp_all)
omit g in
theorem firstI_drop (l : List Int) (k : Nat) (h : k < l.length) : firstI (l.drop k) = if l.getD k 0 = 0 then firstI (l.drop (k + 1)) else l.getD k 0 := by
 rw [List.drop_eq_getElem_cons h]
 simp [firstI, List.getD, h]
theorem s_first (l : List Int) (hl : l.length ≤ 140737488355328) : Fc E n_calendar_first [LI l] (I (firstI l)) := by
 refine g.fn code_calendar_first rfl ?_
 conv => whnf
 refine LoopW.upP g (fun k => [(5, LI l), (6, I l.length), (7, I k)]) (fun _ => []) (fun k => firstI l = firstI (l.drop k)) l.length (fun k hk hp ih => ?_) 0 (Nat.zero_le _) (by simp)
 by_cases hlt : k < l.length
 ·have hd := firstI_drop l k hlt
  repeat' ((conv => whnf); first
  | refine Ya ?_ | refine Yb ?_ | refine Yc ?_ | refine Yd ?_ | refine Ye ?_ | refine Yf ?_ | refine Yg ?_ | refine Yh ?_ | refine Yi rfl ?_ | refine Yj rfl ?_ | refine Yk rfl ?_ | refine Yl rfl ?_
   | (refine Pick.int (by omega) ?_)
   | (refine Cmp.mk (fun h => ?_) (fun h => ?_)) | (refine Rem.any (by omega) (fun r hr he => ?_)) | (refine Br.mk (fun h => ?_) (fun h => ?_))
   | (refine LoopW.to (ih hlt ?_) ?_ rfl)
   | (refine Ret.mk ?_))
  all_goals simp_all
 ·have : l.drop k = [] := List.drop_eq_nil_of_le (by omega)
  repeat' ((conv => whnf); first
  | refine Ya ?_ | refine Yb ?_ | refine Yc ?_ | refine Yd ?_ | refine Ye ?_ | refine Yf ?_ | refine Yg ?_ | refine Yh ?_ | refine Yi rfl ?_ | refine Yj rfl ?_ | refine Yk rfl ?_ | refine Yl rfl ?_
   | (refine Ret.mk ?_))
  simp [hp, this, firstI]
theorem s_first2 (a b : Int) : Fc E n_calendar_first [.d (.list 2 [DI a, DI b])] (I (firstI [a, b])) := s_first g [a, b] (by simp)
theorem s_first3 (a b c : Int) : Fc E n_calendar_first [.d (.list 3 [DI a, DI b, DI c])] (I (firstI [a, b, c])) := s_first g [a, b, c] (by simp)
theorem s_checkDay (n : Int) : Fc E n_calendar_checkDay [I n] (I (rng n 0 99999)) := by
 refine g.fn code_calendar_checkDay rfl ?_
 repeat' ((conv => whnf); first
 | refine Ya ?_ | refine Yb ?_ | refine Yc ?_ | refine Yd ?_ | refine Ye ?_ | refine Yf ?_ | refine Yg ?_ | refine Yh ?_ | refine Yi rfl ?_ | refine Yj rfl ?_ | refine Yk rfl ?_ | refine Yl rfl ?_
  | (refine CallI.of (s_within g _ _ _) ?_)
  | (refine Ret.mk rfl))
theorem r_CheckRange (n a b : Int) : Fc E n_ref01_CheckRange [I n, I a, I b] (I (rng n a b)) := by
 refine g.fn code_ref01_CheckRange rfl ?_
 repeat' ((conv => whnf); first
 | refine Ya ?_ | refine Yb ?_ | refine Yc ?_ | refine Yd ?_ | refine Ye ?_ | refine Yf ?_ | refine Yg ?_ | refine Yh ?_ | refine Yi rfl ?_ | refine Yj rfl ?_ | refine Yk rfl ?_ | refine Yl rfl ?_
  | (refine Cmp.mk (fun h => ?_) (fun h => ?_)) | (refine Rem.any (by omega) (fun r hr he => ?_)) | (refine Br.mk (fun h => ?_) (fun h => ?_))
  | (refine Ret.mk ?_))
 all_goals (simp only [V.d.injEq, D.int.injEq, true_and, rng]; simp_all)
theorem r_CheckDay (n : Int) : Fc E n_ref01_CheckDay [I n] (I (rng n 0 99999)) := by
 refine g.fn code_ref01_CheckDay rfl ?_
 repeat' ((conv => whnf); first
 | refine Ya ?_ | refine Yb ?_ | refine Yc ?_ | refine Yd ?_ | refine Ye ?_ | refine Yf ?_ | refine Yg ?_ | refine Yh ?_ | refine Yi rfl ?_ | refine Yj rfl ?_ | refine Yk rfl ?_ | refine Yl rfl ?_
  | (refine CallI.of (r_CheckRange g _ _ _) ?_)
  | (refine Ret.mk rfl))
theorem r_First (l : List Int) (hl : l.length ≤ 140737488355328) : Fc E n_ref01_First [LI l] (I (firstI l)) := by
 refine g.fn code_ref01_First rfl ?_
 conv => whnf
 refine LoopW.upP g (fun k => [(0, LI l), (3, I k)]) (fun _ => []) (fun k => firstI l = firstI (l.drop k)) l.length (fun k hk hp ih => ?_) 0 (Nat.zero_le _) (by simp)
 by_cases hlt : k < l.length
 ·have hd := firstI_drop l k hlt
  repeat' ((conv => whnf); first
  | refine Ya ?_ | refine Yb ?_ | refine Yc ?_ | refine Yd ?_ | refine Ye ?_ | refine Yf ?_ | refine Yg ?_ | refine Yh ?_ | refine Yi rfl ?_ | refine Yj rfl ?_ | refine Yk rfl ?_ | refine Yl rfl ?_
   | (refine Pick.int (by omega) ?_)
   | (refine Cmp.mk (fun h => ?_) (fun h => ?_)) | (refine Rem.any (by omega) (fun r hr he => ?_)) | (refine Br.mk (fun h => ?_) (fun h => ?_))
   | (refine LoopW.to (ih hlt ?_) ?_ rfl)
   | (refine Ret.mk ?_))
  all_goals simp_all
 ·have : l.drop k = [] := List.drop_eq_nil_of_le (by omega)
  repeat' ((conv => whnf); first
  | refine Ya ?_ | refine Yb ?_ | refine Yc ?_ | refine Yd ?_ | refine Ye ?_ | refine Yf ?_ | refine Yg ?_ | refine Yh ?_ | refine Yi rfl ?_ | refine Yj rfl ?_ | refine Yk rfl ?_ | refine Yl rfl ?_
   | (refine Ret.mk ?_))
  simp [hp, this, firstI]
omit g in
def chkPer (f t d : Int) : Int := if f < 0 ∨ 99999 < f ∨ t < 0 ∨ 99999 < t then 3 else if t < f then 11 else if 400 < t - f then 4 else rng d 1 127
omit g in
theorem two_zero (f t : Int) : firstI [rng f 0 99999, rng t 0 99999] = 0 ↔ (0 ≤ f ∧ f ≤ 99999 ∧ 0 ≤ t ∧ t ≤ 99999) := by
 simp only [firstI]; unfold rng
 repeat' split
 all_goals omega
omit g in
theorem two_val (f t : Int) (h : firstI [rng f 0 99999, rng t 0 99999] ≠ 0) : firstI [rng f 0 99999, rng t 0 99999] = 3 := by
 simp only [firstI] at h ⊢; unfold rng at h ⊢
 repeat' split
 all_goals (try omega)
 all_goals simp_all
theorem s_CheckPeriod (f t d : Int) : Fc E n_calendar_CheckPeriod [Per f t d] (I (chkPer f t d)) := by
 refine g.fn code_calendar_CheckPeriod rfl ?_
 have k1 := two_zero f t
 have k2 := two_val f t
 have k3 := rng_range d 1 127
 repeat' ((conv => whnf); first
 | refine Ya ?_ | refine Yb ?_ | refine Yc ?_ | refine Yd ?_ | refine Ye ?_ | refine Yf ?_ | refine Yg ?_ | refine Yh ?_ | refine Yi rfl ?_ | refine Yj rfl ?_ | refine Yk rfl ?_ | refine Yl rfl ?_
  | (refine CallI.of (s_checkDay g _) ?_)
  | (refine CallI.of (s_first2 g _ _) ?_)
  | (refine CallI.of (s_when g _ _) ?_)
  | (refine CallI.of (s_within g _ _ _) ?_)
  | (refine CallI.of (s_first3 g _ _ _) ?_)
  | (refine Cmp.mk (fun h => ?_) (fun h => ?_)) | (refine Rem.any (by omega) (fun r hr he => ?_)) | (refine Br.mk (fun h => ?_) (fun h => ?_))
  | (refine Ret.mk ?_))
 all_goals (simp only [V.d.injEq, D.int.injEq, true_and, chkPer])
 all_goals first
  | (rw [if_pos (by omega)]; omega)
  | (simp [firstI]; repeat' split; all_goals omega)
theorem r_CheckPeriod (f t d : Int) : Fc E n_ref01_CheckPeriod [Per f t d] (I (chkPer f t d)) := by
 refine g.fn code_ref01_CheckPeriod rfl ?_
 have k1 := @rng_zero f 0 99999
 have k2 := @rng_zero t 0 99999
 repeat' ((conv => whnf); first
 | refine Ya ?_ | refine Yb ?_ | refine Yc ?_ | refine Yd ?_ | refine Ye ?_ | refine Yf ?_ | refine Yg ?_ | refine Yh ?_ | refine Yi rfl ?_ | refine Yj rfl ?_ | refine Yk rfl ?_ | refine Yl rfl ?_
  | (refine CallI.of (r_CheckDay g _) ?_)
  | (refine CallI.of (r_CheckRange g _ _ _) ?_)
  | (refine Cmp.mk (fun h => ?_) (fun h => ?_)) | (refine Rem.any (by omega) (fun r hr he => ?_)) | (refine Br.mk (fun h => ?_) (fun h => ?_))
  | (refine Ret.mk ?_))
 all_goals (simp only [V.d.injEq, D.int.injEq, true_and, chkPer])
 all_goals (repeat' split)
 all_goals first
  | rfl
  | omega
end
end Go.Proofs.YtlnlcdnpgjhaaabGreatDoor.Co
/-
 The laws' parameters, as data.
-/
namespace Go.Proofs.YtlnlcdnpgjhaaabGreatDoor.Co
open Go Go.Evl
set_option maxRecDepth 100000
def i64 (n : Int) : Prop := -9223372036854775808 ≤ n ∧ n ≤ 9223372036854775807
theorem wf_i64 {n : Int} (h : (Lit.int .i64 n).wf = true) : i64 n := by
 simp only [Lit.wf, Bool.and_eq_true, decide_eq_true_eq] at h
 exact h
section
variable {P : Program} {n : Nat} {t : Nat} {ds : List D} {x : D}
theorem fit_i {k : IntKind} (ht : P.underlying t = some (.int k)) (h : fit P (n + 1) t ds) : ∃ i, ds = [.int k i] ∧ (Lit.int k i).wf = true := by
 simp only [fit, ht] at h; exact h
theorem fit_s (ht : P.underlying t = some .string) (h : fit P (n + 1) t ds) : ∃ s, ds = [.str s] ∧ s.length ≤ maxLen := by
 simp only [fit, ht] at h; exact h
theorem fit_l {e : Nat} (ht : P.underlying t = some (.slice e)) (h : fit P (n + 1) t ds) : ∃ m cs, ds = [.list m cs] ∧ m ≤ maxLen ∧ fitAll (fit P n) (List.replicate m e) cs := by
 simp only [fit, ht] at h; exact h
theorem fit_st {fs : Array Field} (ht : P.underlying t = some (.struct fs)) (h : fit P (n + 1) t ds) : fitAll (fit P n) (fs.toList.map (·.type)) ds := by
 simp only [fit, ht] at h; exact h
theorem arg_l {e : Nat} (ht : P.underlying t = some (.slice e)) (h : fitArg P t x) : ∃ m cs, x = .list m cs ∧ m ≤ maxLen ∧ fitAll (fit P 7) (List.replicate m e) cs := by
 simp only [fitArg, ht] at h
 obtain ⟨m, cs, e, h1, h2⟩ := fit_l (n := 7) ht h
 exact ⟨m, cs, by simpa using e, h1, h2⟩
end
theorem fit_int {k : Nat} {ds : List D} (h : fit Tryz.prog (k + 1) 3 ds) : ∃ n, ds = [DI n] ∧ i64 n := by
 obtain ⟨n, rfl, hw⟩ := fit_i Tryz.underlying3 h
 exact ⟨n, rfl, wf_i64 hw⟩
theorem args2 {P : Program} {t u : Nat} {xs : List D} (h : fitArgs P [t, u] xs) : ∃ x y, xs = [x, y] ∧ fitArg P t x ∧ fitArg P u y := by
 obtain ⟨x, _, rfl, h1, y, _, rfl, h2, rfl⟩ := h
 exact ⟨x, y, rfl, h1, h2⟩
end Go.Proofs.YtlnlcdnpgjhaaabGreatDoor.Co
/-
 Names: what both IsName give.
-/
namespace Go.Proofs.YtlnlcdnpgjhaaabGreatDoor.Co
open Go Go.Evl
theorem PickB.at {s : List UInt8} {i : Nat} {K : UInt8 → Prop} (k : Nat) (hi : i = k) (h : k < s.length) (hk : K (s.getD k 0)) : PickB s i K := by
 subst hi
 exact ⟨⟨_, by simp [List.getD, h], hk⟩⟩
theorem NextW.asc {s : List UInt8} {k : Nat} {a : Int → Nat → Prop} {b : Prop} (h : k < s.length) (ha : (s.getD k 0).toNat < 128) (hk : a (s.getD k 0).toNat 1) : NextW s k a b := by
 refine ⟨fun _ => ?_, fun hn => absurd h hn⟩
 have e : (s.getD k 0) = s[k] := by simp [List.getD, h]
 have hd := decode_ascii ⟨s.toArray⟩ k (by simpa [ByteArray.size] using h) (by rw [e] at ha; exact ha)
 rw [hd]
 rw [e] at hk
 exact hk
theorem NextW.high {s : List UInt8} {k : Nat} {a : Int → Nat → Prop} {b : Prop} (h : k < s.length) (ha : 128 ≤ (s.getD k 0).toNat) (hk : ∀ (c : Int) (w : Nat), 128 ≤ c → 1 ≤ w → a c w) : NextW s k a b := by
 refine ⟨fun _ => ?_, fun hn => absurd h hn⟩
 have e : (s.getD k 0) = s[k] := by simp [List.getD, h]
 have hd := decode_high ⟨s.toArray⟩ k (by simpa [ByteArray.size] using h) (by rw [e] at ha; exact ha)
 exact hk _ _ (by omega) hd.2
theorem NextW.end' {s : List UInt8} {k : Nat} {a : Int → Nat → Prop} {b : Prop} (h : s.length ≤ k) (hk : b) : NextW s k a b := ⟨fun hn => absurd hn (by omega), fun _ => hk⟩
def okCh (k : Nat) (b : UInt8) : Prop := (65 ≤ b.toNat ∧ b.toNat ≤ 90) ∨ (97 ≤ b.toNat ∧ b.toNat ≤ 122) ∨ (0 < k ∧ (b.toNat = 95 ∨ (48 ≤ b.toNat ∧ b.toNat ≤ 57)))
instance (k : Nat) (b : UInt8) : Decidable (okCh k b) := by unfold okCh; infer_instance
def nameP (s : List UInt8) : Prop := 0 < s.length ∧ s.length ≤ 24 ∧ ∀ i, i < s.length → okCh i (s.getD i 0)
instance (s : List UInt8) : Decidable (nameP s) := by unfold nameP; infer_instance
def isNameB (s : List UInt8) : Bool := decide (nameP s)
theorem isName_no {s : List UInt8} {k : Nat} (hk : k < s.length) (h : ¬ okCh k (s.getD k 0)) : isNameB s = false := decide_eq_false fun hn => h (hn.2.2 k hk)
section
variable {E : Oracle} (g : Good E)
include g
theorem s_IsName (s : List UInt8) : Fc E n_calendar_IsName [S s] (B (isNameB s)) := by
 refine g.fn code_calendar_IsName rfl ?_
 by_cases h0 : 0 < s.length ∧ s.length ≤ 24
 ·repeat' ((conv => whnf); first
 | refine Ya ?_ | refine Yb ?_ | refine Yc ?_ | refine Yd ?_ | refine Ye ?_ | refine Yf ?_ | refine Yg ?_ | refine Yh ?_ | refine Yi rfl ?_ | refine Yj rfl ?_ | refine Yk rfl ?_ | refine Yl rfl ?_)
  refine LoopW.to (LoopW.upP g (fun _ => [(15, .it ⟨0, 15, 0⟩)]) (fun k => [(⟨0, 15, 0⟩, .iter s k)]) (fun k => ∀ i, i < k → okCh i (s.getD i 0)) s.length (fun k hk hp ih => ?_) 0 (Nat.zero_le _) (fun i hi => by omega)) rfl rfl
  by_cases hlt : k < s.length
  ·by_cases ha : (s.getD k 0).toNat < 128
   ·by_cases hok : okCh k (s.getD k 0)
    ·have hp' : ∀ i, i < k + 1 → okCh i (s.getD i 0) := fun i hi => by
      by_cases e : i = k
      ·subst e; exact hok
      ·exact hp i (by omega)
     have ih := ih hlt hp'
     unfold okCh at hok
     repeat' ((conv => whnf); first
     | refine Ya ?_ | refine Yb ?_ | refine Yc ?_ | refine Yd ?_ | refine Ye ?_ | refine Yf ?_ | refine Yg ?_ | refine Yh ?_ | refine Yi rfl ?_ | refine Yj rfl ?_ | refine Yk rfl ?_ | refine Yl rfl ?_
      | (refine NextW.asc hlt ha ?_)
      | (refine Cmp.mk (fun h => ?_) (fun h => ?_)) | (refine Rem.any (by omega) (fun r hr he => ?_)) | (refine Br.mk (fun h => ?_) (fun h => ?_))
      | (refine LoopW.to ih rfl rfl)
      | (exfalso; omega))
    ·have hno := isName_no hlt hok
     unfold okCh at hok
     rw [hno]
     repeat' ((conv => whnf); first
     | refine Ya ?_ | refine Yb ?_ | refine Yc ?_ | refine Yd ?_ | refine Ye ?_ | refine Yf ?_ | refine Yg ?_ | refine Yh ?_ | refine Yi rfl ?_ | refine Yj rfl ?_ | refine Yk rfl ?_ | refine Yl rfl ?_
      | (refine NextW.asc hlt ha ?_)
      | (refine Cmp.mk (fun h => ?_) (fun h => ?_)) | (refine Rem.any (by omega) (fun r hr he => ?_)) | (refine Br.mk (fun h => ?_) (fun h => ?_))
      | (refine Ret.mk rfl)
      | (exfalso; omega))
   ·have hno : isNameB s = false := isName_no hlt (by unfold okCh; omega)
    rw [hno]
    repeat' ((conv => whnf); first
    | refine Ya ?_ | refine Yb ?_ | refine Yc ?_ | refine Yd ?_ | refine Ye ?_ | refine Yf ?_ | refine Yg ?_ | refine Yh ?_ | refine Yi rfl ?_ | refine Yj rfl ?_ | refine Yk rfl ?_ | refine Yl rfl ?_
     | (refine NextW.high hlt (by omega) (fun c w hc hw => ?_))
     | (refine Cmp.mk (fun h => ?_) (fun h => ?_)) | (refine Rem.any (by omega) (fun r hr he => ?_)) | (refine Br.mk (fun h => ?_) (fun h => ?_))
     | (refine Ret.mk rfl)
     | (exfalso; omega))
  ·have hk' : k = s.length := by omega
   subst hk'
   have hyes : isNameB s = true := decide_eq_true ⟨h0.1, h0.2, hp⟩
   rw [hyes]
   repeat' ((conv => whnf); first
   | refine Ya ?_ | refine Yb ?_ | refine Yc ?_ | refine Yd ?_ | refine Ye ?_ | refine Yf ?_ | refine Yg ?_ | refine Yh ?_ | refine Yi rfl ?_ | refine Yj rfl ?_ | refine Yk rfl ?_ | refine Yl rfl ?_
    | (refine NextW.end' (Nat.le_refl _) ?_)
    | (refine Ret.mk rfl))
 ·have hno : isNameB s = false := decide_eq_false fun hn => h0 ⟨hn.1, hn.2.1⟩
  rw [hno]
  repeat' ((conv => whnf); first
  | refine Ya ?_ | refine Yb ?_ | refine Yc ?_ | refine Yd ?_ | refine Ye ?_ | refine Yf ?_ | refine Yg ?_ | refine Yh ?_ | refine Yi rfl ?_ | refine Yj rfl ?_ | refine Yk rfl ?_ | refine Yl rfl ?_
   | (refine Cmp.mk (fun h => ?_) (fun h => ?_)) | (refine Rem.any (by omega) (fun r hr he => ?_)) | (refine Br.mk (fun h => ?_) (fun h => ?_))
   | (refine Ret.mk rfl)
   | (exfalso; omega))
theorem r_IsName (s : List UInt8) : Fc E n_ref01_IsName [S s] (B (isNameB s)) := by
 refine g.fn code_ref01_IsName rfl ?_
 by_cases h0 : 0 < s.length ∧ s.length ≤ 24
 ·repeat' ((conv => whnf); first
 | refine Ya ?_ | refine Yb ?_ | refine Yc ?_ | refine Yd ?_ | refine Ye ?_ | refine Yf ?_ | refine Yg ?_ | refine Yh ?_ | refine Yi rfl ?_ | refine Yj rfl ?_ | refine Yk rfl ?_ | refine Yl rfl ?_)
  refine LoopW.to (LoopW.upP g (fun k => [(0, S s), (3, I k)]) (fun _ => []) (fun k => ∀ i, i < k → okCh i (s.getD i 0)) s.length (fun k hk hp ih => ?_) 0 (Nat.zero_le _) (fun i hi => by omega)) rfl rfl
  by_cases hlt : k < s.length
  ·by_cases hok : okCh k (s.getD k 0)
   ·have hp' : ∀ i, i < k + 1 → okCh i (s.getD i 0) := fun i hi => by
     by_cases e : i = k
     ·subst e; exact hok
     ·exact hp i (by omega)
    have ih := ih hlt hp'
    unfold okCh at hok
    repeat' ((conv => whnf); first
    | refine Ya ?_ | refine Yb ?_ | refine Yc ?_ | refine Yd ?_ | refine Ye ?_ | refine Yf ?_ | refine Yg ?_ | refine Yh ?_ | refine Yi rfl ?_ | refine Yj rfl ?_ | refine Yk rfl ?_ | refine Yl rfl ?_
     | (refine PickB.at k (by omega) hlt ?_)
     | (refine Cmp.mk (fun h => ?_) (fun h => ?_)) | (refine Rem.any (by omega) (fun r hr he => ?_)) | (refine Br.mk (fun h => ?_) (fun h => ?_))
     | (refine LoopW.to ih rfl rfl)
     | (exfalso; omega))
   ·have hno := isName_no hlt hok
    unfold okCh at hok
    rw [hno]
    repeat' ((conv => whnf); first
    | refine Ya ?_ | refine Yb ?_ | refine Yc ?_ | refine Yd ?_ | refine Ye ?_ | refine Yf ?_ | refine Yg ?_ | refine Yh ?_ | refine Yi rfl ?_ | refine Yj rfl ?_ | refine Yk rfl ?_ | refine Yl rfl ?_
     | (refine PickB.at k (by omega) hlt ?_)
     | (refine Cmp.mk (fun h => ?_) (fun h => ?_)) | (refine Rem.any (by omega) (fun r hr he => ?_)) | (refine Br.mk (fun h => ?_) (fun h => ?_))
     | (refine Ret.mk rfl)
     | (exfalso; omega))
  ·have hk' : k = s.length := by omega
   subst hk'
   have hyes : isNameB s = true := decide_eq_true ⟨h0.1, h0.2, hp⟩
   rw [hyes]
   repeat' ((conv => whnf); first
   | refine Ya ?_ | refine Yb ?_ | refine Yc ?_ | refine Yd ?_ | refine Ye ?_ | refine Yf ?_ | refine Yg ?_ | refine Yh ?_ | refine Yi rfl ?_ | refine Yj rfl ?_ | refine Yk rfl ?_ | refine Yl rfl ?_
    | (refine Ret.mk rfl))
 ·have hno : isNameB s = false := decide_eq_false fun hn => h0 ⟨hn.1, hn.2.1⟩
  rw [hno]
  repeat' ((conv => whnf); first
  | refine Ya ?_ | refine Yb ?_ | refine Yc ?_ | refine Yd ?_ | refine Ye ?_ | refine Yf ?_ | refine Yg ?_ | refine Yh ?_ | refine Yi rfl ?_ | refine Yj rfl ?_ | refine Yk rfl ?_ | refine Yl rfl ?_
   | (refine Cmp.mk (fun h => ?_) (fun h => ?_)) | (refine Rem.any (by omega) (fun r hr he => ?_)) | (refine Br.mk (fun h => ?_) (fun h => ?_))
   | (refine Ret.mk rfl)
   | (exfalso; omega))
end
end Go.Proofs.YtlnlcdnpgjhaaabGreatDoor.Co
/-
 Digits: their bytes, numbers in so many digits; bytes that are added and taken away.
-/
namespace Go.Proofs.YtlnlcdnpgjhaaabGreatDoor.Co
open Go Go.Evl
def dg (b : UInt8) : Prop := 48 ≤ b.toNat ∧ b.toNat ≤ 57
instance (b : UInt8) : Decidable (dg b) := by unfold dg; infer_instance
end Go.Proofs.YtlnlcdnpgjhaaabGreatDoor.Co
/-
 Messages: numbers of so many digits and minutes, printed and read.
-/
namespace Go.Proofs.YtlnlcdnpgjhaaabGreatDoor.Co
open Go Go.Evl
def numP (s : List UInt8) (w : Nat) : Prop := s.length = w ∧ ∀ x ∈ s, dg x
instance (s : List UInt8) (w : Nat) : Decidable (numP s w) := by unfold numP; infer_instance
def numB (s : List UInt8) (w : Nat) : Bool := decide (numP s w)
theorem numB_dig {s : List UInt8} {w k : Nat} (hk : k < s.length) (h : ¬ dg (s.getD k 0)) : numB s w = false := decide_eq_false fun hn => h (hn.2 _ (by
 simp [List.getD, hk]))
theorem numB_yes {s : List UInt8} {w : Nat} (h : s.length = w) (hd : ∀ i, i < s.length → dg (s.getD i 0)) : numB s w = true := decide_eq_true ⟨h, fun x hx => by
 obtain ⟨i, hi, rfl⟩ := List.getElem_of_mem hx
 have := hd i hi
 simpa [List.getD, hi] using this⟩
theorem toNat_u8 (b : UInt8) : b.toNat < 256 := b.toNat_lt
section
variable {E : Oracle} (g : Good E)
include g
theorem s_mwhen (b : Bool) (e : Int) : Fc E n_message_when [B b, I e] (I (if b then e else 0)) := by
 refine g.fn code_message_when rfl ?_
 cases b <;> repeat' ((conv => whnf); first
 | refine Ya ?_ | refine Yb ?_ | refine Yc ?_ | refine Yd ?_ | refine Ye ?_ | refine Yf ?_ | refine Yg ?_ | refine Yh ?_ | refine Yi rfl ?_ | refine Yj rfl ?_ | refine Yk rfl ?_ | refine Yl rfl ?_
  | (refine Ret.mk rfl))
theorem s_mwithin (n a b : Int) : Fc E n_message_within [I n, I a, I b] (I (rng n a b)) := by
 refine g.fn code_message_within rfl ?_
 have hw : ∀ c, Fc E n_message_when [B c, I 3] (I (if c then 3 else 0)) := fun c => s_mwhen g c 3
 unfold rng
 by_cases h1 : n < a
 ·rw [if_pos (.inl h1)]
  repeat' ((conv => whnf); first
  | refine Ya ?_ | refine Yb ?_ | refine Yc ?_ | refine Yd ?_ | refine Ye ?_ | refine Yf ?_ | refine Yg ?_ | refine Yh ?_ | refine Yi rfl ?_ | refine Yj rfl ?_ | refine Yk rfl ?_ | refine Yl rfl ?_
   | (refine CallI.of (hw _) ?_)
   | (refine Ret.mk rfl))
 ·by_cases h2 : b < n
  ·rw [if_pos (.inr h2)]
   repeat' ((conv => whnf); first
   | refine Ya ?_ | refine Yb ?_ | refine Yc ?_ | refine Yd ?_ | refine Ye ?_ | refine Yf ?_ | refine Yg ?_ | refine Yh ?_ | refine Yi rfl ?_ | refine Yj rfl ?_ | refine Yk rfl ?_ | refine Yl rfl ?_
    | (refine CallI.of (hw _) ?_)
    | (refine Ret.mk rfl))
  ·rw [if_neg (by omega)]
   repeat' ((conv => whnf); first
   | refine Ya ?_ | refine Yb ?_ | refine Yc ?_ | refine Yd ?_ | refine Ye ?_ | refine Yf ?_ | refine Yg ?_ | refine Yh ?_ | refine Yi rfl ?_ | refine Yj rfl ?_ | refine Yk rfl ?_ | refine Yl rfl ?_
    | (refine CallI.of (hw _) ?_)
    | (refine Ret.mk rfl))
end
end Go.Proofs.YtlnlcdnpgjhaaabGreatDoor.Co
/-
 Is a weekday in a mask? Calls whose results live in the caller's memory.
-/
namespace Go.Proofs.YtlnlcdnpgjhaaabGreatDoor.Co
open Go Go.Evl
theorem CallS.of {E : Oracle} {f : Nat} {args : List V} {cx : Cx} {slot : Nat} {m : Mem} {K : V → Mem → Prop} (h : In E 0 f args [] fun v m' => Some' (Go.Evl.settle cx slot 0 m m' v) fun p => K p.1 p.2) : CallS E f args cx slot m K := by
 obtain ⟨v, m', h1, p, h2, h3⟩ := h
 exact ⟨v, m', p, h1, h2, h3⟩
end Go.Proofs.YtlnlcdnpgjhaaabGreatDoor.Co
/-
 Messages: requests and lines, checked.
-/
namespace Go.Proofs.YtlnlcdnpgjhaaabGreatDoor.Co
open Go Go.Evl
structure Rqt where
 (nm ca ki te pa li : List UInt8)
 (fr to da mi se si no : Int)
 deriving DecidableEq
def Rqt.cells (q : Rqt) : List D := [.str q.nm, .str q.ca, .str q.ki, .str q.te, .str q.pa, .str q.li, DI q.fr, DI q.to, DI q.da, DI q.mi, DI q.se, DI q.si, DI q.no]
structure Lnt where
 ac : List UInt8
 rq : Rqt
def Lnt.cells (l : Lnt) : List D := .str l.ac :: l.rq.cells
theorem Lnt.cells_length (l : Lnt) : l.cells.length = 14 := rfl
theorem Rqt.cells_length (q : Rqt) : q.cells.length = 13 := rfl
abbrev Rqv (q : Rqt) : V := .d (.agg q.cells)
abbrev Lnv (l : Lnt) : V := .d (.agg l.cells)
def nmE (s : List UInt8) : Int := if (!isNameB s) = true then 8 else 0
def optB (s : List UInt8) : Bool := decide (s = []) || isNameB s
def opE (s : List UInt8) : Int := if (!optB s) = true then 8 else 0
def kindB (s : List UInt8) : Bool := decide (s = [65]) || decide (s = [68])
def chkRq (q : Rqt) : Int := firstI [nmE q.nm, nmE q.ca, nmE q.pa, opE q.te, opE q.li, if (!kindB q.ki) = true then 13 else 0, if q.li = q.nm then 32 else 0, chkPer q.fr q.to q.da, rng q.mi 0 1439, rng q.se 0 999, rng q.si 1 9, rng q.no 0 99]
def askL : List (List UInt8) := [[78], [72], [67], [82], [68]]
def repL : List (List UInt8) := [[75], [79], [85], [88]]
def asksB (s : List UInt8) : Bool := decide (s ∈ askL)
def repB (s : List UInt8) : Bool := decide (s ∈ repL)
def actB (s : List UInt8) : Bool := asksB s || repB s
abbrev REQ : List UInt8 := [82, 69, 81]
abbrev ANS : List UInt8 := [65, 78, 83]
def actK (s : List UInt8) : List UInt8 := if asksB s then REQ else if repB s then ANS else []
def chkLn (l : Lnt) : Int := firstI [if (!actB l.ac) = true then 13 else 0, chkRq l.rq]
theorem chkLn_eq (l : Lnt) : chkLn l = if actB l.ac then chkRq l.rq else 13 := by
 unfold chkLn
 cases actB l.ac
 ·simp [firstI]
 ·simp only [firstI]; simp; intro h; exact h.symm
abbrev actM : List (D × V) := [(.str [78], S REQ), (.str [72], S REQ), (.str [67], S REQ), (.str [82], S REQ), (.str [68], S REQ), (.str [75], S ANS), (.str [79], S ANS), (.str [85], S ANS), (.str [88], S ANS)]
theorem act_cases (s : List UInt8) : s ∈ askL ++ repL ∨ findE (.str s) actM = some none ∧ asksB s = false ∧ repB s = false := by
 by_cases h : s ∈ askL ++ repL
 ·exact .inl h
 ·refine .inr ?_
  simp only [askL, repL, List.mem_append, List.mem_cons, List.not_mem_nil, or_false, not_or] at h
  have e : ∀ t, s ≠ t → (s == t) = false := fun t h => beq_eq_false_iff_ne.2 h
  refine ⟨?_, decide_eq_false (by simp [askL, h]), decide_eq_false (by simp [repL, h])⟩
  obtain ⟨⟨h1, h2, h3, h4, h5⟩, h6, h7, h8, h9⟩ := h
  simp only [findE, eqD, e _ h1, e _ h2, e _ h3, e _ h4, e _ h5, e _ h6, e _ h7, e _ h8, e _ h9]
section
variable {E : Oracle} (g : Good E)
include g
set_option maxRecDepth 100000
theorem s_mfirst (l : List Int) (hl : l.length ≤ 140737488355328) : Fc E n_message_first [LI l] (I (firstI l)) := by
 refine g.fn code_message_first rfl ?_
 conv => whnf
 refine LoopW.upP g (fun k => [(5, LI l), (6, I l.length), (7, I k)]) (fun _ => []) (fun k => firstI l = firstI (l.drop k)) l.length (fun k hk hp ih => ?_) 0 (Nat.zero_le _) (by simp)
 by_cases hlt : k < l.length
 ·have hd := firstI_drop l k hlt
  repeat' ((conv => whnf); first
  | refine Ya ?_ | refine Yb ?_ | refine Yc ?_ | refine Yd ?_ | refine Ye ?_ | refine Yf ?_ | refine Yg ?_ | refine Yh ?_ | refine Yi rfl ?_ | refine Yj rfl ?_ | refine Yk rfl ?_ | refine Yl rfl ?_
   | (refine Pick.int (by omega) ?_)
   | (refine Cmp.mk (fun h => ?_) (fun h => ?_)) | (refine Rem.any (by omega) (fun r hr he => ?_)) | (refine Br.mk (fun h => ?_) (fun h => ?_))
   | (refine LoopW.to (ih hlt ?_) ?_ rfl)
   | (refine Ret.mk ?_))
  all_goals simp_all
 ·have : l.drop k = [] := List.drop_eq_nil_of_le (by omega)
  repeat' ((conv => whnf); first
  | refine Ya ?_ | refine Yb ?_ | refine Yc ?_ | refine Yd ?_ | refine Ye ?_ | refine Yf ?_ | refine Yg ?_ | refine Yh ?_ | refine Yi rfl ?_ | refine Yj rfl ?_ | refine Yk rfl ?_ | refine Yl rfl ?_
   | (refine Ret.mk ?_))
  simp [hp, this, firstI]
theorem s_mfirst2 (a b : Int) : Fc E n_message_first [.d (.list 2 [DI a, DI b])] (I (firstI [a, b])) := s_mfirst g [a, b] (by simp)
theorem s_mfirst3 (a b c : Int) : Fc E n_message_first [.d (.list 3 [DI a, DI b, DI c])] (I (firstI [a, b, c])) := s_mfirst g [a, b, c] (by simp)
theorem s_mfirst4 (a b c d : Int) : Fc E n_message_first [.d (.list 4 [DI a, DI b, DI c, DI d])] (I (firstI [a, b, c, d])) := s_mfirst g [a, b, c, d] (by simp)
theorem s_mfirst12 (a b c d e f h i j k l m : Int) : Fc E n_message_first [.d (.list 12 [DI a, DI b, DI c, DI d, DI e, DI f, DI h, DI i, DI j, DI k, DI l, DI m])] (I (firstI [a, b, c, d, e, f, h, i, j, k, l, m])) := s_mfirst g [a, b, c, d, e, f, h, i, j, k, l, m] (by simp)
theorem r_First4 (a b c d : Int) : Fc E n_ref01_First [.d (.list 4 [DI a, DI b, DI c, DI d])] (I (firstI [a, b, c, d])) := r_First g [a, b, c, d] (by simp)
theorem s_named (s : List UInt8) : Fc E n_message_named [S s] (I (nmE s)) := by
 refine g.fn code_message_named rfl ?_
 have h := s_IsName g s
 repeat' ((conv => whnf); first
 | refine Ya ?_ | refine Yb ?_ | refine Yc ?_ | refine Yd ?_ | refine Ye ?_ | refine Yf ?_ | refine Yg ?_ | refine Yh ?_ | refine Yi rfl ?_ | refine Yj rfl ?_ | refine Yk rfl ?_ | refine Yl rfl ?_
  | (apply CallI.of; assumption)
  | (refine CallI.of (s_mwhen g _ _) ?_)
  | (refine Ret.mk rfl))
theorem s_moptional (s : List UInt8) : Fc E n_message_optional [S s] (I (opE s)) := by
 refine g.fn code_message_optional rfl ?_
 have h := s_IsName g s
 unfold opE optB
 by_cases he : s = []
 ·subst he
  repeat' ((conv => whnf); first
  | refine Ya ?_ | refine Yb ?_ | refine Yc ?_ | refine Yd ?_ | refine Ye ?_ | refine Yf ?_ | refine Yg ?_ | refine Yh ?_ | refine Yi rfl ?_ | refine Yj rfl ?_ | refine Yk rfl ?_ | refine Yl rfl ?_
   | (refine CallI.of (s_mwhen g _ _) ?_)
   | (refine Ret.mk rfl))
 ·rw [decide_eq_false he]
  repeat' ((conv => whnf); first
  | refine Ya ?_ | refine Yb ?_ | refine Yc ?_ | refine Yd ?_ | refine Ye ?_ | refine Yf ?_ | refine Yg ?_ | refine Yh ?_ | refine Yi rfl ?_ | refine Yj rfl ?_ | refine Yk rfl ?_ | refine Yl rfl ?_
   | (apply CallI.of; assumption)
   | (refine Cmp.ff he ?_)
   | (refine CallI.of (s_mwhen g _ _) ?_)
   | (refine Ret.mk rfl))
theorem r_optional (s : List UInt8) : Fc E n_ref02_optional [S s] (B (optB s)) := by
 refine g.fn code_ref02_optional rfl ?_
 have h := r_IsName g s
 unfold optB
 by_cases he : s = []
 ·subst he
  repeat' ((conv => whnf); first
  | refine Ya ?_ | refine Yb ?_ | refine Yc ?_ | refine Yd ?_ | refine Ye ?_ | refine Yf ?_ | refine Yg ?_ | refine Yh ?_ | refine Yi rfl ?_ | refine Yj rfl ?_ | refine Yk rfl ?_ | refine Yl rfl ?_
   | (refine Ret.mk rfl))
 ·rw [decide_eq_false he]
  repeat' ((conv => whnf); first
  | refine Ya ?_ | refine Yb ?_ | refine Yc ?_ | refine Yd ?_ | refine Ye ?_ | refine Yf ?_ | refine Yg ?_ | refine Yh ?_ | refine Yi rfl ?_ | refine Yj rfl ?_ | refine Yk rfl ?_ | refine Yl rfl ?_
   | (apply CallI.of; assumption)
   | (refine Cmp.ff he ?_)
   | (refine Ret.mk rfl))
theorem s_isKind (s : List UInt8) : Fc E n_message_isKind [S s] (B (kindB s)) := by
 refine g.fn code_message_isKind rfl ?_
 unfold kindB
 by_cases he : s = [65]
 ·subst he
  repeat' ((conv => whnf); first
  | refine Ya ?_ | refine Yb ?_ | refine Yc ?_ | refine Yd ?_ | refine Ye ?_ | refine Yf ?_ | refine Yg ?_ | refine Yh ?_ | refine Yi rfl ?_ | refine Yj rfl ?_ | refine Yk rfl ?_ | refine Yl rfl ?_
   | (refine Ret.mk rfl))
 ·rw [decide_eq_false he]
  by_cases hd : s = [68]
  ·subst hd
   repeat' ((conv => whnf); first
   | refine Ya ?_ | refine Yb ?_ | refine Yc ?_ | refine Yd ?_ | refine Ye ?_ | refine Yf ?_ | refine Yg ?_ | refine Yh ?_ | refine Yi rfl ?_ | refine Yj rfl ?_ | refine Yk rfl ?_ | refine Yl rfl ?_
    | (refine Ret.mk rfl))
  ·rw [decide_eq_false hd]
   repeat' ((conv => whnf); first
   | refine Ya ?_ | refine Yb ?_ | refine Yc ?_ | refine Yd ?_ | refine Ye ?_ | refine Yf ?_ | refine Yg ?_ | refine Yh ?_ | refine Yi rfl ?_ | refine Yj rfl ?_ | refine Yk rfl ?_ | refine Yl rfl ?_
    | (refine Cmp.ff he ?_)
    | (refine Cmp.ff hd ?_)
    | (refine Ret.mk rfl))
set_option maxHeartbeats 4000000 in
theorem s_CheckRequest (q : Rqt) : Fc E n_message_CheckRequest [Rqv q] (I (chkRq q)) := by
 refine g.fn code_message_CheckRequest rfl ?_
 have h1 := s_named g
 have h2 := s_moptional g
 have h3 := s_isKind g q.ki
 have h4 := s_CheckPeriod g q.fr q.to q.da
 have h5 := s_mwithin g
 have h6 := s_mwhen g
 unfold chkRq
 by_cases hl : q.li = q.nm
 all_goals first | rw [if_pos hl] | rw [if_neg hl]
 all_goals repeat' ((conv => whnf); first
 | refine Ya ?_ | refine Yb ?_ | refine Yc ?_ | refine Yd ?_ | refine Ye ?_ | refine Yf ?_ | refine Yg ?_ | refine Yh ?_ | refine Yi rfl ?_ | refine Yj rfl ?_ | refine Yk rfl ?_ | refine Yl rfl ?_
  | (refine CallI.of (h1 _) ?_)
  | (refine CallI.of (h2 _) ?_)
  | (refine CallI.of h3 ?_)
  | (refine CallI.of h4 ?_)
  | (refine CallI.of (h5 _ _ _) ?_)
  | (refine CallI.of (h6 _ _) ?_)
  | (refine Cmp.tt hl ?_)
  | (refine Cmp.ff hl ?_)
  | (refine CallI.of (s_mfirst12 g _ _ _ _ _ _ _ _ _ _ _ _) ?_)
  | (refine Ret.mk rfl))
set_option maxHeartbeats 8000000 in
theorem r_CheckRequest (q : Rqt) : Fc E n_ref02_CheckRequest [Rqv q] (I (chkRq q)) := by
 refine g.fn code_ref02_CheckRequest rfl ?_
 have n1 := r_IsName g q.nm
 have n2 := r_IsName g q.ca
 have n3 := r_IsName g q.pa
 have n4 := r_optional g q.te
 have n5 := r_optional g q.li
 have hp := r_CheckPeriod g q.fr q.to q.da
 have hr := r_CheckRange g
 unfold chkRq nmE opE
 generalize isNameB q.nm = b1 at *
 generalize isNameB q.ca = b2 at *
 generalize isNameB q.pa = b3 at *
 generalize optB q.te = b4 at *
 generalize optB q.li = b5 at *
 generalize chkPer q.fr q.to q.da = cp at *
 cases b1
 ·repeat' ((conv => whnf); first
 | refine Ya ?_ | refine Yb ?_ | refine Yc ?_ | refine Yd ?_ | refine Ye ?_ | refine Yf ?_ | refine Yg ?_ | refine Yh ?_ | refine Yi rfl ?_ | refine Yj rfl ?_ | refine Yk rfl ?_ | refine Yl rfl ?_
   | (apply CallI.of; assumption)
   | (refine Cmp.tt (by assumption) ?_)
   | (refine Cmp.ff (by assumption) ?_)
   | (refine CallI.of (hr _ _ _) ?_)
   | (refine CallI.of (r_First4 g _ _ _ _) ?_)
   | (refine Ret.mk ?_))
  rfl
 ·
  cases b2
  ·repeat' ((conv => whnf); first
  | refine Ya ?_ | refine Yb ?_ | refine Yc ?_ | refine Yd ?_ | refine Ye ?_ | refine Yf ?_ | refine Yg ?_ | refine Yh ?_ | refine Yi rfl ?_ | refine Yj rfl ?_ | refine Yk rfl ?_ | refine Yl rfl ?_
    | (apply CallI.of; assumption)
    | (refine Cmp.tt (by assumption) ?_)
    | (refine Cmp.ff (by assumption) ?_)
    | (refine CallI.of (hr _ _ _) ?_)
    | (refine CallI.of (r_First4 g _ _ _ _) ?_)
    | (refine Ret.mk ?_))
   rfl
  ·
   cases b3
   ·repeat' ((conv => whnf); first
   | refine Ya ?_ | refine Yb ?_ | refine Yc ?_ | refine Yd ?_ | refine Ye ?_ | refine Yf ?_ | refine Yg ?_ | refine Yh ?_ | refine Yi rfl ?_ | refine Yj rfl ?_ | refine Yk rfl ?_ | refine Yl rfl ?_
     | (apply CallI.of; assumption)
     | (refine Cmp.tt (by assumption) ?_)
     | (refine Cmp.ff (by assumption) ?_)
     | (refine CallI.of (hr _ _ _) ?_)
     | (refine CallI.of (r_First4 g _ _ _ _) ?_)
     | (refine Ret.mk ?_))
    rfl
   ·
    cases b4
    ·repeat' ((conv => whnf); first
    | refine Ya ?_ | refine Yb ?_ | refine Yc ?_ | refine Yd ?_ | refine Ye ?_ | refine Yf ?_ | refine Yg ?_ | refine Yh ?_ | refine Yi rfl ?_ | refine Yj rfl ?_ | refine Yk rfl ?_ | refine Yl rfl ?_
      | (apply CallI.of; assumption)
      | (refine Cmp.tt (by assumption) ?_)
      | (refine Cmp.ff (by assumption) ?_)
      | (refine CallI.of (hr _ _ _) ?_)
      | (refine CallI.of (r_First4 g _ _ _ _) ?_)
      | (refine Ret.mk ?_))
     rfl
    ·
     cases b5
     ·repeat' ((conv => whnf); first
     | refine Ya ?_ | refine Yb ?_ | refine Yc ?_ | refine Yd ?_ | refine Ye ?_ | refine Yf ?_ | refine Yg ?_ | refine Yh ?_ | refine Yi rfl ?_ | refine Yj rfl ?_ | refine Yk rfl ?_ | refine Yl rfl ?_
       | (apply CallI.of; assumption)
       | (refine Cmp.tt (by assumption) ?_)
       | (refine Cmp.ff (by assumption) ?_)
       | (refine CallI.of (hr _ _ _) ?_)
       | (refine CallI.of (r_First4 g _ _ _ _) ?_)
       | (refine Ret.mk ?_))
      rfl
     ·
      unfold kindB
      by_cases ka : q.ki = [65]
      all_goals by_cases kd : q.ki = [68]
      all_goals by_cases hl : q.li = q.nm
      all_goals by_cases hc : cp = 0
      all_goals repeat' ((conv => whnf); first
      | refine Ya ?_ | refine Yb ?_ | refine Yc ?_ | refine Yd ?_ | refine Ye ?_ | refine Yf ?_ | refine Yg ?_ | refine Yh ?_ | refine Yi rfl ?_ | refine Yj rfl ?_ | refine Yk rfl ?_ | refine Yl rfl ?_
       | (apply CallI.of; assumption)
       | (refine Cmp.tt (by assumption) ?_)
       | (refine Cmp.ff (by assumption) ?_)
       | (refine CallI.of (hr _ _ _) ?_)
       | (refine CallI.of (r_First4 g _ _ _ _) ?_)
       | (refine Ret.mk ?_))
      all_goals simp_all [firstI]
theorem s_actions : In E 0 n_message_actions [] [] fun v m' => v = .mp ⟨0, 1, 0⟩ ∧ m' = [(⟨0, 1, 0⟩, .map actM)] := by
 refine In.enter g.lim rfl code_message_actions ?_
 repeat' ((conv => whnf); first
 | refine Ya ?_ | refine Yb ?_ | refine Yc ?_ | refine Yd ?_ | refine Ye ?_ | refine Yf ?_ | refine Yg ?_ | refine Yh ?_ | refine Yi rfl ?_ | refine Yj rfl ?_ | refine Yk rfl ?_ | refine Yl rfl ?_
  | (refine SetW.mk ⟨_, rfl, ?_⟩)
  | (exact ⟨rfl, rfl⟩))
omit g in
theorem settle_actions {cx : Cx} {slot : Nat} {m : Mem} (hf : Go.Evl.freeK cx.lv slot m = 0) : Go.Evl.settle cx slot 0 m [(⟨0, 1, 0⟩, .map actM)] (.mp ⟨0, 1, 0⟩) = some (.mp ⟨cx.lv, slot, 0⟩, m ++ [(⟨cx.lv, slot, 0⟩, .map actM)]) := by
 unfold Go.Evl.settle
 rw [hf]
 rfl
theorem CallS.actions {cx : Cx} {slot : Nat} {m : Mem} {K : V → Mem → Prop} (hf : Go.Evl.freeK cx.lv slot m = 0) (h : K (.mp ⟨cx.lv, slot, 0⟩) (m ++ [(⟨cx.lv, slot, 0⟩, .map actM)])) : CallS E n_message_actions [] cx slot m K := by
 obtain ⟨v, m', h1, rfl, rfl⟩ := (s_actions g).got
 exact ⟨_, _, _, h1, settle_actions hf, h⟩
theorem s_isAction (s : List UInt8) : Fc E n_message_isAction [S s] (B (actB s)) := by
 refine g.fn code_message_isAction rfl ?_
 rcases act_cases s with h | ⟨h, h1, h2⟩
 ·simp only [askL, repL, List.cons_append, List.nil_append, List.mem_cons, List.not_mem_nil, or_false] at h
  rcases h with rfl | rfl | rfl | rfl | rfl | rfl | rfl | rfl | rfl
  all_goals repeat' ((conv => whnf); first
  | refine Ya ?_ | refine Yb ?_ | refine Yc ?_ | refine Yd ?_ | refine Ye ?_ | refine Yf ?_ | refine Yg ?_ | refine Yh ?_ | refine Yi rfl ?_ | refine Yj rfl ?_ | refine Yk rfl ?_ | refine Yl rfl ?_
   | (refine CallS.actions g rfl ?_)
   | (refine Find.mk ⟨_, rfl, ?_⟩)
   | (refine Ret.mk rfl))
 ·unfold actB
  rw [h1, h2]
  repeat' ((conv => whnf); first
  | refine Ya ?_ | refine Yb ?_ | refine Yc ?_ | refine Yd ?_ | refine Ye ?_ | refine Yf ?_ | refine Yg ?_ | refine Yh ?_ | refine Yi rfl ?_ | refine Yj rfl ?_ | refine Yk rfl ?_ | refine Yl rfl ?_
   | (refine CallS.actions g rfl ?_)
   | (refine Find.mk ⟨_, h, ?_⟩)
   | (refine Ret.mk rfl))
theorem s_CheckLine (l : Lnt) : Fc E n_message_CheckLine [Lnv l] (I (chkLn l)) := by
 refine g.fn code_message_CheckLine rfl ?_
 have h1 := s_isAction g l.ac
 have h2 := s_CheckRequest g l.rq
 repeat' ((conv => whnf); first
 | refine Ya ?_ | refine Yb ?_ | refine Yc ?_ | refine Yd ?_ | refine Ye ?_ | refine Yf ?_ | refine Yg ?_ | refine Yh ?_ | refine Yi rfl ?_ | refine Yj rfl ?_ | refine Yk rfl ?_ | refine Yl rfl ?_
  | (apply CallI.of; assumption)
  | (refine CallI.of (s_mwhen g _ _) ?_)
  | (refine CallI.of (s_mfirst2 g _ _) ?_)
  | (refine Ret.mk rfl))
end
end Go.Proofs.YtlnlcdnpgjhaaabGreatDoor.Co
/-
 Messages: requests and lines as a law's parameters; short ones.
-/
namespace Go.Proofs.YtlnlcdnpgjhaaabGreatDoor.Co
open Go Go.Evl
set_option maxRecDepth 100000
theorem fit_str {k : Nat} {ds : List D} (h : fit Tryz.prog (k + 1) 9 ds) : ∃ s, ds = [.str s] := by
 obtain ⟨s, rfl, _⟩ := fit_s Tryz.underlying9 h
 exact ⟨s, rfl⟩
theorem fit_Period {k : Nat} {ds : List D} (h : fit Tryz.prog (k + 2) 46 ds) : ∃ f t d, ds = [DI f, DI t, DI d] := by
 obtain ⟨_, _, rfl, h1, _, _, rfl, h2, _, _, rfl, h3, rfl⟩ := fit_st Tryz.underlying46 h
 obtain ⟨f, rfl, _⟩ := fit_int h1
 obtain ⟨t, rfl, _⟩ := fit_int h2
 obtain ⟨d, rfl, _⟩ := fit_int h3
 exact ⟨f, t, d, rfl⟩
theorem fit_Request {k : Nat} {ds : List D} (h : fit Tryz.prog (k + 3) 48 ds) : ∃ q : Rqt, ds = q.cells := by
 obtain ⟨_, _, rfl, h1, _, _, rfl, h2, _, _, rfl, h3, _, _, rfl, h4, _, _, rfl, h5, _, _, rfl, h6, _, _, rfl, h7, _, _, rfl, h8, _, _, rfl, h9, _, _, rfl, h10, _, _, rfl, h11, rfl⟩ := fit_st Tryz.underlying48 h
 obtain ⟨s1, rfl⟩ := fit_str h1
 obtain ⟨s2, rfl⟩ := fit_str h2
 obtain ⟨s3, rfl⟩ := fit_str h3
 obtain ⟨s4, rfl⟩ := fit_str h4
 obtain ⟨s5, rfl⟩ := fit_str h5
 obtain ⟨s6, rfl⟩ := fit_str h6
 obtain ⟨f, t, d, rfl⟩ := fit_Period h7
 obtain ⟨a, rfl, _⟩ := fit_int h8
 obtain ⟨b, rfl, _⟩ := fit_int h9
 obtain ⟨c, rfl, _⟩ := fit_int h10
 obtain ⟨e, rfl, _⟩ := fit_int h11
 exact ⟨⟨s1, s2, s3, s4, s5, s6, f, t, d, a, b, c, e⟩, rfl⟩
end Go.Proofs.YtlnlcdnpgjhaaabGreatDoor.Co
/-
 Texts of masks: printed (all 128, computed by the kernel) and read.
-/
namespace Go.Proofs.YtlnlcdnpgjhaaabGreatDoor.Co
open Go Go.Evl
end Go.Proofs.YtlnlcdnpgjhaaabGreatDoor.Co
/-
 The parts of a text between the places of one byte: strings.Split's, told by recursion.
-/
namespace Go.Evl
open Go Go.Lib
end Go.Evl
/-
 Messages: the words of a line, and how the reference prints them.
-/
namespace Go.Proofs.YtlnlcdnpgjhaaabGreatDoor.Co
open Go Go.Evl
theorem firstI_zero : ∀ l : List Int, firstI l = 0 ↔ ∀ x ∈ l, x = 0
 | [] => by simp [firstI]
 | x :: r => by
  simp only [firstI, List.mem_cons, forall_eq_or_imp]
  split
  ·rename_i h; rw [firstI_zero r]; exact ⟨fun hr => ⟨h, hr⟩, fun hr => hr.2⟩
  ·rename_i h; exact ⟨fun hr => absurd hr h, fun hr => absurd hr.1 h⟩
end Go.Proofs.YtlnlcdnpgjhaaabGreatDoor.Co
/-
 Rows of records; the first of errors.
-/
namespace Go.Proofs.YtlnlcdnpgjhaaabGreatDoor.Co
open Go Go.Evl
theorem flatR_length {α : Type} (cell : α → List D) (w : Nat) (hw : ∀ a, (cell a).length = w) : ∀ l : List α, (l.flatMap cell).length = l.length * w
 | [] => by simp
 | c :: r => by rw [List.flatMap_cons, List.length_append, hw, flatR_length cell w hw r, List.length_cons, Nat.succ_mul]; omega
theorem flatR_drop {α : Type} (cell : α → List D) (w : Nat) (hw : ∀ a, (cell a).length = w) : ∀ (l : List α) (k : Nat), (l.flatMap cell).drop (k * w) = (l.drop k).flatMap cell
 | l, 0 => by simp
 | [], k + 1 => by simp
 | c :: r, k + 1 => by
  rw [List.flatMap_cons, List.drop_succ_cons, ← flatR_drop cell w hw r k, Nat.succ_mul, Nat.add_comm, ← List.drop_drop]
  congr 1
  rw [List.drop_append_of_le_length (by rw [hw]; exact Nat.le_refl _), List.drop_of_length_le (by rw [hw]; exact Nat.le_refl _)]
  rfl
theorem flatR_win {α : Type} (cell : α → List D) (w : Nat) (hw : ∀ a, (cell a).length = w) (l : List α) (k : Nat) (h : k < l.length) : win (l.flatMap cell) (k * w) w = cell l[k] := by
 unfold win
 rw [flatR_drop cell w hw, List.drop_eq_getElem_cons h, List.flatMap_cons, List.take_append_of_le_length (by rw [hw]; exact Nat.le_refl _), List.take_of_length_le (by rw [hw]; exact Nat.le_refl _)]
theorem flatR_get {α : Type} (cell : α → List D) (w : Nat) (hw : ∀ a, (cell a).length = w) (l : List α) (k j : Nat) (h : k < l.length) (hj : j < w) : (l.flatMap cell)[k * w + j]? = (cell l[k])[j]? := by
 rw [← List.getElem?_drop, flatR_drop cell w hw, List.drop_eq_getElem_cons h, List.flatMap_cons, List.getElem?_append_left (by rw [hw]; exact hj)]
theorem flatR_take {α : Type} (cell : α → List D) (l : List α) (k : Nat) (h : k < l.length) : (l.take (k + 1)).flatMap cell = (l.take k).flatMap cell ++ cell l[k] := by
 rw [List.take_add_one, List.flatMap_append, List.getElem?_eq_getElem h]
 simp
theorem PickW.rec {α : Type} {cell : α → List D} {w : Nat} (hw : ∀ a, (cell a).length = w) {l : List α} {i : Int} {K : List D → Prop} (k : Nat) (hi : i = k) (h : k < l.length) (hk : K (cell l[k])) : PickW (l.flatMap cell) (i.toNat * w) w K := by
 subst hi
 rw [Int.toNat_natCast]
 have h1 := flatR_length cell w hw l
 refine ⟨?_, by rw [flatR_win cell w hw l k h]; exact hk⟩
 have h2 : (k + 1) * w ≤ l.length * w := Nat.mul_le_mul_right _ h
 rw [Nat.succ_mul] at h2
 omega
theorem PickW.rec0 {α : Type} {cell : α → List D} {w : Nat} (hw : ∀ a, (cell a).length = w) {l : List α} {i : Int} {K : List D → Prop} (k : Nat) (hi : i = k) (h : k < l.length) (hk : K (cell l[k])) : PickW (l.flatMap cell) ((0 + i.toNat) * w) w K := by
 rw [Nat.zero_add]; exact PickW.rec hw k hi h hk
theorem Pick.rec {α : Type} {cell : α → List D} {w : Nat} (hw : ∀ a, (cell a).length = w) {l : List α} {i : Int} {j : Nat} {K : D → Prop} {d : D} (k : Nat) (hi : i = k) (h : k < l.length) (hj : (cell l[k])[j]? = some d) (hk : K d) : Pick (l.flatMap cell) (i.toNat * w + j) K := by
 subst hi
 rw [Int.toNat_natCast]
 have hlt : j < w := by
  have := (List.getElem?_eq_some_iff.1 hj).1
  rwa [hw] at this
 exact ⟨⟨d, by rw [flatR_get cell w hw l k j h hlt]; exact hj, hk⟩⟩
theorem Pick.rec0 {α : Type} {cell : α → List D} {w : Nat} (hw : ∀ a, (cell a).length = w) {l : List α} {i : Int} {j : Nat} {K : D → Prop} {d : D} (k : Nat) (hi : i = k) (h : k < l.length) (hj : (cell l[k])[j]? = some d) (hk : K d) : Pick (l.flatMap cell) ((0 + i.toNat) * w + j) K := by
 rw [Nat.zero_add]; exact Pick.rec hw k hi h hj hk
end Go.Proofs.YtlnlcdnpgjhaaabGreatDoor.Co
/-
 Requests checked together, by the program and by the reference; the place of a name.
-/
namespace Go.Proofs.YtlnlcdnpgjhaaabGreatDoor.Co
open Go Go.Evl
set_option maxRecDepth 100000
abbrev LQ (l : List Rqt) : V := .d (.list l.length (l.flatMap Rqt.cells))
def nmsQ (l : List Rqt) : List (List UInt8) := l.map (·.nm)
theorem nmsQ_succ {l : List Rqt} {k : Nat} (h : k < l.length) : nmsQ (l.take (k + 1)) = nmsQ (l.take k) ++ [l[k].nm] := by
 unfold nmsQ
 rw [List.take_add_one, List.getElem?_eq_getElem h, List.map_append]
 rfl
def chkRqG (seen : List (List UInt8)) : List Rqt → Int
 | [] => 0
 | x :: r => if firstI [chkRq x, if x.nm ∈ seen then 9 else 0] = 0 then chkRqG (seen ++ [x.nm]) r else firstI [chkRq x, if x.nm ∈ seen then 9 else 0]
def chkRqs (l : List Rqt) : Int := if 64 < l.length then 5 else chkRqG [] l
theorem chkRqG_zero : ∀ (l : List Rqt) (seen : List (List UInt8)), chkRqG seen l = 0 → (nmsQ l).Nodup ∧ (∀ s ∈ nmsQ l, s ∉ seen) ∧ ∀ x ∈ l, chkRq x = 0
 | [], _, _ => by simp [nmsQ]
 | x :: r, seen, h => by
  rw [chkRqG] at h
  by_cases hz : firstI [chkRq x, if x.nm ∈ seen then 9 else 0] = 0
  ·rw [if_pos hz] at h
   rw [firstI_zero] at hz
   have h1 := hz _ (List.mem_cons_self ..)
   have h2 := hz (if x.nm ∈ seen then 9 else 0) (by simp)
   have h2 : x.nm ∉ seen := fun hm => by rw [if_pos hm] at h2; cases h2
   obtain ⟨a, b, c⟩ := chkRqG_zero r _ h
   refine ⟨?_, ?_, ?_⟩
   ·show (x.nm :: nmsQ r).Nodup
    refine List.nodup_cons.2 ⟨fun hm => ?_, a⟩
    exact b _ hm (by simp)
   ·intro s hs
    rcases List.mem_cons.1 hs with rfl | hs
    ·exact h2
    ·exact fun hm => b s hs (by simp [hm])
   ·intro y hy
    rcases List.mem_cons.1 hy with rfl | hy
    ·exact h1
    ·exact c y hy
  ·rw [if_neg hz] at h
   exact absurd h hz
theorem chkRqs_zero {l : List Rqt} (h : chkRqs l = 0) : l.length ≤ 64 ∧ (nmsQ l).Nodup ∧ ∀ x ∈ l, chkRq x = 0 := by
 unfold chkRqs at h
 split at h
 ·cases h
 ·obtain ⟨a, _, c⟩ := chkRqG_zero _ _ h
  exact ⟨by omega, a, c⟩
def atG (s : List UInt8) : Nat → List Rqt → Int
 | _, [] => -1
 | i, x :: r => if x.nm = s then (i : Int) else atG s (i + 1) r
theorem atG_spec (s : List UInt8) : ∀ (l : List Rqt) (i : Nat), (atG s i l = -1 ∧ s ∉ nmsQ l) ∨ ∃ (k : Nat) (h : k < l.length), atG s i l = ((i + k : Nat) : Int) ∧ l[k].nm = s ∧ ∀ (j : Nat) (hj : j < k), ¬ (l[j]'(Nat.lt_trans hj h)).nm = s
 | [], i => .inl ⟨rfl, by simp [nmsQ]⟩
 | x :: r, i => by
  rw [atG]
  by_cases hx : x.nm = s
  ·rw [if_pos hx]
   exact .inr ⟨0, by simp, rfl, hx, fun j hj => absurd hj (Nat.not_lt_zero _)⟩
  ·rw [if_neg hx]
   rcases atG_spec s r (i + 1) with ⟨h1, h2⟩ | ⟨k, h, h1, h2, h3⟩
   ·exact .inl ⟨h1, fun hm => (List.mem_cons.1 hm).elim (fun e => hx e.symm) h2⟩
   ·refine .inr ⟨k + 1, by simpa using h, by rw [h1]; congr 1; omega, by simpa using h2, fun j hj => ?_⟩
    cases j with
    | zero => simpa using hx
    | succ j => simpa using h3 j (by omega)
section
variable {E : Oracle} (g : Good E)
include g
set_option maxHeartbeats 4000000 in
theorem s_checkRequests (l : List Rqt) (hl : l.length ≤ 1000000) : Fc E n_message_checkRequests [LQ l] (I (chkRqs l)) := by
 refine g.fn code_message_checkRequests rfl ?_
 unfold chkRqs
 by_cases hn : 64 < l.length
 ·rw [if_pos hn]
  repeat' ((conv => whnf); first
  | refine Ya ?_ | refine Yb ?_ | refine Yc ?_ | refine Yd ?_ | refine Ye ?_ | refine Yf ?_ | refine Yg ?_ | refine Yh ?_ | refine Yi rfl ?_ | refine Yj rfl ?_ | refine Yk rfl ?_ | refine Yl rfl ?_
   | (refine Ret.mk rfl))
 ·rw [if_neg hn]
  generalize hR : chkRqG [] l = R
  repeat' ((conv => whnf); first
  | refine Ya ?_ | refine Yb ?_ | refine Yc ?_ | refine Yd ?_ | refine Ye ?_ | refine Yf ?_ | refine Yg ?_ | refine Yh ?_ | refine Yi rfl ?_ | refine Yj rfl ?_ | refine Yk rfl ?_ | refine Yl rfl ?_)
  refine LoopW.to (LoopW.upP g (fun k => [(3, .mp ⟨0, 10, 0⟩), (11, LQ l), (12, I l.length), (13, I k)]) (fun k => [(⟨0, 10, 0⟩, .map (keysL (nmsQ (l.take k))))]) (fun k => chkRqG (nmsQ (l.take k)) (l.drop k) = R) l.length (fun k hk h0 ih => ?_) 0 (Nat.zero_le _) hR) rfl rfl
  by_cases hlt : k < l.length
  ·rw [List.drop_eq_getElem_cons hlt, chkRqG, ← nmsQ_succ hlt] at h0
   have ih := ih hlt
   have hf := find_keys l[k].nm (nmsQ (l.take k))
   have hc := s_CheckRequest g l[k]
   by_cases hd : l[k].nm ∈ nmsQ (l.take k)
   ·rw [if_pos hd] at hf h0
    have hz : ¬ firstI [chkRq l[k], 9] = 0 := fun h => by
     have := (firstI_zero _).1 h 9 (by simp)
     cases this
    rw [if_neg hz] at h0
    rw [← h0]
    repeat' ((conv => whnf); first
    | refine Ya ?_ | refine Yb ?_ | refine Yc ?_ | refine Yd ?_ | refine Ye ?_ | refine Yf ?_ | refine Yg ?_ | refine Yh ?_ | refine Yi rfl ?_ | refine Yj rfl ?_ | refine Yk rfl ?_ | refine Yl rfl ?_
     | (refine PickW.rec Rqt.cells_length k rfl hlt ?_)
     | (refine Find.mk ⟨_, hf, ?_⟩)
     | (refine CallI.of hc ?_)
     | (refine CallI.of (s_mwhen g _ _) ?_)
     | (refine CallI.of (s_mfirst2 g _ _) ?_)
     | (refine Cmp.ff hz ?_)
     | (refine Ret.mk rfl))
   ·rw [if_neg hd] at hf h0
    by_cases hz : firstI [chkRq l[k], 0] = 0
    ·rw [if_pos hz] at h0
     have ih := ih h0
     have hs := set_keys l[k].nm (nmsQ (l.take k)) hd
     rw [← nmsQ_succ hlt] at hs
     repeat' ((conv => whnf); first
     | refine Ya ?_ | refine Yb ?_ | refine Yc ?_ | refine Yd ?_ | refine Ye ?_ | refine Yf ?_ | refine Yg ?_ | refine Yh ?_ | refine Yi rfl ?_ | refine Yj rfl ?_ | refine Yk rfl ?_ | refine Yl rfl ?_
      | (refine PickW.rec Rqt.cells_length k rfl hlt ?_)
      | (refine Find.mk ⟨_, hf, ?_⟩)
      | (refine SetW.mk ⟨_, hs, ?_⟩)
      | (refine CallI.of hc ?_)
      | (refine CallI.of (s_mwhen g _ _) ?_)
      | (refine CallI.of (s_mfirst2 g _ _) ?_)
      | (refine Cmp.tt hz ?_)
      | (simp only [Evl.idsAll, Evl.idsO, ids_keys, List.nil_append])
      | (refine LoopW.to ih rfl rfl))
    ·rw [if_neg hz] at h0
     rw [← h0]
     repeat' ((conv => whnf); first
     | refine Ya ?_ | refine Yb ?_ | refine Yc ?_ | refine Yd ?_ | refine Ye ?_ | refine Yf ?_ | refine Yg ?_ | refine Yh ?_ | refine Yi rfl ?_ | refine Yj rfl ?_ | refine Yk rfl ?_ | refine Yl rfl ?_
      | (refine PickW.rec Rqt.cells_length k rfl hlt ?_)
      | (refine Find.mk ⟨_, hf, ?_⟩)
      | (refine CallI.of hc ?_)
      | (refine CallI.of (s_mwhen g _ _) ?_)
      | (refine CallI.of (s_mfirst2 g _ _) ?_)
      | (refine Cmp.ff hz ?_)
      | (refine Ret.mk rfl))
  ·rw [List.drop_eq_nil_of_le (by omega), chkRqG] at h0
   rw [← h0]
   repeat' ((conv => whnf); first
   | refine Ya ?_ | refine Yb ?_ | refine Yc ?_ | refine Yd ?_ | refine Ye ?_ | refine Yf ?_ | refine Yg ?_ | refine Yh ?_ | refine Yi rfl ?_ | refine Yj rfl ?_ | refine Yk rfl ?_ | refine Yl rfl ?_
    | (refine Ret.mk rfl))
theorem r_At (l : List Rqt) (s : List UInt8) (hl : l.length ≤ 1000000) : Fc E n_ref02_At [LQ l, S s] (I (atG s 0 l)) := by
 refine g.fn code_ref02_At rfl ?_
 generalize hR : atG s 0 l = R
 repeat' ((conv => whnf); first
 | refine Ya ?_ | refine Yb ?_ | refine Yc ?_ | refine Yd ?_ | refine Ye ?_ | refine Yf ?_ | refine Yg ?_ | refine Yh ?_ | refine Yi rfl ?_ | refine Yj rfl ?_ | refine Yk rfl ?_ | refine Yl rfl ?_)
 refine LoopW.to (LoopW.upP g (fun k => [(0, LQ l), (1, S s), (5, I k)]) (fun _ => []) (fun k => atG s k (l.drop k) = R) l.length (fun k hk h0 ih => ?_) 0 (Nat.zero_le _) hR) rfl rfl
 by_cases hlt : k < l.length
 ·rw [List.drop_eq_getElem_cons hlt, atG] at h0
  have ih := ih hlt
  by_cases hd : l[k].nm = s
  ·rw [if_pos hd] at h0
   rw [← h0]
   repeat' ((conv => whnf); first
   | refine Ya ?_ | refine Yb ?_ | refine Yc ?_ | refine Yd ?_ | refine Ye ?_ | refine Yf ?_ | refine Yg ?_ | refine Yh ?_ | refine Yi rfl ?_ | refine Yj rfl ?_ | refine Yk rfl ?_ | refine Yl rfl ?_
    | (refine Pick.rec Rqt.cells_length k rfl hlt rfl ?_)
    | (refine Cmp.tt hd ?_)
    | (refine Ret.mk rfl))
  ·rw [if_neg hd] at h0
   have ih := ih h0
   repeat' ((conv => whnf); first
   | refine Ya ?_ | refine Yb ?_ | refine Yc ?_ | refine Yd ?_ | refine Ye ?_ | refine Yf ?_ | refine Yg ?_ | refine Yh ?_ | refine Yi rfl ?_ | refine Yj rfl ?_ | refine Yk rfl ?_ | refine Yl rfl ?_
    | (refine Pick.rec Rqt.cells_length k rfl hlt rfl ?_)
    | (refine Cmp.ff hd ?_)
    | (refine LoopW.to ih rfl rfl))
 ·rw [List.drop_eq_nil_of_le (by omega), atG] at h0
  rw [← h0]
  repeat' ((conv => whnf); first
  | refine Ya ?_ | refine Yb ?_ | refine Yc ?_ | refine Yd ?_ | refine Ye ?_ | refine Yf ?_ | refine Yg ?_ | refine Yh ?_ | refine Yi rfl ?_ | refine Yj rfl ?_ | refine Yk rfl ?_ | refine Yl rfl ?_
   | (refine Ret.mk rfl))
omit g in
theorem win_take (l : List Rqt) (k : Nat) (h : k ≤ l.length) : win (l.flatMap Rqt.cells) 0 (k * 13) = (l.take k).flatMap Rqt.cells := by
 unfold win
 rw [List.drop_zero]
 have e : l.flatMap Rqt.cells = (l.take k).flatMap Rqt.cells ++ (l.drop k).flatMap Rqt.cells := by rw [← List.flatMap_append, List.take_append_drop]
 have hn := flatR_length Rqt.cells 13 Rqt.cells_length (l.take k)
 rw [List.length_take, Nat.min_eq_left h] at hn
 rw [e, List.take_append_of_le_length (by omega), List.take_of_length_le (by omega)]
set_option maxHeartbeats 4000000 in
theorem r_CheckRequests (l : List Rqt) (hl : l.length ≤ 1000000) : Fc E n_ref02_CheckRequests [LQ l] (I (chkRqs l)) := by
 refine g.fn code_ref02_CheckRequests rfl ?_
 unfold chkRqs
 by_cases hn : 64 < l.length
 ·rw [if_pos hn]
  repeat' ((conv => whnf); first
  | refine Ya ?_ | refine Yb ?_ | refine Yc ?_ | refine Yd ?_ | refine Ye ?_ | refine Yf ?_ | refine Yg ?_ | refine Yh ?_ | refine Yi rfl ?_ | refine Yj rfl ?_ | refine Yk rfl ?_ | refine Yl rfl ?_
   | (refine Ret.mk rfl))
 ·rw [if_neg hn]
  generalize hR : chkRqG [] l = R
  repeat' ((conv => whnf); first
  | refine Ya ?_ | refine Yb ?_ | refine Yc ?_ | refine Yd ?_ | refine Ye ?_ | refine Yf ?_ | refine Yg ?_ | refine Yh ?_ | refine Yi rfl ?_ | refine Yj rfl ?_ | refine Yk rfl ?_ | refine Yl rfl ?_)
  refine LoopW.to (LoopW.upP g (fun k => [(0, LQ l), (3, I k)]) (fun _ => []) (fun k => chkRqG (nmsQ (l.take k)) (l.drop k) = R) l.length (fun k hk h0 ih => ?_) 0 (Nat.zero_le _) hR) rfl rfl
  by_cases hlt : k < l.length
  ·rw [List.drop_eq_getElem_cons hlt, chkRqG, ← nmsQ_succ hlt] at h0
   have ih := ih hlt
   have hc := r_CheckRequest g l[k]
   by_cases hz : chkRq l[k] = 0
   ·rw [hz] at hc h0
    have ha := r_At g (l.take k) l[k].nm (by simp; omega)
    have ht : V.d (.list (k - 0) (win (l.flatMap Rqt.cells) (0 * 13) ((k - 0) * 13))) = LQ (l.take k) := by
     rw [Nat.zero_mul, Nat.sub_zero, win_take l k (by omega), LQ, List.length_take, Nat.min_eq_left (by omega)]
    rcases atG_spec l[k].nm (l.take k) 0 with ⟨h1, h2⟩ | ⟨j, hj, h1, h2, _⟩
    ·rw [if_neg h2, if_pos (by decide)] at h0
     have ih := ih h0
     rw [h1] at ha
     repeat' ((conv => whnf); first
     | refine Ya ?_ | refine Yb ?_ | refine Yc ?_ | refine Yd ?_ | refine Ye ?_ | refine Yf ?_ | refine Yg ?_ | refine Yh ?_ | refine Yi rfl ?_ | refine Yj rfl ?_ | refine Yk rfl ?_ | refine Yl rfl ?_
      | (refine PickW.rec Rqt.cells_length k rfl hlt ?_)
      | (refine Pick.rec Rqt.cells_length k rfl hlt rfl ?_)
      | (refine CallI.of hc ?_)
      | (refine CallI.of ha ?_)
      | (refine Bounds.at 0 k rfl rfl (by omega) ?_ <;> (try rw [ht]))
      | (refine LoopW.to ih rfl rfl))
    ·have hm : l[k].nm ∈ nmsQ (l.take k) := by
      unfold nmsQ
      rw [List.mem_map]
      exact ⟨_, List.getElem_mem hj, h2⟩
     rw [if_pos hm, if_neg (by decide)] at h0
     rw [← h0]
     rw [h1] at ha
     repeat' ((conv => whnf); first
     | refine Ya ?_ | refine Yb ?_ | refine Yc ?_ | refine Yd ?_ | refine Ye ?_ | refine Yf ?_ | refine Yg ?_ | refine Yh ?_ | refine Yi rfl ?_ | refine Yj rfl ?_ | refine Yk rfl ?_ | refine Yl rfl ?_
      | (refine PickW.rec Rqt.cells_length k rfl hlt ?_)
      | (refine Pick.rec Rqt.cells_length k rfl hlt rfl ?_)
      | (refine CallI.of hc ?_)
      | (refine CallI.of ha ?_)
      | (refine Bounds.at 0 k rfl rfl (by omega) ?_ <;> (try rw [ht]))
      | (refine Ret.mk rfl))
   ·have e : ∀ x, firstI [chkRq l[k], x] = chkRq l[k] := fun x => by simp [firstI, hz]
    rw [e, if_neg hz] at h0
    rw [← h0]
    repeat' ((conv => whnf); first
    | refine Ya ?_ | refine Yb ?_ | refine Yc ?_ | refine Yd ?_ | refine Ye ?_ | refine Yf ?_ | refine Yg ?_ | refine Yh ?_ | refine Yi rfl ?_ | refine Yj rfl ?_ | refine Yk rfl ?_ | refine Yl rfl ?_
     | (refine PickW.rec Rqt.cells_length k rfl hlt ?_)
     | (refine CallI.of hc ?_)
     | (refine Cmp.ff hz ?_)
     | (refine Ret.mk rfl))
  ·rw [List.drop_eq_nil_of_le (by omega), chkRqG] at h0
   rw [← h0]
   repeat' ((conv => whnf); first
   | refine Ya ?_ | refine Yb ?_ | refine Yc ?_ | refine Yd ?_ | refine Ye ?_ | refine Yf ?_ | refine Yg ?_ | refine Yh ?_ | refine Yi rfl ?_ | refine Yj rfl ?_ | refine Yk rfl ?_ | refine Yl rfl ?_
    | (refine Ret.mk rfl))
theorem w_copied (l : List Rqt) (hl : l.length ≤ 1000000) : Fc E n_law02_copied [LQ l] (LQ l) := by
 refine g.fn code_law02_copied rfl ?_
 repeat' ((conv => whnf); first
 | refine Ya ?_ | refine Yb ?_ | refine Yc ?_ | refine Yd ?_ | refine Ye ?_ | refine Yf ?_ | refine Yg ?_ | refine Yh ?_ | refine Yi rfl ?_ | refine Yj rfl ?_ | refine Yk rfl ?_ | refine Yl rfl ?_
  | (refine Need.mk ⟨rfl, rfl, rfl, rfl, rfl, flatR_length Rqt.cells 13 Rqt.cells_length l, by show (0 + l.length) * 152 ≤ _; omega, by omega⟩ ?_)
  | (refine Ret.mk ?_))
 rw [Nat.zero_add, List.nil_append]
 exact congrArg (fun x => V.d (.list l.length x)) (if_pos ⟨rfl, rfl⟩)
end
end Go.Proofs.YtlnlcdnpgjhaaabGreatDoor.Co
/-
 Messages: seasons, heads, and the lines of a message, checked.
-/
namespace Go.Proofs.YtlnlcdnpgjhaaabGreatDoor.Co
open Go Go.Evl
def seasB (s : List UInt8) : Bool := decide (s.length = 5 ∧ ((s.getD 0 0).toNat = 83 ∨ (s.getD 0 0).toNat = 87)) && numB (win s 1 (s.length - 1)) 4
def headE (ai se : List UInt8) (da : Int) : Int := firstI [nmE ai, if (!seasB se) = true then 1 else 0, rng da 0 99999]
def msgB (s : List UInt8) : Bool := decide (s = REQ) || decide (s = ANS)
section
variable {E : Oracle} (g : Good E)
include g
set_option maxRecDepth 100000
set_option maxHeartbeats 4000000 in
theorem s_isSeason (s : List UInt8) : Fc E n_message_isSeason [S s] (B (seasB s)) := by
 refine g.fn code_message_isSeason rfl ?_
 unfold seasB
 by_cases h0 : s.length = 5 ∧ ((s.getD 0 0).toNat = 83 ∨ (s.getD 0 0).toNat = 87)
 ·rw [decide_eq_true h0, Bool.true_and]
  obtain ⟨hl, hc⟩ := h0
  have hb := toNat_u8 (s.getD 0 0)
  have hwl : (win s 1 (s.length - 1)).length = 4 := by simp [win, hl]
  repeat' ((conv => whnf); first
  | refine Ya ?_ | refine Yb ?_ | refine Yc ?_ | refine Yd ?_ | refine Ye ?_ | refine Yf ?_ | refine Yg ?_ | refine Yh ?_ | refine Yi rfl ?_ | refine Yj rfl ?_ | refine Yk rfl ?_ | refine Yl rfl ?_
   | (refine PickB.at 0 (by decide) (by omega) ?_)
   | (refine Bounds.mk (by omega) ?_)
   | (refine Cmp.mk (fun h => ?_) (fun h => ?_)) | (refine Rem.any (by omega) (fun r hr he => ?_)) | (refine Br.mk (fun h => ?_) (fun h => ?_))
   | (exfalso; omega))
  all_goals
   change LoopW E _ _ _ _ [(20, .it ⟨0, 20, 0⟩)] [(⟨0, 20, 0⟩, .iter (win s 1 (s.length - 1)) 0)] _
   generalize win s 1 (s.length - 1) = t at *
   refine LoopW.to (LoopW.upP g (fun _ => [(20, .it ⟨0, 20, 0⟩)]) (fun k => [(⟨0, 20, 0⟩, .iter t k)]) (fun k => ∀ i, i < k → dg (t.getD i 0)) t.length (fun k hk hp ih => ?_) 0 (Nat.zero_le _) (fun i hi => by omega)) rfl rfl
   by_cases hlt : k < t.length
   ·by_cases ha : (t.getD k 0).toNat < 128
    ·by_cases hok : dg (t.getD k 0)
     ·have ih := ih hlt fun i hi => by
       by_cases e : i = k
       ·subst e; exact hok
       ·exact hp i (by omega)
      unfold dg at hok
      repeat' ((conv => whnf); first
      | refine Ya ?_ | refine Yb ?_ | refine Yc ?_ | refine Yd ?_ | refine Ye ?_ | refine Yf ?_ | refine Yg ?_ | refine Yh ?_ | refine Yi rfl ?_ | refine Yj rfl ?_ | refine Yk rfl ?_ | refine Yl rfl ?_
       | (refine NextW.asc hlt ha ?_)
       | (refine Cmp.mk (fun h => ?_) (fun h => ?_)) | (refine Rem.any (by omega) (fun r hr he => ?_)) | (refine Br.mk (fun h => ?_) (fun h => ?_))
       | (refine LoopW.to ih rfl rfl)
       | (exfalso; omega))
     ·rw [numB_dig (w := 4) hlt hok]
      unfold dg at hok
      repeat' ((conv => whnf); first
      | refine Ya ?_ | refine Yb ?_ | refine Yc ?_ | refine Yd ?_ | refine Ye ?_ | refine Yf ?_ | refine Yg ?_ | refine Yh ?_ | refine Yi rfl ?_ | refine Yj rfl ?_ | refine Yk rfl ?_ | refine Yl rfl ?_
       | (refine NextW.asc hlt ha ?_)
       | (refine Cmp.mk (fun h => ?_) (fun h => ?_)) | (refine Rem.any (by omega) (fun r hr he => ?_)) | (refine Br.mk (fun h => ?_) (fun h => ?_))
       | (refine Ret.mk rfl)
       | (exfalso; omega))
    ·rw [numB_dig (w := 4) hlt (by unfold dg; omega)]
     repeat' ((conv => whnf); first
     | refine Ya ?_ | refine Yb ?_ | refine Yc ?_ | refine Yd ?_ | refine Ye ?_ | refine Yf ?_ | refine Yg ?_ | refine Yh ?_ | refine Yi rfl ?_ | refine Yj rfl ?_ | refine Yk rfl ?_ | refine Yl rfl ?_
      | (refine NextW.high hlt (by omega) (fun c w hc hw => ?_))
      | (refine Cmp.mk (fun h => ?_) (fun h => ?_)) | (refine Rem.any (by omega) (fun r hr he => ?_)) | (refine Br.mk (fun h => ?_) (fun h => ?_))
      | (refine Ret.mk rfl)
      | (exfalso; omega))
   ·have hk' : k = t.length := by omega
    subst hk'
    rw [numB_yes hwl hp]
    repeat' ((conv => whnf); first
    | refine Ya ?_ | refine Yb ?_ | refine Yc ?_ | refine Yd ?_ | refine Ye ?_ | refine Yf ?_ | refine Yg ?_ | refine Yh ?_ | refine Yi rfl ?_ | refine Yj rfl ?_ | refine Yk rfl ?_ | refine Yl rfl ?_
     | (refine NextW.end' (Nat.le_refl _) ?_)
     | (refine Ret.mk rfl))
 ·rw [decide_eq_false h0, Bool.false_and]
  by_cases hl : s.length = 5
  ·have hb := toNat_u8 (s.getD 0 0)
   have hc : (s.getD 0 0).toNat ≠ 83 ∧ (s.getD 0 0).toNat ≠ 87 := by omega
   clear h0
   repeat' ((conv => whnf); first
   | refine Ya ?_ | refine Yb ?_ | refine Yc ?_ | refine Yd ?_ | refine Ye ?_ | refine Yf ?_ | refine Yg ?_ | refine Yh ?_ | refine Yi rfl ?_ | refine Yj rfl ?_ | refine Yk rfl ?_ | refine Yl rfl ?_
    | (refine PickB.at 0 (by decide) (by omega) ?_)
    | (refine Ret.mk rfl))
  ·clear h0
   repeat' ((conv => whnf); first
   | refine Ya ?_ | refine Yb ?_ | refine Yc ?_ | refine Yd ?_ | refine Ye ?_ | refine Yf ?_ | refine Yg ?_ | refine Yh ?_ | refine Yi rfl ?_ | refine Yj rfl ?_ | refine Yk rfl ?_ | refine Yl rfl ?_
    | (refine Ret.mk rfl))
theorem s_checkHead (ai se : List UInt8) (da : Int) : Fc E n_message_checkHead [S ai, S se, I da] (I (headE ai se da)) := by
 refine g.fn code_message_checkHead rfl ?_
 have h1 := s_named g ai
 have h2 := s_isSeason g se
 have h3 := s_mwithin g da 0 99999
 repeat' ((conv => whnf); first
 | refine Ya ?_ | refine Yb ?_ | refine Yc ?_ | refine Yd ?_ | refine Ye ?_ | refine Yf ?_ | refine Yg ?_ | refine Yh ?_ | refine Yi rfl ?_ | refine Yj rfl ?_ | refine Yk rfl ?_ | refine Yl rfl ?_
  | (apply CallI.of; assumption)
  | (refine CallI.of (s_mwhen g _ _) ?_)
  | (refine CallI.of (s_mfirst3 g _ _ _) ?_)
  | (refine Ret.mk rfl))
theorem s_isMessage (s : List UInt8) : Fc E n_message_isMessage [S s] (B (msgB s)) := by
 refine g.fn code_message_isMessage rfl ?_
 unfold msgB
 by_cases he : s = REQ
 ·subst he
  repeat' ((conv => whnf); first
  | refine Ya ?_ | refine Yb ?_ | refine Yc ?_ | refine Yd ?_ | refine Ye ?_ | refine Yf ?_ | refine Yg ?_ | refine Yh ?_ | refine Yi rfl ?_ | refine Yj rfl ?_ | refine Yk rfl ?_ | refine Yl rfl ?_
   | (refine Ret.mk rfl))
 ·rw [decide_eq_false he]
  by_cases hd : s = ANS
  ·subst hd
   repeat' ((conv => whnf); first
   | refine Ya ?_ | refine Yb ?_ | refine Yc ?_ | refine Yd ?_ | refine Ye ?_ | refine Yf ?_ | refine Yg ?_ | refine Yh ?_ | refine Yi rfl ?_ | refine Yj rfl ?_ | refine Yk rfl ?_ | refine Yl rfl ?_
    | (refine Ret.mk rfl))
  ·rw [decide_eq_false hd]
   repeat' ((conv => whnf); first
   | refine Ya ?_ | refine Yb ?_ | refine Yc ?_ | refine Yd ?_ | refine Ye ?_ | refine Yf ?_ | refine Yg ?_ | refine Yh ?_ | refine Yi rfl ?_ | refine Yj rfl ?_ | refine Yk rfl ?_ | refine Yl rfl ?_
    | (refine Cmp.ff he ?_)
    | (refine Cmp.ff hd ?_)
    | (refine Ret.mk rfl))
end
end Go.Proofs.YtlnlcdnpgjhaaabGreatDoor.Co
/-
 Words without blanks, plain.
-/
namespace Go.Proofs.YtlnlcdnpgjhaaabGreatDoor.Co
open Go Go.Evl
end Go.Proofs.YtlnlcdnpgjhaaabGreatDoor.Co
/-
 Messages: the program's fields of a line, made by closures.
-/
namespace Go.Proofs.YtlnlcdnpgjhaaabGreatDoor.Co
open Go Go.Evl
section
variable {E : Oracle} (g : Good E)
include g
set_option maxRecDepth 100000
omit g in
theorem settle_ptr {cx : Cx} {slot lo : Nat} {old m : Mem} {o : Evl.Id} {a b : Nat} (h : o.lv < lo) : Go.Evl.settle cx slot lo old m (.ptr o a b) = some (.ptr o a b, old) := by
 have h1 : ¬ lo ≤ o.lv := by omega
 have hr : Go.Evl.reach lo m 64 (Go.Evl.ids (.ptr o a b)) [] = [] := by
  simp [Go.Evl.ids, Go.Evl.reach, h1]
 unfold Go.Evl.settle
 simp only [hr]
 rw [if_pos (by simp [Go.Evl.within, Go.Evl.movable, Go.Evl.onceB, Go.Evl.ids, h])]
 simp [Go.Evl.number, Go.Evl.ren, Go.Evl.subst, Go.Evl.moved]
omit g in
theorem Some'.ptr {cx : Cx} {slot lo : Nat} {old m : Mem} {o : Evl.Id} {a b : Nat} {K : V × Mem → Prop} (h : o.lv < lo) (k : K (.ptr o a b, old)) : Some' (Go.Evl.settle cx slot lo old m (.ptr o a b)) K := ⟨_, settle_ptr h, k⟩
end
end Go.Proofs.YtlnlcdnpgjhaaabGreatDoor.Co
/-
 Messages: the parts of a text between blanks.
-/
namespace Go.Proofs.YtlnlcdnpgjhaaabGreatDoor.Co
open Go Go.Evl
end Go.Proofs.YtlnlcdnpgjhaaabGreatDoor.Co
/-
 Messages: a line is read: what comes out.
-/
namespace Go.Proofs.YtlnlcdnpgjhaaabGreatDoor.Co
open Go Go.Evl
structure W14 where
 (a0 a1 a2 a3 a4 a5 a6 a7 a8 a9 a10 a11 a12 a13 : List UInt8)
def W14.list (w : W14) : List (List UInt8) := [w.a0, w.a1, w.a2, w.a3, w.a4, w.a5, w.a6, w.a7, w.a8, w.a9, w.a10, w.a11, w.a12, w.a13]
end Go.Proofs.YtlnlcdnpgjhaaabGreatDoor.Co
/-
 Plain laws: the lines of a text, each with its line feed.
-/
namespace Go.Proofs.YtlnlcdnpgjhaaabGreatDoor.Co
open Go Go.Evl
end Go.Proofs.YtlnlcdnpgjhaaabGreatDoor.Co
/-
 Plain laws: numbers, minutes, words and lines, printed and read: there and back.
-/
namespace Go.Proofs.YtlnlcdnpgjhaaabGreatDoor.Co
open Go Go.Evl
end Go.Proofs.YtlnlcdnpgjhaaabGreatDoor.Co
/-
 Messages: their check, their text and what a text says, in plain terms; there and back.
-/
namespace Go.Proofs.YtlnlcdnpgjhaaabGreatDoor.Co
open Go Go.Evl
abbrev LL (ls : List Lnt) : V := .d (.list ls.length (ls.flatMap Lnt.cells))
def twinB (a b : Rqt) : Bool := decide (a.ca = b.ca) && decide (a.nm = b.nm)
def openO : Option Lnt → Bool
 | some y => decide (y.ac = [67])
 | none => false
def twinO (x : Lnt) : Option Lnt → Bool
 | some y => twinB y.rq x.rq
 | none => false
def lnE (kind : List UInt8) (p : Option Lnt) (x : Lnt) : Int :=
 firstI [chkLn x, if actK x.ac = kind then 0 else 18, if (openO p || decide (x.ac = [82])) && !(openO p && decide (x.ac = [82]) && twinO x p) then 11 else 0]
def chkLs (kind : List UInt8) : Option Lnt → Nat → List Lnt → Nat × Int
 | p, i, [] => if openO p then (i - 1, 11) else (0, 0)
 | p, i, x :: r => if lnE kind p x = 0 then chkLs kind (some x) (i + 1) r else (i, lnE kind p x)
structure Mst where
 (ki ai se : List UInt8)
 da : Int
 ls : List Lnt
def Mst.cells (m : Mst) : List D := [.str m.ki, .str m.ai, .str m.se, DI m.da, .list m.ls.length (m.ls.flatMap Lnt.cells)]
abbrev Msv (m : Mst) : V := .d (.agg m.cells)
def zeroM : Mst := ⟨[], [], [], 0, []⟩
def chkMs (m : Mst) : Int := firstI [if (!msgB m.ki) = true then 13 else 0, headE m.ai m.se m.da, if 64 < m.ls.length then 5 else 0, (chkLs m.ki none 0 m.ls).2]
structure OkMs (m : Mst) : Prop where
 ki : msgB m.ki = true
 hd : headE m.ai m.se m.da = 0
 ln : m.ls.length ≤ 64
 ok : (chkLs m.ki none 0 m.ls).2 = 0
theorem chkMs_ok {m : Mst} : chkMs m = 0 ↔ OkMs m := by
 unfold chkMs
 rw [firstI_zero]
 simp only [List.mem_cons, List.not_mem_nil, or_false, forall_eq_or_imp, forall_eq]
 constructor
 ·rintro ⟨h1, h2, h3, h4⟩
  refine ⟨?_, h2, ?_, h4⟩
  ·cases hb : msgB m.ki with
   | true => rfl
   | false => rw [hb] at h1; simp at h1
  ·rcases Nat.lt_or_ge 64 m.ls.length with h | h
   ·rw [if_pos h] at h3; cases h3
   ·exact h
 ·rintro ⟨h1, h2, h3, h4⟩
  exact ⟨by rw [h1]; rfl, h2, if_neg (by omega), h4⟩
end Go.Proofs.YtlnlcdnpgjhaaabGreatDoor.Co
/-
 Messages: the lines of a message, checked by the program and by the reference.
-/
namespace Go.Proofs.YtlnlcdnpgjhaaabGreatDoor.Co
open Go Go.Evl
def prevO (ls : List Lnt) (k : Nat) : Option Lnt := if k = 0 then none else ls[k - 1]?
theorem prevO_succ {ls : List Lnt} {k : Nat} (h : k < ls.length) : prevO ls (k + 1) = some ls[k] := by simp [prevO, h]
theorem act_find (s : List UInt8) : ∃ r, findE (.str s) actM = some r ∧ outV (.str []) false r = S (actK s) := by
 rcases act_cases s with h | ⟨h, h1, h2⟩
 ·simp only [askL, repL, List.cons_append, List.nil_append, List.mem_cons, List.not_mem_nil, or_false] at h
  rcases h with rfl | rfl | rfl | rfl | rfl | rfl | rfl | rfl | rfl
  all_goals exact ⟨_, rfl, rfl⟩
 ·exact ⟨_, h, by unfold actK; rw [h1, h2]; rfl⟩
theorem PickW.part {α : Type} {cell : α → List D} {w : Nat} (hw : ∀ a, (cell a).length = w) {l : List α} {i : Int} {j n : Nat} {ds : List D} {K : List D → Prop} (k : Nat) (hi : i = k) (h : k < l.length) (hj : j + n ≤ w) (hd : win (cell l[k]) j n = ds) (hk : K ds) : PickW (l.flatMap cell) (i.toNat * w + j) n K := by
 subst hi
 rw [Int.toNat_natCast]
 have h1 := flatR_length cell w hw l
 have h2 : (k + 1) * w ≤ l.length * w := Nat.mul_le_mul_right _ h
 rw [Nat.succ_mul] at h2
 refine ⟨by omega, ?_⟩
 have e : win (l.flatMap cell) (k * w + j) n = ds := by
  rw [← hd]
  unfold win
  rw [← List.drop_drop, flatR_drop cell w hw, List.drop_eq_getElem_cons h, List.flatMap_cons, List.drop_append_of_le_length (by rw [hw]; omega), List.take_append_of_le_length (by rw [List.length_drop, hw]; omega)]
 rw [e]; exact hk
section
variable {E : Oracle} (g : Good E)
include g
set_option maxRecDepth 100000
theorem s_twins (a b : Rqt) : Fc E n_message_twins [Rqv a, Rqv b] (B (twinB a b)) := by
 refine g.fn code_message_twins rfl ?_
 unfold twinB
 by_cases h1 : a.ca = b.ca
 ·rw [decide_eq_true h1]
  by_cases h2 : a.nm = b.nm
  ·rw [decide_eq_true h2]
   repeat' ((conv => whnf); first
   | refine Ya ?_ | refine Yb ?_ | refine Yc ?_ | refine Yd ?_ | refine Ye ?_ | refine Yf ?_ | refine Yg ?_ | refine Yh ?_ | refine Yi rfl ?_ | refine Yj rfl ?_ | refine Yk rfl ?_ | refine Yl rfl ?_
    | (refine Cmp.tt h1 ?_)
    | (refine Cmp.tt h2 ?_)
    | (refine Ret.mk rfl))
  ·rw [decide_eq_false h2]
   repeat' ((conv => whnf); first
   | refine Ya ?_ | refine Yb ?_ | refine Yc ?_ | refine Yd ?_ | refine Ye ?_ | refine Yf ?_ | refine Yg ?_ | refine Yh ?_ | refine Yi rfl ?_ | refine Yj rfl ?_ | refine Yk rfl ?_ | refine Yl rfl ?_
    | (refine Cmp.tt h1 ?_)
    | (refine Cmp.ff h2 ?_)
    | (refine Ret.mk rfl))
 ·rw [decide_eq_false h1]
  repeat' ((conv => whnf); first
  | refine Ya ?_ | refine Yb ?_ | refine Yc ?_ | refine Yd ?_ | refine Ye ?_ | refine Yf ?_ | refine Yg ?_ | refine Yh ?_ | refine Yi rfl ?_ | refine Yj rfl ?_ | refine Yk rfl ?_ | refine Yl rfl ?_
   | (refine Cmp.ff h1 ?_)
   | (refine Ret.mk rfl))
set_option maxHeartbeats 16000000 in
theorem rnd_checkLines (kind : List UInt8) (ls : List Lnt) (k : Nat) (hlt : k < ls.length) {K : Ex → Env → Mem → Prop} {R : V} (hl : ls.length ≤ 1000000) (hK : ∀ e m, K .ret e m = resultsW m e [.tmp 4, .tmp 5] fun v => thawW m v fun d => Ret d R)
  (hF : lnE kind (prevO ls k) ls[k] ≠ 0 → .tup [I k, I (lnE kind (prevO ls k) ls[k])] = R)
  (ih : lnE kind (prevO ls k) ls[k] = 0 → LoopW E ⟨0, 1⟩ [0, 1, 12, 13, 14] [] b_message_checkLines_1 [(0, S kind), (1, LL ls), (12, LL ls), (13, I ls.length), (14, I (k + 1 : Nat))] [] K) :
  wpC E ⟨0, 1⟩ b_message_checkLines_1 [(0, S kind), (1, LL ls), (12, LL ls), (13, I ls.length), (14, I k)] [] (againK E ⟨0, 1⟩ [0, 1, 12, 13, 14] [] b_message_checkLines_1 K) := by
 have hcl := s_CheckLine g ls[k]
 obtain ⟨r, hf, hr⟩ := act_find ls[k].ac
 have fin : ∀ a b c, lnE kind (prevO ls k) ls[k] = firstI [a, b, c] → (firstI [a, b, c] = 0 → lnE kind (prevO ls k) ls[k] = 0) ∧ (firstI [a, b, c] ≠ 0 → .tup [I k, I (firstI [a, b, c])] = R) := by
  intro a b c h
  rw [← h]
  exact ⟨id, hF⟩
 by_cases hk : actK ls[k].ac = kind
 ·by_cases h0 : k = 0
  ·have hp : prevO ls k = none := if_pos h0
   by_cases hR : ls[k].ac = [82]
   ·have he : lnE kind (prevO ls k) ls[k] = firstI [chkLn ls[k], 0, 11] := by
     unfold lnE
     rw [hp, if_pos hk]
     simp [hR, openO, twinO]
    by_cases hz : lnE kind (prevO ls k) ls[k] = 0
    all_goals repeat' ((conv => whnf); first
    | refine Ya ?_ | refine Yb ?_ | refine Yc ?_ | refine Yd ?_ | refine Ye ?_ | refine Yf ?_ | refine Yg ?_ | refine Yh ?_ | refine Yi rfl ?_ | refine Yj rfl ?_ | refine Yk rfl ?_ | refine Yl rfl ?_
     | (refine PickW.rec Lnt.cells_length k rfl hlt ?_)
     | (refine CallI.of hcl ?_)
     | (refine CallS.actions g rfl ?_)
     | (refine Find.mk ⟨_, hf, ?_⟩ <;> (dsimp only; rw [hr]))
     | (refine Cmp.tt (by assumption) ?_)
     | (refine Cmp.ff (by assumption) ?_)
     | (refine CallI.of (s_mwhen g _ _) ?_)
     | (refine CallI.of (s_mfirst3 g _ _ _) ?_)
     | (refine Cmp.tt (he.symm.trans hz) ?_)
     | (refine Cmp.ff (fun h => hz (he.trans h)) ?_)
     | (refine LoopW.to (ih hz) rfl rfl)
     | (refine (hK _ _).mpr ?_)
     | (refine Ret.mk ((fin _ _ _ he).2 (fun h => hz (he.trans h)))))
   ·have he : lnE kind (prevO ls k) ls[k] = firstI [chkLn ls[k], 0, 0] := by
     unfold lnE
     rw [hp, if_pos hk]
     simp [hR, openO, twinO]
    by_cases hz : lnE kind (prevO ls k) ls[k] = 0
    all_goals repeat' ((conv => whnf); first
    | refine Ya ?_ | refine Yb ?_ | refine Yc ?_ | refine Yd ?_ | refine Ye ?_ | refine Yf ?_ | refine Yg ?_ | refine Yh ?_ | refine Yi rfl ?_ | refine Yj rfl ?_ | refine Yk rfl ?_ | refine Yl rfl ?_
     | (refine PickW.rec Lnt.cells_length k rfl hlt ?_)
     | (refine CallI.of hcl ?_)
     | (refine CallS.actions g rfl ?_)
     | (refine Find.mk ⟨_, hf, ?_⟩ <;> (dsimp only; rw [hr]))
     | (refine Cmp.tt (by assumption) ?_)
     | (refine Cmp.ff (by assumption) ?_)
     | (refine CallI.of (s_mwhen g _ _) ?_)
     | (refine CallI.of (s_mfirst3 g _ _ _) ?_)
     | (refine Cmp.tt (he.symm.trans hz) ?_)
     | (refine Cmp.ff (fun h => hz (he.trans h)) ?_)
     | (refine LoopW.to (ih hz) rfl rfl)
     | (refine (hK _ _).mpr ?_)
     | (refine Ret.mk ((fin _ _ _ he).2 (fun h => hz (he.trans h)))))
  ·have hlp : k - 1 < ls.length := by omega
   have hp : prevO ls k = some ls[k - 1] := by simp [prevO, h0, hlp]
   have ht := s_twins g ls[k - 1].rq ls[k].rq
   by_cases hC : ls[k - 1].ac = [67]
   ·by_cases hR : ls[k].ac = [82]
    ·cases htw : twinB ls[k - 1].rq ls[k].rq
     all_goals rw [htw] at ht
     ·have he : lnE kind (prevO ls k) ls[k] = firstI [chkLn ls[k], 0, 11] := by
       unfold lnE
       rw [hp, if_pos hk]
       simp [hR, hC, htw, openO, twinO]
      by_cases hz : lnE kind (prevO ls k) ls[k] = 0
      all_goals repeat' ((conv => whnf); first
      | refine Ya ?_ | refine Yb ?_ | refine Yc ?_ | refine Yd ?_ | refine Ye ?_ | refine Yf ?_ | refine Yg ?_ | refine Yh ?_ | refine Yi rfl ?_ | refine Yj rfl ?_ | refine Yk rfl ?_ | refine Yl rfl ?_
       | (refine PickW.rec Lnt.cells_length k rfl hlt ?_)
       | (refine CallI.of hcl ?_)
       | (refine CallS.actions g rfl ?_)
       | (refine Find.mk ⟨_, hf, ?_⟩ <;> (dsimp only; rw [hr]))
       | (refine Pick.rec Lnt.cells_length (k - 1) (by omega) hlp rfl ?_)
       | (refine PickW.part Lnt.cells_length (k - 1) (by omega) hlp (by decide) rfl ?_)
       | (refine CallI.of ht ?_)
       | (refine Cmp.tt (by assumption) ?_)
       | (refine Cmp.ff (by assumption) ?_)
       | (refine CallI.of (s_mwhen g _ _) ?_)
       | (refine CallI.of (s_mfirst3 g _ _ _) ?_)
       | (refine Cmp.tt (he.symm.trans hz) ?_)
       | (refine Cmp.ff (fun h => hz (he.trans h)) ?_)
       | (refine LoopW.to (ih hz) rfl rfl)
       | (refine (hK _ _).mpr ?_)
       | (refine Ret.mk ((fin _ _ _ he).2 (fun h => hz (he.trans h)))))
     ·have he : lnE kind (prevO ls k) ls[k] = firstI [chkLn ls[k], 0, 0] := by
       unfold lnE
       rw [hp, if_pos hk]
       simp [hR, hC, htw, openO, twinO]
      by_cases hz : lnE kind (prevO ls k) ls[k] = 0
      all_goals repeat' ((conv => whnf); first
      | refine Ya ?_ | refine Yb ?_ | refine Yc ?_ | refine Yd ?_ | refine Ye ?_ | refine Yf ?_ | refine Yg ?_ | refine Yh ?_ | refine Yi rfl ?_ | refine Yj rfl ?_ | refine Yk rfl ?_ | refine Yl rfl ?_
       | (refine PickW.rec Lnt.cells_length k rfl hlt ?_)
       | (refine CallI.of hcl ?_)
       | (refine CallS.actions g rfl ?_)
       | (refine Find.mk ⟨_, hf, ?_⟩ <;> (dsimp only; rw [hr]))
       | (refine Pick.rec Lnt.cells_length (k - 1) (by omega) hlp rfl ?_)
       | (refine PickW.part Lnt.cells_length (k - 1) (by omega) hlp (by decide) rfl ?_)
       | (refine CallI.of ht ?_)
       | (refine Cmp.tt (by assumption) ?_)
       | (refine Cmp.ff (by assumption) ?_)
       | (refine CallI.of (s_mwhen g _ _) ?_)
       | (refine CallI.of (s_mfirst3 g _ _ _) ?_)
       | (refine Cmp.tt (he.symm.trans hz) ?_)
       | (refine Cmp.ff (fun h => hz (he.trans h)) ?_)
       | (refine LoopW.to (ih hz) rfl rfl)
       | (refine (hK _ _).mpr ?_)
       | (refine Ret.mk ((fin _ _ _ he).2 (fun h => hz (he.trans h)))))
    ·have he : lnE kind (prevO ls k) ls[k] = firstI [chkLn ls[k], 0, 11] := by
      unfold lnE
      rw [hp, if_pos hk]
      simp [hR, hC, openO, twinO]
     by_cases hz : lnE kind (prevO ls k) ls[k] = 0
     all_goals repeat' ((conv => whnf); first
     | refine Ya ?_ | refine Yb ?_ | refine Yc ?_ | refine Yd ?_ | refine Ye ?_ | refine Yf ?_ | refine Yg ?_ | refine Yh ?_ | refine Yi rfl ?_ | refine Yj rfl ?_ | refine Yk rfl ?_ | refine Yl rfl ?_
      | (refine PickW.rec Lnt.cells_length k rfl hlt ?_)
      | (refine CallI.of hcl ?_)
      | (refine CallS.actions g rfl ?_)
      | (refine Find.mk ⟨_, hf, ?_⟩ <;> (dsimp only; rw [hr]))
      | (refine Pick.rec Lnt.cells_length (k - 1) (by omega) hlp rfl ?_)
      | (refine PickW.part Lnt.cells_length (k - 1) (by omega) hlp (by decide) rfl ?_)
      | (refine CallI.of ht ?_)
      | (refine Cmp.tt (by assumption) ?_)
      | (refine Cmp.ff (by assumption) ?_)
      | (refine CallI.of (s_mwhen g _ _) ?_)
      | (refine CallI.of (s_mfirst3 g _ _ _) ?_)
      | (refine Cmp.tt (he.symm.trans hz) ?_)
      | (refine Cmp.ff (fun h => hz (he.trans h)) ?_)
      | (refine LoopW.to (ih hz) rfl rfl)
      | (refine (hK _ _).mpr ?_)
      | (refine Ret.mk ((fin _ _ _ he).2 (fun h => hz (he.trans h)))))
   ·by_cases hR : ls[k].ac = [82]
    ·have he : lnE kind (prevO ls k) ls[k] = firstI [chkLn ls[k], 0, 11] := by
      unfold lnE
      rw [hp, if_pos hk]
      simp [hR, hC, openO, twinO]
     by_cases hz : lnE kind (prevO ls k) ls[k] = 0
     all_goals repeat' ((conv => whnf); first
     | refine Ya ?_ | refine Yb ?_ | refine Yc ?_ | refine Yd ?_ | refine Ye ?_ | refine Yf ?_ | refine Yg ?_ | refine Yh ?_ | refine Yi rfl ?_ | refine Yj rfl ?_ | refine Yk rfl ?_ | refine Yl rfl ?_
      | (refine PickW.rec Lnt.cells_length k rfl hlt ?_)
      | (refine CallI.of hcl ?_)
      | (refine CallS.actions g rfl ?_)
      | (refine Find.mk ⟨_, hf, ?_⟩ <;> (dsimp only; rw [hr]))
      | (refine Pick.rec Lnt.cells_length (k - 1) (by omega) hlp rfl ?_)
      | (refine PickW.part Lnt.cells_length (k - 1) (by omega) hlp (by decide) rfl ?_)
      | (refine CallI.of ht ?_)
      | (refine Cmp.tt (by assumption) ?_)
      | (refine Cmp.ff (by assumption) ?_)
      | (refine CallI.of (s_mwhen g _ _) ?_)
      | (refine CallI.of (s_mfirst3 g _ _ _) ?_)
      | (refine Cmp.tt (he.symm.trans hz) ?_)
      | (refine Cmp.ff (fun h => hz (he.trans h)) ?_)
      | (refine LoopW.to (ih hz) rfl rfl)
      | (refine (hK _ _).mpr ?_)
      | (refine Ret.mk ((fin _ _ _ he).2 (fun h => hz (he.trans h)))))
    ·have he : lnE kind (prevO ls k) ls[k] = firstI [chkLn ls[k], 0, 0] := by
      unfold lnE
      rw [hp, if_pos hk]
      simp [hR, hC, openO, twinO]
     by_cases hz : lnE kind (prevO ls k) ls[k] = 0
     all_goals repeat' ((conv => whnf); first
     | refine Ya ?_ | refine Yb ?_ | refine Yc ?_ | refine Yd ?_ | refine Ye ?_ | refine Yf ?_ | refine Yg ?_ | refine Yh ?_ | refine Yi rfl ?_ | refine Yj rfl ?_ | refine Yk rfl ?_ | refine Yl rfl ?_
      | (refine PickW.rec Lnt.cells_length k rfl hlt ?_)
      | (refine CallI.of hcl ?_)
      | (refine CallS.actions g rfl ?_)
      | (refine Find.mk ⟨_, hf, ?_⟩ <;> (dsimp only; rw [hr]))
      | (refine Pick.rec Lnt.cells_length (k - 1) (by omega) hlp rfl ?_)
      | (refine PickW.part Lnt.cells_length (k - 1) (by omega) hlp (by decide) rfl ?_)
      | (refine CallI.of ht ?_)
      | (refine Cmp.tt (by assumption) ?_)
      | (refine Cmp.ff (by assumption) ?_)
      | (refine CallI.of (s_mwhen g _ _) ?_)
      | (refine CallI.of (s_mfirst3 g _ _ _) ?_)
      | (refine Cmp.tt (he.symm.trans hz) ?_)
      | (refine Cmp.ff (fun h => hz (he.trans h)) ?_)
      | (refine LoopW.to (ih hz) rfl rfl)
      | (refine (hK _ _).mpr ?_)
      | (refine Ret.mk ((fin _ _ _ he).2 (fun h => hz (he.trans h)))))
 ·by_cases h0 : k = 0
  ·have hp : prevO ls k = none := if_pos h0
   by_cases hR : ls[k].ac = [82]
   ·have he : lnE kind (prevO ls k) ls[k] = firstI [chkLn ls[k], 18, 11] := by
     unfold lnE
     rw [hp, if_neg hk]
     simp [hR, openO, twinO]
    by_cases hz : lnE kind (prevO ls k) ls[k] = 0
    all_goals repeat' ((conv => whnf); first
    | refine Ya ?_ | refine Yb ?_ | refine Yc ?_ | refine Yd ?_ | refine Ye ?_ | refine Yf ?_ | refine Yg ?_ | refine Yh ?_ | refine Yi rfl ?_ | refine Yj rfl ?_ | refine Yk rfl ?_ | refine Yl rfl ?_
     | (refine PickW.rec Lnt.cells_length k rfl hlt ?_)
     | (refine CallI.of hcl ?_)
     | (refine CallS.actions g rfl ?_)
     | (refine Find.mk ⟨_, hf, ?_⟩ <;> (dsimp only; rw [hr]))
     | (refine Cmp.tt (by assumption) ?_)
     | (refine Cmp.ff (by assumption) ?_)
     | (refine CallI.of (s_mwhen g _ _) ?_)
     | (refine CallI.of (s_mfirst3 g _ _ _) ?_)
     | (refine Cmp.tt (he.symm.trans hz) ?_)
     | (refine Cmp.ff (fun h => hz (he.trans h)) ?_)
     | (refine LoopW.to (ih hz) rfl rfl)
     | (refine (hK _ _).mpr ?_)
     | (refine Ret.mk ((fin _ _ _ he).2 (fun h => hz (he.trans h)))))
   ·have he : lnE kind (prevO ls k) ls[k] = firstI [chkLn ls[k], 18, 0] := by
     unfold lnE
     rw [hp, if_neg hk]
     simp [hR, openO, twinO]
    by_cases hz : lnE kind (prevO ls k) ls[k] = 0
    all_goals repeat' ((conv => whnf); first
    | refine Ya ?_ | refine Yb ?_ | refine Yc ?_ | refine Yd ?_ | refine Ye ?_ | refine Yf ?_ | refine Yg ?_ | refine Yh ?_ | refine Yi rfl ?_ | refine Yj rfl ?_ | refine Yk rfl ?_ | refine Yl rfl ?_
     | (refine PickW.rec Lnt.cells_length k rfl hlt ?_)
     | (refine CallI.of hcl ?_)
     | (refine CallS.actions g rfl ?_)
     | (refine Find.mk ⟨_, hf, ?_⟩ <;> (dsimp only; rw [hr]))
     | (refine Cmp.tt (by assumption) ?_)
     | (refine Cmp.ff (by assumption) ?_)
     | (refine CallI.of (s_mwhen g _ _) ?_)
     | (refine CallI.of (s_mfirst3 g _ _ _) ?_)
     | (refine Cmp.tt (he.symm.trans hz) ?_)
     | (refine Cmp.ff (fun h => hz (he.trans h)) ?_)
     | (refine LoopW.to (ih hz) rfl rfl)
     | (refine (hK _ _).mpr ?_)
     | (refine Ret.mk ((fin _ _ _ he).2 (fun h => hz (he.trans h)))))
  ·have hlp : k - 1 < ls.length := by omega
   have hp : prevO ls k = some ls[k - 1] := by simp [prevO, h0, hlp]
   have ht := s_twins g ls[k - 1].rq ls[k].rq
   by_cases hC : ls[k - 1].ac = [67]
   ·by_cases hR : ls[k].ac = [82]
    ·cases htw : twinB ls[k - 1].rq ls[k].rq
     all_goals rw [htw] at ht
     ·have he : lnE kind (prevO ls k) ls[k] = firstI [chkLn ls[k], 18, 11] := by
       unfold lnE
       rw [hp, if_neg hk]
       simp [hR, hC, htw, openO, twinO]
      by_cases hz : lnE kind (prevO ls k) ls[k] = 0
      all_goals repeat' ((conv => whnf); first
      | refine Ya ?_ | refine Yb ?_ | refine Yc ?_ | refine Yd ?_ | refine Ye ?_ | refine Yf ?_ | refine Yg ?_ | refine Yh ?_ | refine Yi rfl ?_ | refine Yj rfl ?_ | refine Yk rfl ?_ | refine Yl rfl ?_
       | (refine PickW.rec Lnt.cells_length k rfl hlt ?_)
       | (refine CallI.of hcl ?_)
       | (refine CallS.actions g rfl ?_)
       | (refine Find.mk ⟨_, hf, ?_⟩ <;> (dsimp only; rw [hr]))
       | (refine Pick.rec Lnt.cells_length (k - 1) (by omega) hlp rfl ?_)
       | (refine PickW.part Lnt.cells_length (k - 1) (by omega) hlp (by decide) rfl ?_)
       | (refine CallI.of ht ?_)
       | (refine Cmp.tt (by assumption) ?_)
       | (refine Cmp.ff (by assumption) ?_)
       | (refine CallI.of (s_mwhen g _ _) ?_)
       | (refine CallI.of (s_mfirst3 g _ _ _) ?_)
       | (refine Cmp.tt (he.symm.trans hz) ?_)
       | (refine Cmp.ff (fun h => hz (he.trans h)) ?_)
       | (refine LoopW.to (ih hz) rfl rfl)
       | (refine (hK _ _).mpr ?_)
       | (refine Ret.mk ((fin _ _ _ he).2 (fun h => hz (he.trans h)))))
     ·have he : lnE kind (prevO ls k) ls[k] = firstI [chkLn ls[k], 18, 0] := by
       unfold lnE
       rw [hp, if_neg hk]
       simp [hR, hC, htw, openO, twinO]
      by_cases hz : lnE kind (prevO ls k) ls[k] = 0
      all_goals repeat' ((conv => whnf); first
      | refine Ya ?_ | refine Yb ?_ | refine Yc ?_ | refine Yd ?_ | refine Ye ?_ | refine Yf ?_ | refine Yg ?_ | refine Yh ?_ | refine Yi rfl ?_ | refine Yj rfl ?_ | refine Yk rfl ?_ | refine Yl rfl ?_
       | (refine PickW.rec Lnt.cells_length k rfl hlt ?_)
       | (refine CallI.of hcl ?_)
       | (refine CallS.actions g rfl ?_)
       | (refine Find.mk ⟨_, hf, ?_⟩ <;> (dsimp only; rw [hr]))
       | (refine Pick.rec Lnt.cells_length (k - 1) (by omega) hlp rfl ?_)
       | (refine PickW.part Lnt.cells_length (k - 1) (by omega) hlp (by decide) rfl ?_)
       | (refine CallI.of ht ?_)
       | (refine Cmp.tt (by assumption) ?_)
       | (refine Cmp.ff (by assumption) ?_)
       | (refine CallI.of (s_mwhen g _ _) ?_)
       | (refine CallI.of (s_mfirst3 g _ _ _) ?_)
       | (refine Cmp.tt (he.symm.trans hz) ?_)
       | (refine Cmp.ff (fun h => hz (he.trans h)) ?_)
       | (refine LoopW.to (ih hz) rfl rfl)
       | (refine (hK _ _).mpr ?_)
       | (refine Ret.mk ((fin _ _ _ he).2 (fun h => hz (he.trans h)))))
    ·have he : lnE kind (prevO ls k) ls[k] = firstI [chkLn ls[k], 18, 11] := by
      unfold lnE
      rw [hp, if_neg hk]
      simp [hR, hC, openO, twinO]
     by_cases hz : lnE kind (prevO ls k) ls[k] = 0
     all_goals repeat' ((conv => whnf); first
     | refine Ya ?_ | refine Yb ?_ | refine Yc ?_ | refine Yd ?_ | refine Ye ?_ | refine Yf ?_ | refine Yg ?_ | refine Yh ?_ | refine Yi rfl ?_ | refine Yj rfl ?_ | refine Yk rfl ?_ | refine Yl rfl ?_
      | (refine PickW.rec Lnt.cells_length k rfl hlt ?_)
      | (refine CallI.of hcl ?_)
      | (refine CallS.actions g rfl ?_)
      | (refine Find.mk ⟨_, hf, ?_⟩ <;> (dsimp only; rw [hr]))
      | (refine Pick.rec Lnt.cells_length (k - 1) (by omega) hlp rfl ?_)
      | (refine PickW.part Lnt.cells_length (k - 1) (by omega) hlp (by decide) rfl ?_)
      | (refine CallI.of ht ?_)
      | (refine Cmp.tt (by assumption) ?_)
      | (refine Cmp.ff (by assumption) ?_)
      | (refine CallI.of (s_mwhen g _ _) ?_)
      | (refine CallI.of (s_mfirst3 g _ _ _) ?_)
      | (refine Cmp.tt (he.symm.trans hz) ?_)
      | (refine Cmp.ff (fun h => hz (he.trans h)) ?_)
      | (refine LoopW.to (ih hz) rfl rfl)
      | (refine (hK _ _).mpr ?_)
      | (refine Ret.mk ((fin _ _ _ he).2 (fun h => hz (he.trans h)))))
   ·by_cases hR : ls[k].ac = [82]
    ·have he : lnE kind (prevO ls k) ls[k] = firstI [chkLn ls[k], 18, 11] := by
      unfold lnE
      rw [hp, if_neg hk]
      simp [hR, hC, openO, twinO]
     by_cases hz : lnE kind (prevO ls k) ls[k] = 0
     all_goals repeat' ((conv => whnf); first
     | refine Ya ?_ | refine Yb ?_ | refine Yc ?_ | refine Yd ?_ | refine Ye ?_ | refine Yf ?_ | refine Yg ?_ | refine Yh ?_ | refine Yi rfl ?_ | refine Yj rfl ?_ | refine Yk rfl ?_ | refine Yl rfl ?_
      | (refine PickW.rec Lnt.cells_length k rfl hlt ?_)
      | (refine CallI.of hcl ?_)
      | (refine CallS.actions g rfl ?_)
      | (refine Find.mk ⟨_, hf, ?_⟩ <;> (dsimp only; rw [hr]))
      | (refine Pick.rec Lnt.cells_length (k - 1) (by omega) hlp rfl ?_)
      | (refine PickW.part Lnt.cells_length (k - 1) (by omega) hlp (by decide) rfl ?_)
      | (refine CallI.of ht ?_)
      | (refine Cmp.tt (by assumption) ?_)
      | (refine Cmp.ff (by assumption) ?_)
      | (refine CallI.of (s_mwhen g _ _) ?_)
      | (refine CallI.of (s_mfirst3 g _ _ _) ?_)
      | (refine Cmp.tt (he.symm.trans hz) ?_)
      | (refine Cmp.ff (fun h => hz (he.trans h)) ?_)
      | (refine LoopW.to (ih hz) rfl rfl)
      | (refine (hK _ _).mpr ?_)
      | (refine Ret.mk ((fin _ _ _ he).2 (fun h => hz (he.trans h)))))
    ·have he : lnE kind (prevO ls k) ls[k] = firstI [chkLn ls[k], 18, 0] := by
      unfold lnE
      rw [hp, if_neg hk]
      simp [hR, hC, openO, twinO]
     by_cases hz : lnE kind (prevO ls k) ls[k] = 0
     all_goals repeat' ((conv => whnf); first
     | refine Ya ?_ | refine Yb ?_ | refine Yc ?_ | refine Yd ?_ | refine Ye ?_ | refine Yf ?_ | refine Yg ?_ | refine Yh ?_ | refine Yi rfl ?_ | refine Yj rfl ?_ | refine Yk rfl ?_ | refine Yl rfl ?_
      | (refine PickW.rec Lnt.cells_length k rfl hlt ?_)
      | (refine CallI.of hcl ?_)
      | (refine CallS.actions g rfl ?_)
      | (refine Find.mk ⟨_, hf, ?_⟩ <;> (dsimp only; rw [hr]))
      | (refine Pick.rec Lnt.cells_length (k - 1) (by omega) hlp rfl ?_)
      | (refine PickW.part Lnt.cells_length (k - 1) (by omega) hlp (by decide) rfl ?_)
      | (refine CallI.of ht ?_)
      | (refine Cmp.tt (by assumption) ?_)
      | (refine Cmp.ff (by assumption) ?_)
      | (refine CallI.of (s_mwhen g _ _) ?_)
      | (refine CallI.of (s_mfirst3 g _ _ _) ?_)
      | (refine Cmp.tt (he.symm.trans hz) ?_)
      | (refine Cmp.ff (fun h => hz (he.trans h)) ?_)
      | (refine LoopW.to (ih hz) rfl rfl)
      | (refine (hK _ _).mpr ?_)
      | (refine Ret.mk ((fin _ _ _ he).2 (fun h => hz (he.trans h)))))
end
end Go.Proofs.YtlnlcdnpgjhaaabGreatDoor.Co
/-
 Entries: what messages leave, in plain terms.
-/
namespace Go.Proofs.YtlnlcdnpgjhaaabGreatDoor.Co
open Go Go.Evl
structure Ent where
 rq : Rqt
 hi : Bool
 da : Int
def Ent.cells (e : Ent) : List D := [.str e.rq.nm, .str e.rq.ca, .str e.rq.ki, .str e.rq.te, .str e.rq.pa, .str e.rq.li, DI e.rq.fr, DI e.rq.to, DI e.rq.da, DI e.rq.mi, DI e.rq.se, DI e.rq.si, DI e.rq.no, .bool e.hi, DI e.da]
theorem Ent.cells_length (e : Ent) : e.cells.length = 15 := rfl
abbrev LE (l : List Ent) : V := .d (.list l.length (l.flatMap Ent.cells))
def plc (s : List UInt8) : List Ent → Option Nat
 | [] => none
 | e :: r => if e.rq.nm = s then some 0 else (plc s r).map (· + 1)
theorem plc_some {s : List UInt8} : ∀ {l : List Ent} {k : Nat}, plc s l = some k → ∃ h : k < l.length, l[k].rq.nm = s ∧ ∀ (j : Nat) (hj : j < k), ¬ (l[j]'(Nat.lt_trans hj h)).rq.nm = s
 | [], k, h => by cases h
 | e :: r, k, h => by
  rw [plc] at h
  by_cases hx : e.rq.nm = s
  ·rw [if_pos hx] at h
   cases h
   exact ⟨by simp, hx, fun j hj => absurd hj (Nat.not_lt_zero _)⟩
  ·rw [if_neg hx] at h
   cases hp : plc s r with
   | none => rw [hp] at h; cases h
   | some i =>
    rw [hp] at h
    cases h
    obtain ⟨a, b, c⟩ := plc_some hp
    refine ⟨by simpa using a, by simpa using b, fun j hj => ?_⟩
    cases j with
    | zero => simpa using hx
    | succ j => simpa using c j (by have hj : j + 1 < i + 1 := hj; omega)
def stpE (l : List Ent) (x : Lnt) : Int :=
 match plc x.rq.nm l with
 | none => if x.ac = [78] ∨ x.ac = [72] then (if 64 ≤ l.length then 5 else 0) else if x.ac = [82] then 0 else 10
 | some k => if x.ac = [78] ∨ x.ac = [72] then 9 else if x.ac = [82] then 0 else if (l[k]?.map (·.rq)) = some x.rq then 0 else 29
def stpL (l : List Ent) (x : Lnt) (da : Int) : List Ent :=
 match plc x.rq.nm l with
 | none => l ++ [⟨x.rq, decide (x.ac = [72]), da⟩]
 | some k => if x.ac = [82] then l.set k ⟨x.rq, (l[k]?.map (·.hi)).getD false, da⟩ else if x.ac = [68] then l.eraseIdx k else l
def linG (da : Int) : List Ent → List Lnt → List Ent × Int
 | l, [] => (l, 0)
 | l, x :: r => if stpE l x = 0 then linG da (stpL l x da) r else (l, stpE l x)
def msgE (f p m : Mst) : Int := firstI [chkMs m, if m.ki = REQ then 0 else 13, if m.ai = f.ai ∧ m.se = f.se then 0 else 29, if m.da < p.da then 11 else 0]
def reqG (f : Mst) : Mst → Nat → List Ent → List Mst → List Ent × Nat × Int
 | _, _, l, [] => (l, 0, 0)
 | p, i, l, m :: r =>
  if msgE f p m = 0 then (if (linG m.da l m.ls).2 = 0 then reqG f m (i + 1) (linG m.da l m.ls).1 r else ([], i, (linG m.da l m.ls).2))
  else ([], i, msgE f p m)
def reqs (l : List Mst) : List Ent × Nat × Int :=
 if 64 < l.length then ([], 0, 5) else
 match l with
 | [] => ([], 0, 0)
 | f :: r => reqG f f 0 [] (f :: r)
def plcOk (da : Int) : List Ent → List Lnt → Prop
 | _, [] => True
 | l, x :: r => (x.ac = [82] → (plc x.rq.nm l).isSome) ∧ (stpE l x = 0 → plcOk da (stpL l x da) r)
theorem lnE_open {p : Option Lnt} {x : Lnt} (h : lnE REQ p x = 0) (hx : x.ac = [82]) : ∃ y, p = some y ∧ y.ac = [67] ∧ y.rq.nm = x.rq.nm := by
 unfold lnE at h
 rw [firstI_zero] at h
 have h3 := h (if (openO p || decide (x.ac = [82])) && !(openO p && decide (x.ac = [82]) && twinO x p) then 11 else 0) (by simp)
 rw [decide_eq_true hx] at h3
 cases p with
 | none => simp [openO] at h3
 | some y =>
  refine ⟨y, rfl, ?_⟩
  cases ho : openO (some y) with
  | false => rw [ho] at h3; simp at h3
  | true =>
   cases ht : twinO x (some y) with
   | false => rw [ho, ht] at h3; simp at h3
   | true =>
    simp only [openO, decide_eq_true_eq] at ho
    simp only [twinO, twinB, Bool.and_eq_true, decide_eq_true_eq] at ht
    exact ⟨ho, ht.2⟩
theorem plcOk_of (da : Int) : ∀ (ls : List Lnt) (l : List Ent) (p : Option Lnt) (i : Nat), (chkLs REQ p i ls).2 = 0 → (∀ y, p = some y → y.ac = [67] → (plc y.rq.nm l).isSome) → plcOk da l ls
 | [], _, _, _, _, _ => trivial
 | x :: r, l, p, i, h, hp => by
  rw [chkLs] at h
  by_cases hz : lnE REQ p x = 0
  ·rw [if_pos hz] at h
   refine ⟨fun hx => ?_, fun he => plcOk_of da r _ (some x) (i + 1) h fun y hy hc => ?_⟩
   ·obtain ⟨y, hy, hc, hn⟩ := lnE_open hz hx
    rw [← hn]
    exact hp y hy hc
   ·obtain rfl := Option.some.inj hy
    cases hq : plc x.rq.nm l with
    | none =>
     unfold stpE at he
     rw [hq] at he
     simp only at he
     rw [hc, if_neg (by decide), if_neg (by decide)] at he
     cases he
    | some k =>
     have e : stpL l x da = l := by
      unfold stpL
      rw [hq]
      simp only
      rw [hc, if_neg (by decide), if_neg (by decide)]
     rw [e, hq]
     rfl
  ·rw [if_neg hz] at h
   exact absurd h hz
theorem Mst.cells_length (m : Mst) : m.cells.length = 5 := rfl
abbrev LMs (l : List Mst) : V := .d (.list l.length (l.flatMap Mst.cells))
theorem stp_len {l : List Ent} {x : Lnt} {da : Int} (h : l.length ≤ 64) (he : stpE l x = 0) (hr : x.ac = [82] → (plc x.rq.nm l).isSome) : (stpL l x da).length ≤ 64 := by
 unfold stpE at he
 unfold stpL
 cases hp : plc x.rq.nm l with
 | none =>
  rw [hp] at he hr
  simp only at he
  by_cases h1 : x.ac = [78] ∨ x.ac = [72]
  ·rw [if_pos h1] at he
   split at he
   ·cases he
   ·simp; omega
  ·rw [if_neg h1] at he
   by_cases h2 : x.ac = [82]
   ·have := hr h2; cases this
   ·rw [if_neg h2] at he; cases he
 | some k =>
  simp only
  split
  ·simpa using h
  ·split
   ·have := List.length_eraseIdx_le l k; omega
   ·exact h
end Go.Proofs.YtlnlcdnpgjhaaabGreatDoor.Co
/-
 Messages: a round of the reference's checkLines, for requests.
-/
namespace Go.Proofs.YtlnlcdnpgjhaaabGreatDoor.Co
open Go Go.Evl
theorem chkLs_step {kind : List UInt8} {ls : List Lnt} {k : Nat} (h : k < ls.length) : chkLs kind (prevO ls k) k (ls.drop k) = if lnE kind (prevO ls k) ls[k] = 0 then chkLs kind (prevO ls (k + 1)) (k + 1) (ls.drop (k + 1)) else (k, lnE kind (prevO ls k) ls[k]) := by
 rw [List.drop_eq_getElem_cons h, chkLs, prevO_succ h]
theorem chkLs_end {kind : List UInt8} {ls : List Lnt} : chkLs kind (prevO ls ls.length) ls.length (ls.drop ls.length) = if openO (prevO ls ls.length) then (ls.length - 1, 11) else (0, 0) := by
 rw [List.drop_length, chkLs]
open Go Go.Evl
open Go Go.Evl
end Go.Proofs.YtlnlcdnpgjhaaabGreatDoor.Co
/-
 Messages: Changed, by the program and by the reference.
-/
namespace Go.Proofs.YtlnlcdnpgjhaaabGreatDoor.Co
open Go Go.Evl
set_option maxRecDepth 100000
def zeroQ : Rqt := ⟨[], [], [], [], [], [], 0, 0, 0, 0, 0, 0, 0⟩
def twF (l : List Rqt) (q : Rqt) : Option Rqt := l.find? fun o => twinB o q
def dL (l : List Rqt) (q : Rqt) : List Lnt := match twF l q with | none => [⟨[68], q⟩] | some _ => []
def cL (l : List Rqt) (q : Rqt) : List Lnt := match twF l q with | none => [] | some o => if o = q then [] else [⟨[67], q⟩, ⟨[82], o⟩]
def nL (l : List Rqt) (q : Rqt) : List Lnt := match twF l q with | none => [⟨[78], q⟩] | some _ => []
def chgL (b a : List Rqt) : List Lnt := (b.flatMap (dL a) ++ b.flatMap (cL a)) ++ a.flatMap (nL b)
theorem fm_take (f : Rqt → List Lnt) (l : List Rqt) (k : Nat) (h : k < l.length) : (l.take (k + 1)).flatMap f = (l.take k).flatMap f ++ f l[k] := by
 rw [List.take_add_one, List.getElem?_eq_getElem h, List.flatMap_append]
 simp only [Option.toList_some, List.flatMap_cons, List.flatMap_nil, List.append_nil]
theorem twF_at {l : List Rqt} {q : Rqt} {k : Nat} (hk : k < l.length) (h0 : ∀ j (h : j < l.length), j < k → twinB l[j] q = false) (h1 : twinB l[k] q = true) : twF l q = some l[k] := by
 unfold twF
 rw [List.find?_eq_some_iff_getElem]
 exact ⟨h1, k, hk, rfl, fun j hj => by rw [h0 j (by omega) hj]; rfl⟩
theorem twF_no {l : List Rqt} {q : Rqt} (h0 : ∀ j (h : j < l.length), twinB l[j] q = false) : twF l q = none := by
 unfold twF
 rw [List.find?_eq_none]
 intro x hx
 obtain ⟨j, hj, rfl⟩ := List.getElem_of_mem hx
 rw [h0 j hj]
 decide
theorem one_len {f : Rqt → List Lnt} (w : Nat) (h : ∀ q, (f q).length ≤ w) : ∀ l : List Rqt, (l.flatMap f).length ≤ l.length * w
 | [] => by simp
 | x :: r => by
  have ih := one_len w h r
  have hx := h x
  rw [List.flatMap_cons, List.length_append, List.length_cons, Nat.succ_mul]
  omega
theorem dL_len (l : List Rqt) (q : Rqt) : (dL l q).length ≤ 1 := by unfold dL; split <;> simp
theorem nL_len (l : List Rqt) (q : Rqt) : (nL l q).length ≤ 1 := by unfold nL; split <;> simp
theorem cL_len (l : List Rqt) (q : Rqt) : (cL l q).length ≤ 2 := by unfold cL; split <;> (try split) <;> simp
theorem nm_at {l : List Rqt} (hu : (nmsQ l).Nodup) {i j : Nat} (hi : i < l.length) (hj : j < l.length) (h : l[i].nm = l[j].nm) : i = j := by
 have hp := List.pairwise_iff_getElem.1 hu
 have hn : (nmsQ l).length = l.length := List.length_map ..
 rcases Nat.lt_trichotomy i j with h' | h' | h'
 ·exact absurd (by simpa [nmsQ] using h) (hp i j (by omega) (by omega) h')
 ·exact h'
 ·exact absurd (by simpa [nmsQ] using h.symm) (hp j i (by omega) (by omega) h')
theorem rq_ext {a b : Rqt} (h : a.nm = b.nm ∧ a.ca = b.ca ∧ a.ki = b.ki ∧ a.te = b.te ∧ a.pa = b.pa ∧ a.li = b.li ∧ a.fr = b.fr ∧ a.to = b.to ∧ a.da = b.da ∧ a.mi = b.mi ∧ a.se = b.se ∧ a.si = b.si ∧ a.no = b.no) : a = b := by
 obtain ⟨h1, h2, h3, h4, h5, h6, h7, h8, h9, h10, h11, h12, h13⟩ := h
 cases a
 cases b
 simp only at h1 h2 h3 h4 h5 h6 h7 h8 h9 h10 h11 h12 h13
 simp only [h1, h2, h3, h4, h5, h6, h7, h8, h9, h10, h11, h12, h13]
def catR (x : List Lnt) : List Lnt → List Lnt
 | [] => x
 | y :: r => x ++ (y :: r)
theorem catR_eq (x : List Lnt) : ∀ y, catR x y = x ++ y
 | [] => (List.append_nil x).symm
 | _ :: _ => rfl
theorem catR_succ (x : List Lnt) (f : Rqt → List Lnt) {l : List Rqt} {k : Nat} (h : k < l.length) : catR x ((l.take (k + 1)).flatMap f) = catR x ((l.take k).flatMap f) ++ f l[k] := by
 rw [catR_eq, catR_eq, fm_take f l k h, List.append_assoc]
theorem take_len {f : Rqt → List Lnt} {w : Nat} (h : ∀ q, (f q).length ≤ w) (l : List Rqt) (k : Nat) : ((l.take k).flatMap f).length ≤ l.length * w :=
 Nat.le_trans (one_len w h _) (Nat.mul_le_mul_right _ (by rw [List.length_take]; omega))
section
variable {E : Oracle} (g : Good E)
include g
set_option maxHeartbeats 4000000 in
theorem s_twin (l : List Rqt) (q : Rqt) (hl : l.length ≤ 1000000) : (twF l q = none → Fc E n_message_Changed_1 [LQ l, Rqv q] (.tup [Rqv zeroQ, B false])) ∧ ∀ o, twF l q = some o → Fc E n_message_Changed_1 [LQ l, Rqv q] (.tup [Rqv o, B true]) := by
 have main : ∀ R : V, (twF l q = none → .tup [Rqv zeroQ, B false] = R) → (∀ o, twF l q = some o → .tup [Rqv o, B true] = R) → Fc E n_message_Changed_1 [LQ l, Rqv q] R := by
  intro R r1 r2
  refine g.fn code_message_Changed_1 rfl ?_
  repeat' ((conv => whnf); first
  | refine Ya ?_ | refine Yb ?_ | refine Yc ?_ | refine Yd ?_ | refine Ye ?_ | refine Yf ?_ | refine Yg ?_ | refine Yh ?_ | refine Yi rfl ?_ | refine Yj rfl ?_ | refine Yk rfl ?_ | refine Yl rfl ?_
   | (refine In.enter g.lim rfl code_slices_IndexFunc_Lapi_Request_api_Request ?_))
  refine LoopW.to (LoopW.upP g (fun k => [(0, LQ l), (1, .fn n_message_Changed_1_1 [] [.ptr ⟨0, 3, 0⟩ 0 0]), (7, I l.length), (8, I k)]) (fun _ => _) (fun k => ∀ j (h : j < l.length), j < k → twinB l[j] q = false) l.length (fun k hk h0 ih => ?_) 0 (Nat.zero_le _) (fun j _ hj => absurd hj (Nat.not_lt_zero _))) rfl rfl
  by_cases hlt : k < l.length
  ·have ht := s_twins g l[k] q
   cases hb : twinB l[k] q
   ·rw [hb] at ht
    have ih := ih hlt fun j h hj => by
     by_cases e : j = k
     ·subst e; exact hb
     ·exact h0 j h (by omega)
    clear r1 r2 h0
    repeat' ((conv => whnf); first
    | refine Ya ?_ | refine Yb ?_ | refine Yc ?_ | refine Yd ?_ | refine Ye ?_ | refine Yf ?_ | refine Yg ?_ | refine Yh ?_ | refine Yi rfl ?_ | refine Yj rfl ?_ | refine Yk rfl ?_ | refine Yl rfl ?_
     | (refine PickW.rec Rqt.cells_length k rfl hlt ?_)
     | (refine In.enter g.lim rfl code_message_Changed_1_1 ?_)
     | (refine CallI.of ht ?_)
     | (refine LoopW.to ih rfl rfl))
   ·rw [hb] at ht
    rw [← r2 _ (twF_at hlt h0 hb)]
    clear r1 r2 h0 ih
    repeat' ((conv => whnf); first
    | refine Ya ?_ | refine Yb ?_ | refine Yc ?_ | refine Yd ?_ | refine Ye ?_ | refine Yf ?_ | refine Yg ?_ | refine Yh ?_ | refine Yi rfl ?_ | refine Yj rfl ?_ | refine Yk rfl ?_ | refine Yl rfl ?_
     | (refine PickW.rec Rqt.cells_length k rfl hlt ?_)
     | (refine In.enter g.lim rfl code_message_Changed_1_1 ?_)
     | (refine CallI.of ht ?_)
     | (refine Ret.mk rfl))
  ·rw [← r1 (twF_no fun j h => h0 j h (by omega))]
   clear r1 r2 h0 ih
   repeat' ((conv => whnf); first
   | refine Ya ?_ | refine Yb ?_ | refine Yc ?_ | refine Yd ?_ | refine Ye ?_ | refine Yf ?_ | refine Yg ?_ | refine Yh ?_ | refine Yi rfl ?_ | refine Yj rfl ?_ | refine Yk rfl ?_ | refine Yl rfl ?_
    | (refine Ret.mk rfl))
 exact ⟨fun h => main _ (fun _ => rfl) (fun o ho => by rw [h] at ho; cases ho), fun o h => main _ (fun hn => by rw [h] at hn; cases hn) (fun o' ho => by rw [h] at ho; cases ho; rfl)⟩
end
end Go.Proofs.YtlnlcdnpgjhaaabGreatDoor.Co
/-
 Entries: one line, by the reference.
-/
namespace Go.Proofs.YtlnlcdnpgjhaaabGreatDoor.Co
open Go Go.Evl
def plcI (s : List UInt8) (l : List Ent) : Int :=
 match plc s l with
 | some k => k
 | none => -1
theorem plc_at {s : List UInt8} : ∀ {l : List Ent} {k : Nat} (h : k < l.length), (∀ (j : Nat) (hj : j < l.length), j < k → ¬ l[j].rq.nm = s) → l[k].rq.nm = s → plc s l = some k
 | [], k, h, _, _ => absurd h (Nat.not_lt_zero _)
 | e :: r, 0, _, _, h1 => by
  have h1 : e.rq.nm = s := h1
  rw [plc, if_pos h1]
 | e :: r, k + 1, h, h0, h1 => by
  have h2 : ¬ e.rq.nm = s := h0 0 (by simp) (by omega)
  rw [plc, if_neg h2, plc_at (k := k) (by simpa using h) (fun j hj hjk => h0 (j + 1) (by simpa using hj) (by omega)) h1]
  rfl
theorem plc_non {s : List UInt8} : ∀ {l : List Ent}, (∀ (j : Nat) (hj : j < l.length), ¬ l[j].rq.nm = s) → plc s l = none
 | [], _ => rfl
 | e :: r, h => by
  have h2 : ¬ e.rq.nm = s := h 0 (by simp)
  rw [plc, if_neg h2, plc_non fun j hj => h (j + 1) (by simpa using hj)]
  rfl
theorem win_take15 (l : List Ent) (k : Nat) (h : k ≤ l.length) : (l.flatMap Ent.cells).take (k * 15) = (l.take k).flatMap Ent.cells := by
 have e : l.flatMap Ent.cells = (l.take k).flatMap Ent.cells ++ (l.drop k).flatMap Ent.cells := by
  rw [← List.flatMap_append, List.take_append_drop]
 rw [e]
 refine List.take_left' ?_
 rw [flatR_length Ent.cells 15 Ent.cells_length, List.length_take]
 omega
theorem ent_patch (l : List Ent) (k : Nat) (e : Ent) (h : k < l.length) : patch (l.flatMap Ent.cells) (k * 15) e.cells = (l.set k e).flatMap Ent.cells := by
 unfold patch
 rw [List.set_eq_take_append_cons_drop, if_pos h, List.flatMap_append, List.flatMap_cons]
 have h1 := flatR_drop Ent.cells 15 Ent.cells_length l (k + 1)
 have h2 : (l.flatMap Ent.cells).take (k * 15) = (l.take k).flatMap Ent.cells := by
  have := win_take15 l k (by omega)
  exact this
 rw [h2, Ent.cells_length, show k * 15 + 15 = (k + 1) * 15 by omega, h1, List.append_assoc]
theorem stp_new {l : List Ent} {q : Rqt} {s : List UInt8} {da : Int} (hp : plc q.nm l = none) (hs : s = [78] ∨ s = [72]) : stpE l ⟨s, q⟩ = (if 64 ≤ l.length then 5 else 0) ∧ stpL l ⟨s, q⟩ da = l ++ [⟨q, decide (s = [72]), da⟩] := by
 unfold stpE stpL
 simp only [hp]
 exact ⟨if_pos hs, trivial⟩
theorem stp_twice {l : List Ent} {q : Rqt} {s : List UInt8} {k : Nat} (hp : plc q.nm l = some k) (hs : s = [78] ∨ s = [72]) : stpE l ⟨s, q⟩ = 9 := by
 unfold stpE
 simp only [hp]
 exact if_pos hs
theorem stp_none {l : List Ent} {q : Rqt} {s : List UInt8} (hp : plc q.nm l = none) (h1 : ¬ s = [78]) (h2 : ¬ s = [72]) (h3 : ¬ s = [82]) : stpE l ⟨s, q⟩ = 10 := by
 unfold stpE
 simp only [hp]
 rw [if_neg (by rintro (h | h) <;> contradiction), if_neg h3]
theorem stp_repl {l : List Ent} {q : Rqt} {da : Int} {k : Nat} (hp : plc q.nm l = some k) (hk : k < l.length) : stpE l ⟨[82], q⟩ = 0 ∧ stpL l ⟨[82], q⟩ da = l.set k ⟨q, l[k].hi, da⟩ := by
 unfold stpE stpL
 simp only [hp, List.getElem?_eq_getElem hk, Option.map_some, Option.getD_some]
 exact ⟨by rw [if_neg (by decide)]; rfl, rfl⟩
theorem stp_some {l : List Ent} {q : Rqt} {s : List UInt8} {da : Int} {k : Nat} (hp : plc q.nm l = some k) (hk : k < l.length) (h1 : ¬ s = [78]) (h2 : ¬ s = [72]) (h3 : ¬ s = [82]) : stpE l ⟨s, q⟩ = (if l[k].rq = q then 0 else 29) ∧ stpL l ⟨s, q⟩ da = if s = [68] then l.eraseIdx k else l := by
 unfold stpE stpL
 simp only [hp, List.getElem?_eq_getElem hk, Option.map_some, Option.some.injEq]
 exact ⟨by rw [if_neg (by rintro (h | h) <;> contradiction), if_neg h3], by rw [if_neg h3]⟩
end Go.Proofs.YtlnlcdnpgjhaaabGreatDoor.Co
/-
 Messages: checkLines and CheckMessage, by the program and by the reference.
-/
namespace Go.Proofs.YtlnlcdnpgjhaaabGreatDoor.Co
open Go Go.Evl
section
variable {E : Oracle} (g : Good E)
include g
set_option maxRecDepth 100000
set_option maxHeartbeats 4000000 in
theorem s_checkLines (kind : List UInt8) (ls : List Lnt) (hl : ls.length ≤ 1000000) : Fc E n_message_checkLines [S kind, LL ls] (.tup [I ((chkLs kind none 0 ls).1 : Nat), I (chkLs kind none 0 ls).2]) := by
 refine g.fn code_message_checkLines rfl ?_
 repeat' ((conv => whnf); first
 | refine Ya ?_ | refine Yb ?_ | refine Yc ?_ | refine Yd ?_ | refine Ye ?_ | refine Yf ?_ | refine Yg ?_ | refine Yh ?_ | refine Yi rfl ?_ | refine Yj rfl ?_ | refine Yk rfl ?_ | refine Yl rfl ?_)
 refine LoopW.to (LoopW.upP g (fun k => [(0, S kind), (1, LL ls), (12, LL ls), (13, I ls.length), (14, I k)]) (fun _ => []) (fun k => chkLs kind (prevO ls k) k (ls.drop k) = chkLs kind none 0 ls) ls.length (fun k hk hp ih => ?_) 0 (Nat.zero_le _) rfl) rfl rfl
 by_cases hlt : k < ls.length
 ·have hs := chkLs_step (kind := kind) hlt
  refine rnd_checkLines g kind ls k hlt hl (fun _ _ => rfl) (fun hz => ?_) (fun hz => ?_)
  ·rw [if_neg hz, hp] at hs
   rw [hs]
  ·rw [if_pos hz, hp] at hs
   exact ih hlt hs.symm
 ·obtain rfl : k = ls.length := by omega
  rw [← hp, chkLs_end]
  by_cases h0 : ls.length = 0
  ·have hz : prevO ls ls.length = none := if_pos h0
   rw [hz]
   repeat' ((conv => whnf); first
   | refine Ya ?_ | refine Yb ?_ | refine Yc ?_ | refine Yd ?_ | refine Ye ?_ | refine Yf ?_ | refine Yg ?_ | refine Yh ?_ | refine Yi rfl ?_ | refine Yj rfl ?_ | refine Yk rfl ?_ | refine Yl rfl ?_
    | (refine Ret.mk rfl))
  ·have hlp : ls.length - 1 < ls.length := by omega
   have hz : prevO ls ls.length = some ls[ls.length - 1] := by simp [prevO, h0, hlp]
   rw [hz]
   by_cases hC : ls[ls.length - 1].ac = [67]
   ·have ho : openO (some ls[ls.length - 1]) = true := decide_eq_true hC
    rw [ho]
    repeat' ((conv => whnf); first
    | refine Ya ?_ | refine Yb ?_ | refine Yc ?_ | refine Yd ?_ | refine Ye ?_ | refine Yf ?_ | refine Yg ?_ | refine Yh ?_ | refine Yi rfl ?_ | refine Yj rfl ?_ | refine Yk rfl ?_ | refine Yl rfl ?_
     | (refine Pick.rec Lnt.cells_length (ls.length - 1) (by omega) hlp rfl ?_)
     | (refine Cmp.tt hC ?_)
     | (refine Ret.mk ?_))
    rw [if_pos rfl, show ((ls.length : Int) - 1) = ((ls.length - 1 : Nat) : Int) by omega]
   ·have ho : openO (some ls[ls.length - 1]) = false := decide_eq_false hC
    rw [ho]
    repeat' ((conv => whnf); first
    | refine Ya ?_ | refine Yb ?_ | refine Yc ?_ | refine Yd ?_ | refine Ye ?_ | refine Yf ?_ | refine Yg ?_ | refine Yh ?_ | refine Yi rfl ?_ | refine Yj rfl ?_ | refine Yk rfl ?_ | refine Yl rfl ?_
     | (refine Pick.rec Lnt.cells_length (ls.length - 1) (by omega) hlp rfl ?_)
     | (refine Cmp.ff hC ?_)
     | (refine Ret.mk rfl))
omit g in
theorem chkMs_eq (m : Mst) : chkMs m = if firstI [if (!msgB m.ki) = true then 13 else 0, headE m.ai m.se m.da, if 64 < m.ls.length then 5 else 0] = 0 then (chkLs m.ki none 0 m.ls).2 else firstI [if (!msgB m.ki) = true then 13 else 0, headE m.ai m.se m.da, if 64 < m.ls.length then 5 else 0] := by
 unfold chkMs
 generalize (if (!msgB m.ki) = true then (13 : Int) else 0) = a
 generalize headE m.ai m.se m.da = b
 generalize (if 64 < m.ls.length then (5 : Int) else 0) = c
 generalize (chkLs m.ki none 0 m.ls).2 = d
 by_cases ha : a = 0 <;> by_cases hb : b = 0 <;> by_cases hc : c = 0 <;> by_cases hd : d = 0 <;> simp [firstI, ha, hb, hc, hd]
set_option maxHeartbeats 4000000 in
theorem s_CheckMessage (m : Mst) (hl : m.ls.length ≤ 1000000) : Fc E n_message_CheckMessage [Msv m] (I (chkMs m)) := by
 refine g.fn code_message_CheckMessage rfl ?_
 have h1 := s_isMessage g m.ki
 have h2 := s_checkHead g m.ai m.se m.da
 have h3 := s_checkLines g m.ki m.ls hl
 rw [chkMs_eq]
 generalize headE m.ai m.se m.da = b at *
 generalize msgB m.ki = a at *
 by_cases hn : 64 < m.ls.length
 ·rw [if_pos hn]
  by_cases hz : firstI [if (!a) = true then 13 else 0, b, 5] = 0
  ·rw [if_pos hz]
   repeat' ((conv => whnf); first
   | refine Ya ?_ | refine Yb ?_ | refine Yc ?_ | refine Yd ?_ | refine Ye ?_ | refine Yf ?_ | refine Yg ?_ | refine Yh ?_ | refine Yi rfl ?_ | refine Yj rfl ?_ | refine Yk rfl ?_ | refine Yl rfl ?_
    | (apply CallI.of; assumption)
    | (refine CallI.of (s_mwhen g _ _) ?_)
    | (refine CallI.of (s_mfirst3 g _ _ _) ?_)
    | (refine Cmp.tt hz ?_)
    | (refine Ret.mk rfl))
  ·rw [if_neg hz]
   repeat' ((conv => whnf); first
   | refine Ya ?_ | refine Yb ?_ | refine Yc ?_ | refine Yd ?_ | refine Ye ?_ | refine Yf ?_ | refine Yg ?_ | refine Yh ?_ | refine Yi rfl ?_ | refine Yj rfl ?_ | refine Yk rfl ?_ | refine Yl rfl ?_
    | (apply CallI.of; assumption)
    | (refine CallI.of (s_mwhen g _ _) ?_)
    | (refine CallI.of (s_mfirst3 g _ _ _) ?_)
    | (refine Cmp.ff hz ?_)
    | (refine Ret.mk rfl))
 ·rw [if_neg hn]
  by_cases hz : firstI [if (!a) = true then 13 else 0, b, 0] = 0
  ·rw [if_pos hz]
   repeat' ((conv => whnf); first
   | refine Ya ?_ | refine Yb ?_ | refine Yc ?_ | refine Yd ?_ | refine Ye ?_ | refine Yf ?_ | refine Yg ?_ | refine Yh ?_ | refine Yi rfl ?_ | refine Yj rfl ?_ | refine Yk rfl ?_ | refine Yl rfl ?_
    | (apply CallI.of; assumption)
    | (refine CallI.of (s_mwhen g _ _) ?_)
    | (refine CallI.of (s_mfirst3 g _ _ _) ?_)
    | (refine Cmp.tt hz ?_)
    | (refine Ret.mk rfl))
  ·rw [if_neg hz]
   repeat' ((conv => whnf); first
   | refine Ya ?_ | refine Yb ?_ | refine Yc ?_ | refine Yd ?_ | refine Ye ?_ | refine Yf ?_ | refine Yg ?_ | refine Yh ?_ | refine Yi rfl ?_ | refine Yj rfl ?_ | refine Yk rfl ?_ | refine Yl rfl ?_
    | (apply CallI.of; assumption)
    | (refine CallI.of (s_mwhen g _ _) ?_)
    | (refine CallI.of (s_mfirst3 g _ _ _) ?_)
    | (refine Cmp.ff hz ?_)
    | (refine Ret.mk rfl))
end
end Go.Proofs.YtlnlcdnpgjhaaabGreatDoor.Co
/-
 Requests, by the reference.
-/
namespace Go.Proofs.YtlnlcdnpgjhaaabGreatDoor.Co
open Go Go.Evl
abbrev lnV (x : Lnt) : List V := [.d (.str x.ac), .d (.str x.rq.nm), .d (.str x.rq.ca), .d (.str x.rq.ki), .d (.str x.rq.te), .d (.str x.rq.pa), .d (.str x.rq.li), .d (DI x.rq.fr), .d (DI x.rq.to), .d (DI x.rq.da), .d (DI x.rq.mi), .d (DI x.rq.se), .d (DI x.rq.si), .d (DI x.rq.no)]
theorem linG_drop {da : Int} {l : List Ent} {ls : List Lnt} {k : Nat} (h : k < ls.length) : linG da l (ls.drop k) = if stpE l ls[k] = 0 then linG da (stpL l ls[k] da) (ls.drop (k + 1)) else (l, stpE l ls[k]) := by
 rw [List.drop_eq_getElem_cons h, linG]
theorem reqs_eq {ms : List Mst} (h0 : 0 < ms.length) (h : ms.length ≤ 64) : reqs ms = reqG (ms.getD 0 zeroM) (ms.getD 0 zeroM) 0 [] ms := by
 unfold reqs
 rw [if_neg (by omega)]
 cases ms with
 | nil => cases h0
 | cons f r => rfl
theorem reqG_drop {f p : Mst} {i : Nat} {l : List Ent} {ms : List Mst} (h : i < ms.length) : reqG f p i l (ms.drop i) = if msgE f p ms[i] = 0 then (if (linG ms[i].da l ms[i].ls).2 = 0 then reqG f ms[i] (i + 1) (linG ms[i].da l ms[i].ls).1 (ms.drop (i + 1)) else ([], i, (linG ms[i].da l ms[i].ls).2)) else ([], i, msgE f p ms[i]) := by
 rw [List.drop_eq_getElem_cons h, reqG]
theorem msgE_eq (f p m : Mst) : msgE f p m = if chkMs m = 0 then (if m.ki = REQ then (if m.ai = f.ai ∧ m.se = f.se then (if m.da < p.da then 11 else 0) else 29) else 13) else chkMs m := by
 unfold msgE
 simp only [firstI]
 by_cases h1 : chkMs m = 0
 ·by_cases h2 : m.ki = REQ
  ·by_cases h3 : m.ai = f.ai ∧ m.se = f.se
   ·by_cases h4 : m.da < p.da <;> simp [h1, h2, h3, h4]
   ·simp [h1, h2, h3]
  ·simp [h1, h2]
 ·simp [h1]
theorem ms_get {ms : List Mst} {i : Nat} (h : i < ms.length) : ms.getD i zeroM = ms[i] := by simp [List.getD, h]
end Go.Proofs.YtlnlcdnpgjhaaabGreatDoor.Co
/-
 Entries: what the program's and the reference's steps have in common.
-/
namespace Go.Proofs.YtlnlcdnpgjhaaabGreatDoor.Co
open Go Go.Evl
abbrev msV (m : Mst) : List V := [S m.ki, S m.ai, S m.se, I m.da, LL m.ls]
structure Hold (p : Prop) : Prop where
 go : p
theorem Mf {A B : Prop} : (b : Bool) → b = false → B → (match b with | true => A | false => B)
 | false, _, k => k
 | true, h, _ => Bool.noConfusion h
theorem Mt {A B : Prop} : (b : Bool) → b = true → A → (match b with | true => A | false => B)
 | true, _, k => k
 | false, h, _ => Bool.noConfusion h
theorem PickW.part0 {α : Type} {cell : α → List D} {w : Nat} (hw : ∀ a, (cell a).length = w) {l : List α} {i : Int} {j n : Nat} {ds : List D} {K : List D → Prop} (k : Nat) (hi : i = k) (h : k < l.length) (hj : j + n ≤ w) (hd : win (cell l[k]) j n = ds) (hk : K ds) : PickW (l.flatMap cell) ((0 + i.toNat) * w + j) n K := by
 rw [Nat.zero_add]
 exact PickW.part hw k hi h hj hd hk
theorem ent_copy (l : List Ent) (k : Nat) (h : k < l.length) : (if 0 + 0 = 0 ∧ k - 0 = l.length then l.flatMap Ent.cells else win (l.flatMap Ent.cells) ((0 + 0) * 15) ((k - 0) * 15)) = (l.take k).flatMap Ent.cells ∧ (if 0 + (k + 1) = 0 ∧ l.length - (k + 1) = l.length then l.flatMap Ent.cells else win (l.flatMap Ent.cells) ((0 + (k + 1)) * 15) ((l.length - (k + 1)) * 15)) = (l.drop (k + 1)).flatMap Ent.cells := by
 constructor
 ·rw [if_neg (by omega)]
  unfold win
  rw [show (0 + 0) * 15 = 0 from rfl, List.drop_zero, Nat.sub_zero, win_take15 l k (by omega)]
 ·rw [if_neg (by omega)]
  unfold win
  rw [show (0 + (k + 1)) * 15 = (k + 1) * 15 by omega, flatR_drop Ent.cells 15 Ent.cells_length, List.take_of_length_le (by rw [flatR_length Ent.cells 15 Ent.cells_length, List.length_drop]; omega)]
theorem ent_made (l : List Ent) (k : Nat) (h : k < l.length) {X Y : List D} (hX : X = (l.take k).flatMap Ent.cells) (hY : Y = (l.drop (k + 1)).flatMap Ent.cells) : patch (patch (List.replicate ((l.length : Int) - 1).toNat [D.str [], D.str [], D.str [], D.str [], D.str [], D.str [], D.int IntKind.i64 0, D.int IntKind.i64 0, D.int IntKind.i64 0, D.int IntKind.i64 0, D.int IntKind.i64 0, D.int IntKind.i64 0, D.int IntKind.i64 0, D.bool false, D.int IntKind.i64 0]).flatten (0 * 15) (List.take (min (k - 0) ((l.length : Int) - 1).toNat * 15) X)) ((0 + k) * 15) (List.take (min (l.length - (k + 1)) (l.length - 1 - k) * 15) Y) = (l.eraseIdx k).flatMap Ent.cells := by
 have hn : ((l.length : Int) - 1).toNat = l.length - 1 := by omega
 have hXl : X.length = k * 15 := by rw [hX, flatR_length Ent.cells 15 Ent.cells_length, List.length_take]; omega
 have hYl : Y.length = (l.length - (k + 1)) * 15 := by rw [hY, flatR_length Ent.cells 15 Ent.cells_length, List.length_drop]
 rw [hn, List.take_of_length_le (by rw [hXl]; omega), List.take_of_length_le (by rw [hYl]; omega)]
 generalize hZ : (List.replicate (l.length - 1) [D.str [], D.str [], D.str [], D.str [], D.str [], D.str [], D.int IntKind.i64 0, D.int IntKind.i64 0, D.int IntKind.i64 0, D.int IntKind.i64 0, D.int IntKind.i64 0, D.int IntKind.i64 0, D.int IntKind.i64 0, D.bool false, D.int IntKind.i64 0]).flatten = Z
 have hZl : Z.length = (l.length - 1) * 15 := by
  rw [← hZ, List.length_flatten, List.map_replicate, List.sum_replicate_nat]
  rfl
 unfold patch
 rw [show 0 * 15 = 0 from rfl, List.take_zero, List.nil_append, Nat.zero_add, Nat.zero_add, List.take_left' hXl, List.drop_eq_nil_of_le (by rw [List.length_append, List.length_drop, hXl, hYl, hZl]; omega), List.append_nil, hX, hY, List.eraseIdx_eq_take_drop_succ, List.flatMap_append]
theorem mI_hit {u t : Evl.Id} {l : List Evl.Id} (h : idB u t = true) : memI (u :: l) t = true := by
 unfold memI
 rw [h]
theorem mI_skip {u t : Evl.Id} {l : List Evl.Id} {b : Bool} (h : idB u t = false) (k : memI l t = b) : memI (u :: l) t = b := by
 unfold memI
 rw [h]
 exact k
theorem beq_ne {a b : Nat} (h : ¬ a = b) : Nat.beq a b = false := by
 cases hb : Nat.beq a b with
 | false => rfl
 | true => exact absurd (Nat.eq_of_beq_eq_true hb) h
theorem beq_en {a b : Nat} (h : ¬ a = b) : Nat.beq b a = false := beq_ne fun e => h e.symm
end Go.Proofs.YtlnlcdnpgjhaaabGreatDoor.Co
/-
 Entries: one line, by the program, in its caller's memory (form A).
-/
namespace Go.Proofs.YtlnlcdnpgjhaaabGreatDoor.Co
open Go Go.Evl
set_option maxRecDepth 100000
abbrev mA (a b : Mst) (l : List Ent) (x : Lnt) : Mem := [(⟨0, 2, 0⟩, .row true ty_message_Entry 15 0 []), (⟨0, 5, 0⟩, .row true ty_message_Entry 15 l.length (l.flatMap Ent.cells)), (⟨0, 9, 0⟩, .cells ty_message_Message (msV a)), (⟨0, 10, 0⟩, .cells ty_message_Message (msV b)), (⟨0, 12, 0⟩, .cells ty_message_Line (lnV x))]
abbrev nA (a b : Mst) (l : List Ent) (x : Lnt) : Mem := [(⟨0, 2, 0⟩, .row true ty_message_Entry 15 0 []), (⟨0, 5, 0⟩, .row true ty_message_Entry 15 l.length (l.flatMap Ent.cells)), (⟨0, 9, 0⟩, .cells ty_message_Message (msV a)), (⟨0, 10, 0⟩, .cells ty_message_Message (msV b)), (⟨0, 12, 0⟩, .cells ty_message_Line (lnV x)), (⟨1, 4, 0⟩, .cells ty_message_Line (lnV x)), (⟨1, 6, 0⟩, .row true ty_message_Entry 15 0 [])]
abbrev pA (a b : Mst) (l : List Ent) (x : Lnt) : Mem := [(⟨0, 2, 0⟩, .row true ty_message_Entry 15 0 []), (⟨0, 5, 0⟩, .row true ty_message_Entry 15 l.length (l.flatMap Ent.cells)), (⟨0, 9, 0⟩, .cells ty_message_Message (msV a)), (⟨0, 10, 0⟩, .cells ty_message_Message (msV b)), (⟨0, 12, 0⟩, .cells ty_message_Line (lnV x)), (⟨1, 4, 0⟩, .cells ty_message_Line (lnV x)), (⟨1, 6, 0⟩, .row true ty_message_Entry 15 0 []), (⟨2, 3, 0⟩, .cells ty_string [S x.rq.nm])]
section
variable {E : Oracle} (g : Good E)
include g
set_option maxHeartbeats 8000000 in
theorem in_findA (a b : Mst) (l : List Ent) (x : Lnt) (hl : l.length ≤ 64) {K : V → Mem → Prop} (hK : K (I (plcI x.rq.nm l)) (pA a b l x)) : In E 2 n_message_find [.ref ⟨0, 5, 0⟩ 0 l.length l.length, S x.rq.nm] (nA a b l x) K := by
 refine In.enter g.lim rfl code_message_find ?_
 repeat' ((conv => whnf); first
 | refine Ya ?_ | refine Yb ?_ | refine Yc ?_ | refine Yd ?_ | refine Ye ?_ | refine Yf ?_ | refine Yg ?_ | refine Yh ?_ | refine Yi rfl ?_ | refine Yj rfl ?_ | refine Yk rfl ?_ | refine Yl rfl ?_
  | (refine In.enter g.lim rfl code_slices_IndexFunc_Lmessage_Entry_message_Entry ?_))
 refine LoopW.to (LoopW.upP g (fun k => [(0, .ref ⟨0, 5, 0⟩ 0 l.length l.length), (1, .fn n_message_find_1 [] [.ptr ⟨2, 3, 0⟩ 0 0]), (7, I l.length), (8, I k)]) (fun _ => pA a b l x) (fun k => ∀ (j : Nat) (hj : j < l.length), j < k → ¬ l[j].rq.nm = x.rq.nm) l.length (fun k hk hp ih => ?_) 0 (Nat.zero_le _) (fun j _ h => absurd h (Nat.not_lt_zero _))) rfl rfl
 by_cases hlt : k < l.length
 ·by_cases he : l[k].rq.nm = x.rq.nm
  ·have e : plcI x.rq.nm l = k := by unfold plcI; rw [plc_at hlt hp he]
   rw [e] at hK
   repeat' ((conv => whnf); first
   | refine Ya ?_ | refine Yb ?_ | refine Yc ?_ | refine Yd ?_ | refine Ye ?_ | refine Yf ?_ | refine Yg ?_ | refine Yh ?_ | refine Yi rfl ?_ | refine Yj rfl ?_ | refine Yk rfl ?_ | refine Yl rfl ?_
    | (refine PickW.rec0 Ent.cells_length k rfl hlt ?_)
    | (refine In.enter g.lim rfl code_message_find_1 ?_)
    | (refine Cmp.tt he ?_)
    | (exact hK))
  ·have ih := ih hlt fun j hj hjk => by
    by_cases e : j = k
    ·subst e; exact he
    ·exact hp j hj (by omega)
   repeat' ((conv => whnf); first
   | refine Ya ?_ | refine Yb ?_ | refine Yc ?_ | refine Yd ?_ | refine Ye ?_ | refine Yf ?_ | refine Yg ?_ | refine Yh ?_ | refine Yi rfl ?_ | refine Yj rfl ?_ | refine Yk rfl ?_ | refine Yl rfl ?_
    | (refine PickW.rec0 Ent.cells_length k rfl hlt ?_)
    | (refine In.enter g.lim rfl code_message_find_1 ?_)
    | (refine Cmp.ff he ?_)
    | (refine LoopW.to ih rfl rfl))
 ·have e : plcI x.rq.nm l = -1 := by unfold plcI; rw [plc_non fun j hj => hp j hj (by omega)]
  rw [e] at hK
  repeat' ((conv => whnf); first
  | refine Ya ?_ | refine Yb ?_ | refine Yc ?_ | refine Yd ?_ | refine Ye ?_ | refine Yf ?_ | refine Yg ?_ | refine Yh ?_ | refine Yi rfl ?_ | refine Yj rfl ?_ | refine Yk rfl ?_ | refine Yl rfl ?_
   | (exact hK))
set_option maxHeartbeats 16000000 in
theorem in_stepA (a b : Mst) (l : List Ent) (x : Lnt) (da : Int) (hl : l.length ≤ 64) (hr : x.ac = [82] → (plc x.rq.nm l).isSome) {K : V → Mem → Prop}
  (hE : ∀ e : Int, stpE l x = e → e ≠ 0 → K (.tup [.ref ⟨1, 6, 1⟩ 0 0 0, I e]) (nA a b l x ++ [(⟨1, 6, 1⟩, .row true ty_message_Entry 15 0 [])]))
  (hS : stpE l x = 0 → x.ac ≠ [68] → K (.tup [.ref ⟨0, 5, 0⟩ 0 (stpL l x da).length (stpL l x da).length, I 0]) (nA a b (stpL l x da) x))
  (hD : stpE l x = 0 → x.ac = [68] → K (.tup [.ref ⟨1, 74, 0⟩ 0 (stpL l x da).length (stpL l x da).length, I 0]) (nA a b l x ++ [(⟨1, 74, 0⟩, .row true ty_message_Entry 15 (stpL l x da).length ((stpL l x da).flatMap Ent.cells))])) :
  In E 1 n_message_step [.ref ⟨0, 5, 0⟩ 0 l.length l.length, Lnv x, I da] (mA a b l x) K := by
 have hF := fun {K} => in_findA g a b l x hl (K := K)
 have hfl := fun (_ : Unit) => flatR_length Ent.cells 15 Ent.cells_length l
 obtain ⟨s, q⟩ := x
 dsimp only at hr hF hS hD
 refine In.enter g.lim rfl code_message_step ?_
 cases hp : plc q.nm l with
 | none =>
  have e : plcI q.nm l = -1 := by unfold plcI; rw [hp]
  rw [e] at hF
  by_cases h1 : s = [78] ∨ s = [72]
  ·obtain ⟨eE, eL⟩ := stp_new (da := da) hp h1
   by_cases h64 : 64 ≤ l.length
   ·have hE := hE 5 (by rw [eE, if_pos h64]) (by decide)
    rcases h1 with rfl | rfl
    all_goals
     repeat' ((conv => whnf); first
     | refine Ya ?_ | refine Yb ?_ | refine Yc ?_ | refine Yd ?_ | refine Ye ?_ | refine Yf ?_ | refine Yg ?_ | refine Yh ?_ | refine Yi rfl ?_ | refine Yj rfl ?_ | refine Yk rfl ?_ | refine Yl rfl ?_
      | (refine hF ?_)
      | (refine Cmp.tt rfl ?_)
      | (refine Cmp.ff (by intro h; cases h) ?_)
      | (refine CallI.of (s_mwhen g _ _) ?_)
      | (refine CallI.of (s_mfirst2 g _ _) ?_)
      | (exact hE))
   ·rw [if_neg h64] at eE
    rcases h1 with rfl | rfl
    all_goals
     have hS := hS eE (by decide)
     rw [eL] at hS
     dsimp only [nA] at hS
     rw [List.length_append, List.flatMap_append] at hS
     repeat' ((conv => whnf); first
     | refine Ya ?_ | refine Yb ?_ | refine Yc ?_ | refine Yd ?_ | refine Ye ?_ | refine Yf ?_ | refine Yg ?_ | refine Yh ?_ | refine Yi rfl ?_ | refine Yj rfl ?_ | refine Yk rfl ?_ | refine Yl rfl ?_
      | (refine hF ?_)
      | (refine Cmp.tt rfl ?_)
      | (refine Cmp.ff (by intro h; cases h) ?_)
      | (refine CallI.of (s_mwhen g _ _) ?_)
      | (refine CallI.of (s_mfirst2 g _ _) ?_)
      | (refine Need.mk ⟨rfl, rfl, rfl, rfl, rfl, rfl, by show (l.length + 1) * 168 ≤ _; omega, by omega⟩ ?_)
      | (exact hS))
  ·have h2 : ¬ s = [78] := fun h => h1 (.inl h)
   have h3 : ¬ s = [72] := fun h => h1 (.inr h)
   have h4 : ¬ s = [82] := fun h => by have := hr h; rw [hp] at this; cases this
   have hE := hE 10 (stp_none hp h2 h3 h4) (by decide)
   repeat' ((conv => whnf); first
   | refine Ya ?_ | refine Yb ?_ | refine Yc ?_ | refine Yd ?_ | refine Ye ?_ | refine Yf ?_ | refine Yg ?_ | refine Yh ?_ | refine Yi rfl ?_ | refine Yj rfl ?_ | refine Yk rfl ?_ | refine Yl rfl ?_
    | (refine hF ?_)
    | (refine Cmp.ff h2 ?_)
    | (refine Cmp.ff h3 ?_)
    | (refine Cmp.ff h4 ?_)
    | (exact hE))
 | some k =>
  have e : plcI q.nm l = k := by unfold plcI; rw [hp]
  rw [e] at hF
  obtain ⟨hk, hnm, _⟩ := plc_some hp
  by_cases h1 : s = [78] ∨ s = [72]
  ·have hE := hE 9 (stp_twice hp h1) (by decide)
   rcases h1 with rfl | rfl
   all_goals
    repeat' ((conv => whnf); first
    | refine Ya ?_ | refine Yb ?_ | refine Yc ?_ | refine Yd ?_ | refine Ye ?_ | refine Yf ?_ | refine Yg ?_ | refine Yh ?_ | refine Yi rfl ?_ | refine Yj rfl ?_ | refine Yk rfl ?_ | refine Yl rfl ?_
     | (refine hF ?_)
     | (refine Cmp.tt rfl ?_)
     | (refine Cmp.ff (by intro h; cases h) ?_)
     | (refine CallI.of (s_mwhen g _ _) ?_)
     | (refine CallI.of (s_mfirst2 g _ _) ?_)
     | (exact hE)
     | (refine Cmp.mk (fun h => ?_) (fun h => ?_)) | (refine Rem.any (by omega) (fun r hr he => ?_)) | (refine Br.mk (fun h => ?_) (fun h => ?_))
     | (exfalso; omega))
  ·have h2 : ¬ s = [78] := fun h => h1 (.inl h)
   have h3 : ¬ s = [72] := fun h => h1 (.inr h)
   by_cases h4 : s = [82]
   ·subst h4
    obtain ⟨eE, eL⟩ := stp_repl (da := da) hp hk
    have hS := hS eE (by decide)
    have ep : patch (l.flatMap Ent.cells) ((0 + ((k : Nat) : Int).toNat) * 15) (Ent.cells ⟨q, l[k].hi, da⟩) = (l.set k ⟨q, l[k].hi, da⟩).flatMap Ent.cells := by
     rw [show (0 + ((k : Nat) : Int).toNat) * 15 = k * 15 by omega]
     exact ent_patch l k ⟨q, l[k].hi, da⟩ hk
    rw [eL] at hS
    dsimp only [nA] at hS
    rw [List.length_set, ← ep] at hS
    repeat' ((conv => whnf); first
    | refine Ya ?_ | refine Yb ?_ | refine Yc ?_ | refine Yd ?_ | refine Ye ?_ | refine Yf ?_ | refine Yg ?_ | refine Yh ?_ | refine Yi rfl ?_ | refine Yj rfl ?_ | refine Yk rfl ?_ | refine Yl rfl ?_
     | (refine hF ?_)
     | (refine Cmp.tt rfl ?_)
     | (refine Cmp.ff (by intro h; cases h) ?_)
     | (refine Pick.rec0 (d := .bool l[k].hi) Ent.cells_length k rfl hk rfl ?_)
     | (refine Need.mk ⟨by omega, by omega, rfl, by omega, rfl⟩ ?_)
     | (refine Need.mk ⟨rfl, by simp only [hfl ()]; omega, rfl⟩ ?_)
     | (exact hS))
   ·obtain ⟨eE, eL⟩ := stp_some (da := da) hp hk h2 h3 h4
    by_cases hq : l[k].rq = q
    ·rw [if_pos hq] at eE
     have hpp : l[k].rq.nm = q.nm ∧ l[k].rq.ca = q.ca ∧ l[k].rq.ki = q.ki ∧ l[k].rq.te = q.te ∧ l[k].rq.pa = q.pa ∧ l[k].rq.li = q.li ∧ l[k].rq.fr = q.fr ∧ l[k].rq.to = q.to ∧ l[k].rq.da = q.da ∧ l[k].rq.mi = q.mi ∧ l[k].rq.se = q.se ∧ l[k].rq.si = q.si ∧ l[k].rq.no = q.no := by
      rw [hq]
      exact ⟨rfl, rfl, rfl, rfl, rfl, rfl, rfl, rfl, rfl, rfl, rfl, rfl, rfl⟩
     by_cases h5 : s = [68]
     ·subst h5
      have hD := hD eE rfl
      rw [eL, if_pos rfl] at hD
      dsimp only [nA] at hD
      obtain ⟨eA, eB⟩ := ent_copy l k hk
      have eAn := (congrArg List.length eA).trans (show _ = (k - 0) * 15 by rw [flatR_length Ent.cells 15 Ent.cells_length, List.length_take]; omega)
      have eBn := (congrArg List.length eB).trans (show _ = (l.length - (k + 1)) * 15 by rw [flatR_length Ent.cells 15 Ent.cells_length, List.length_drop])
      have hlen : (l.eraseIdx k).length = ((l.length : Int) - 1).toNat := by rw [List.length_eraseIdx_of_lt hk]; omega
      rw [hlen] at hD
      repeat' ((conv => whnf); first
      | refine Ya ?_ | refine Yb ?_ | refine Yc ?_ | refine Yd ?_ | refine Ye ?_ | refine Yf ?_ | refine Yg ?_ | refine Yh ?_ | refine Yi rfl ?_ | refine Yj rfl ?_ | refine Yk rfl ?_ | refine Yl rfl ?_
       | (refine hF ?_)
       | (refine Cmp.tt rfl ?_)
       | (refine Cmp.ff (by intro h; cases h) ?_)
       | (refine Cmp.tt hpp ?_)
       | (refine PickW.part0 Ent.cells_length (j := 0) k rfl hk (by omega) rfl ?_)
       | (refine Bounds.at 0 k (by omega) (by omega) (by omega) ?_)
       | (refine Bounds.at k (l.length - 1) (by omega) (by omega) (by omega) ?_)
       | (refine Bounds.at (k + 1) l.length (by omega) (by omega) (by omega) ?_)
       | (refine Need.mk ⟨rfl, by omega, rfl, eAn⟩ ?_)
       | (refine Need.mk ⟨rfl, by omega, rfl, eBn⟩ ?_))
      rw [← ent_made l k hk eA eB] at hD
      exact hD
     ·have hS := hS eE h5
      rw [eL, if_neg h5] at hS
      repeat' ((conv => whnf); first
      | refine Ya ?_ | refine Yb ?_ | refine Yc ?_ | refine Yd ?_ | refine Ye ?_ | refine Yf ?_ | refine Yg ?_ | refine Yh ?_ | refine Yi rfl ?_ | refine Yj rfl ?_ | refine Yk rfl ?_ | refine Yl rfl ?_
       | (refine hF ?_)
       | (refine Cmp.ff h2 ?_)
       | (refine Cmp.ff h3 ?_)
       | (refine Cmp.ff h4 ?_)
       | (refine Cmp.ff h5 ?_)
       | (refine Cmp.tt hpp ?_)
       | (refine PickW.part0 Ent.cells_length (j := 0) k rfl hk (by omega) rfl ?_)
       | (exact hS))
    ·rw [if_neg hq] at eE
     have hE := hE 29 eE (by decide)
     have hpp : ¬ (l[k].rq.nm = q.nm ∧ l[k].rq.ca = q.ca ∧ l[k].rq.ki = q.ki ∧ l[k].rq.te = q.te ∧ l[k].rq.pa = q.pa ∧ l[k].rq.li = q.li ∧ l[k].rq.fr = q.fr ∧ l[k].rq.to = q.to ∧ l[k].rq.da = q.da ∧ l[k].rq.mi = q.mi ∧ l[k].rq.se = q.se ∧ l[k].rq.si = q.si ∧ l[k].rq.no = q.no) := fun h => hq (rq_ext h)
     repeat' ((conv => whnf); first
     | refine Ya ?_ | refine Yb ?_ | refine Yc ?_ | refine Yd ?_ | refine Ye ?_ | refine Yf ?_ | refine Yg ?_ | refine Yh ?_ | refine Yi rfl ?_ | refine Yj rfl ?_ | refine Yk rfl ?_ | refine Yl rfl ?_
      | (refine hF ?_)
      | (refine Cmp.ff h2 ?_)
      | (refine Cmp.ff h3 ?_)
      | (refine Cmp.ff h4 ?_)
      | (refine Cmp.ff hpp ?_)
      | (refine PickW.part0 Ent.cells_length (j := 0) k rfl hk (by omega) rfl ?_)
      | (exact hE))
end
end Go.Proofs.YtlnlcdnpgjhaaabGreatDoor.Co
/-
 Entries: one line, by the program, in its caller's memory (form B).
-/
namespace Go.Proofs.YtlnlcdnpgjhaaabGreatDoor.Co
open Go Go.Evl
set_option maxRecDepth 100000
abbrev mB (a b : Mst) (l1 : List Ent) (c : Nat) (l : List Ent) (x : Lnt) : Mem := [(⟨0, 2, 0⟩, .row true ty_message_Entry 15 0 []), (⟨0, 5, 0⟩, .row true ty_message_Entry 15 l1.length (l1.flatMap Ent.cells)), (⟨0, 9, 0⟩, .cells ty_message_Message (msV a)), (⟨0, 10, 0⟩, .cells ty_message_Message (msV b)), (⟨0, 75, c⟩, .row true ty_message_Entry 15 l.length (l.flatMap Ent.cells)), (⟨0, 12, 0⟩, .cells ty_message_Line (lnV x))]
abbrev nB (a b : Mst) (l1 : List Ent) (c : Nat) (l : List Ent) (x : Lnt) : Mem := [(⟨0, 2, 0⟩, .row true ty_message_Entry 15 0 []), (⟨0, 5, 0⟩, .row true ty_message_Entry 15 l1.length (l1.flatMap Ent.cells)), (⟨0, 9, 0⟩, .cells ty_message_Message (msV a)), (⟨0, 10, 0⟩, .cells ty_message_Message (msV b)), (⟨0, 75, c⟩, .row true ty_message_Entry 15 l.length (l.flatMap Ent.cells)), (⟨0, 12, 0⟩, .cells ty_message_Line (lnV x)), (⟨1, 4, 0⟩, .cells ty_message_Line (lnV x)), (⟨1, 6, 0⟩, .row true ty_message_Entry 15 0 [])]
abbrev pB (a b : Mst) (l1 : List Ent) (c : Nat) (l : List Ent) (x : Lnt) : Mem := [(⟨0, 2, 0⟩, .row true ty_message_Entry 15 0 []), (⟨0, 5, 0⟩, .row true ty_message_Entry 15 l1.length (l1.flatMap Ent.cells)), (⟨0, 9, 0⟩, .cells ty_message_Message (msV a)), (⟨0, 10, 0⟩, .cells ty_message_Message (msV b)), (⟨0, 75, c⟩, .row true ty_message_Entry 15 l.length (l.flatMap Ent.cells)), (⟨0, 12, 0⟩, .cells ty_message_Line (lnV x)), (⟨1, 4, 0⟩, .cells ty_message_Line (lnV x)), (⟨1, 6, 0⟩, .row true ty_message_Entry 15 0 []), (⟨2, 3, 0⟩, .cells ty_string [S x.rq.nm])]
section
variable {E : Oracle} (g : Good E)
include g
set_option maxHeartbeats 8000000 in
theorem in_findB (a b : Mst) (l1 : List Ent) (c : Nat) (l : List Ent) (x : Lnt) (hl : l.length ≤ 64) {K : V → Mem → Prop} (hK : K (I (plcI x.rq.nm l)) (pB a b l1 c l x)) : In E 2 n_message_find [.ref ⟨0, 75, c⟩ 0 l.length l.length, S x.rq.nm] (nB a b l1 c l x) K := by
 refine In.enter g.lim rfl code_message_find ?_
 repeat' ((conv => whnf); first
 | refine Ya ?_ | refine Yb ?_ | refine Yc ?_ | refine Yd ?_ | refine Ye ?_ | refine Yf ?_ | refine Yg ?_ | refine Yh ?_ | refine Yi rfl ?_ | refine Yj rfl ?_ | refine Yk rfl ?_ | refine Yl rfl ?_
  | (refine Mt _ (Nat.beq_refl _) ?_)
  | ((refine Mt _ ?_ ?_); focus ((repeat' (first | exact mI_hit rfl | exact mI_hit (Nat.beq_refl _) | ((refine mI_skip ?h ?_); (case h => first | rfl | assumption)))); done))
  | (refine In.enter g.lim rfl code_slices_IndexFunc_Lmessage_Entry_message_Entry ?_))
 refine LoopW.to (LoopW.upP g (fun k => [(0, .ref ⟨0, 75, c⟩ 0 l.length l.length), (1, .fn n_message_find_1 [] [.ptr ⟨2, 3, 0⟩ 0 0]), (7, I l.length), (8, I k)]) (fun _ => pB a b l1 c l x) (fun k => ∀ (j : Nat) (hj : j < l.length), j < k → ¬ l[j].rq.nm = x.rq.nm) l.length (fun k hk hp ih => ?_) 0 (Nat.zero_le _) (fun j _ h => absurd h (Nat.not_lt_zero _))) rfl rfl
 by_cases hlt : k < l.length
 ·by_cases he : l[k].rq.nm = x.rq.nm
  ·have e : plcI x.rq.nm l = k := by unfold plcI; rw [plc_at hlt hp he]
   rw [e] at hK
   repeat' ((conv => whnf); first
   | refine Ya ?_ | refine Yb ?_ | refine Yc ?_ | refine Yd ?_ | refine Ye ?_ | refine Yf ?_ | refine Yg ?_ | refine Yh ?_ | refine Yi rfl ?_ | refine Yj rfl ?_ | refine Yk rfl ?_ | refine Yl rfl ?_
    | (refine PickW.rec0 Ent.cells_length k rfl hlt ?_)
    | (refine In.enter g.lim rfl code_message_find_1 ?_)
    | (refine Cmp.tt he ?_)
     | (refine Mt _ (Nat.beq_refl _) ?_)
     | ((refine Mt _ ?_ ?_); focus ((repeat' (first | exact mI_hit rfl | exact mI_hit (Nat.beq_refl _) | ((refine mI_skip ?h ?_); (case h => first | rfl | assumption)))); done))
    | (exact hK))
  ·have ih := ih hlt fun j hj hjk => by
    by_cases e : j = k
    ·subst e; exact he
    ·exact hp j hj (by omega)
   repeat' ((conv => whnf); first
   | refine Ya ?_ | refine Yb ?_ | refine Yc ?_ | refine Yd ?_ | refine Ye ?_ | refine Yf ?_ | refine Yg ?_ | refine Yh ?_ | refine Yi rfl ?_ | refine Yj rfl ?_ | refine Yk rfl ?_ | refine Yl rfl ?_
    | (refine PickW.rec0 Ent.cells_length k rfl hlt ?_)
    | (refine In.enter g.lim rfl code_message_find_1 ?_)
    | (refine Cmp.ff he ?_)
     | (refine Mt _ (Nat.beq_refl _) ?_)
     | ((refine Mt _ ?_ ?_); focus ((repeat' (first | exact mI_hit rfl | exact mI_hit (Nat.beq_refl _) | ((refine mI_skip ?h ?_); (case h => first | rfl | assumption)))); done))
    | (refine LoopW.to ih rfl rfl))
 ·have e : plcI x.rq.nm l = -1 := by unfold plcI; rw [plc_non fun j hj => hp j hj (by omega)]
  rw [e] at hK
  repeat' ((conv => whnf); first
  | refine Ya ?_ | refine Yb ?_ | refine Yc ?_ | refine Yd ?_ | refine Ye ?_ | refine Yf ?_ | refine Yg ?_ | refine Yh ?_ | refine Yi rfl ?_ | refine Yj rfl ?_ | refine Yk rfl ?_ | refine Yl rfl ?_
     | (refine Mt _ (Nat.beq_refl _) ?_)
     | ((refine Mt _ ?_ ?_); focus ((repeat' (first | exact mI_hit rfl | exact mI_hit (Nat.beq_refl _) | ((refine mI_skip ?h ?_); (case h => first | rfl | assumption)))); done))
   | (exact hK))
set_option maxHeartbeats 16000000 in
theorem in_stepB (a b : Mst) (l1 : List Ent) (c : Nat) (l : List Ent) (x : Lnt) (da : Int) (hl : l.length ≤ 64) (hr : x.ac = [82] → (plc x.rq.nm l).isSome) {K : V → Mem → Prop}
  (hE : ∀ e : Int, stpE l x = e → e ≠ 0 → K (.tup [.ref ⟨1, 6, 1⟩ 0 0 0, I e]) (nB a b l1 c l x ++ [(⟨1, 6, 1⟩, .row true ty_message_Entry 15 0 [])]))
  (hS : stpE l x = 0 → x.ac ≠ [68] → K (.tup [.ref ⟨0, 75, c⟩ 0 (stpL l x da).length (stpL l x da).length, I 0]) (nB a b l1 c (stpL l x da) x))
  (hD : stpE l x = 0 → x.ac = [68] → K (.tup [.ref ⟨1, 74, 0⟩ 0 (stpL l x da).length (stpL l x da).length, I 0]) (nB a b l1 c l x ++ [(⟨1, 74, 0⟩, .row true ty_message_Entry 15 (stpL l x da).length ((stpL l x da).flatMap Ent.cells))])) :
  In E 1 n_message_step [.ref ⟨0, 75, c⟩ 0 l.length l.length, Lnv x, I da] (mB a b l1 c l x) K := by
 have hF := fun {K} => in_findB g a b l1 c l x hl (K := K)
 have hfl := fun (_ : Unit) => flatR_length Ent.cells 15 Ent.cells_length l
 obtain ⟨s, q⟩ := x
 dsimp only at hr hF hS hD
 refine In.enter g.lim rfl code_message_step ?_
 cases hp : plc q.nm l with
 | none =>
  have e : plcI q.nm l = -1 := by unfold plcI; rw [hp]
  rw [e] at hF
  by_cases h1 : s = [78] ∨ s = [72]
  ·obtain ⟨eE, eL⟩ := stp_new (da := da) hp h1
   by_cases h64 : 64 ≤ l.length
   ·have hE := hE 5 (by rw [eE, if_pos h64]) (by decide)
    rcases h1 with rfl | rfl
    all_goals
     repeat' ((conv => whnf); first
     | refine Ya ?_ | refine Yb ?_ | refine Yc ?_ | refine Yd ?_ | refine Ye ?_ | refine Yf ?_ | refine Yg ?_ | refine Yh ?_ | refine Yi rfl ?_ | refine Yj rfl ?_ | refine Yk rfl ?_ | refine Yl rfl ?_
       | (refine Mt _ (Nat.beq_refl _) ?_)
       | ((refine Mt _ ?_ ?_); focus ((repeat' (first | exact mI_hit rfl | exact mI_hit (Nat.beq_refl _) | ((refine mI_skip ?h ?_); (case h => first | rfl | assumption)))); done))
      | (refine hF ?_)
      | (refine Cmp.tt rfl ?_)
      | (refine Cmp.ff (by intro h; cases h) ?_)
      | (refine CallI.of (s_mwhen g _ _) ?_)
      | (refine CallI.of (s_mfirst2 g _ _) ?_)
      | (exact hE))
   ·rw [if_neg h64] at eE
    rcases h1 with rfl | rfl
    all_goals
     have hS := hS eE (by decide)
     rw [eL] at hS
     dsimp only [nB] at hS
     rw [List.length_append, List.flatMap_append] at hS
     repeat' ((conv => whnf); first
     | refine Ya ?_ | refine Yb ?_ | refine Yc ?_ | refine Yd ?_ | refine Ye ?_ | refine Yf ?_ | refine Yg ?_ | refine Yh ?_ | refine Yi rfl ?_ | refine Yj rfl ?_ | refine Yk rfl ?_ | refine Yl rfl ?_
       | (refine Mt _ (Nat.beq_refl _) ?_)
       | ((refine Mt _ ?_ ?_); focus ((repeat' (first | exact mI_hit rfl | exact mI_hit (Nat.beq_refl _) | ((refine mI_skip ?h ?_); (case h => first | rfl | assumption)))); done))
      | (refine hF ?_)
      | (refine Cmp.tt rfl ?_)
      | (refine Cmp.ff (by intro h; cases h) ?_)
      | (refine CallI.of (s_mwhen g _ _) ?_)
      | (refine CallI.of (s_mfirst2 g _ _) ?_)
      | (refine Need.mk ⟨rfl, rfl, rfl, rfl, rfl, rfl, by show (l.length + 1) * 168 ≤ _; omega, by omega⟩ ?_)
      | (exact hS))
  ·have h2 : ¬ s = [78] := fun h => h1 (.inl h)
   have h3 : ¬ s = [72] := fun h => h1 (.inr h)
   have h4 : ¬ s = [82] := fun h => by have := hr h; rw [hp] at this; cases this
   have hE := hE 10 (stp_none hp h2 h3 h4) (by decide)
   repeat' ((conv => whnf); first
   | refine Ya ?_ | refine Yb ?_ | refine Yc ?_ | refine Yd ?_ | refine Ye ?_ | refine Yf ?_ | refine Yg ?_ | refine Yh ?_ | refine Yi rfl ?_ | refine Yj rfl ?_ | refine Yk rfl ?_ | refine Yl rfl ?_
     | (refine Mt _ (Nat.beq_refl _) ?_)
     | ((refine Mt _ ?_ ?_); focus ((repeat' (first | exact mI_hit rfl | exact mI_hit (Nat.beq_refl _) | ((refine mI_skip ?h ?_); (case h => first | rfl | assumption)))); done))
    | (refine hF ?_)
    | (refine Cmp.ff h2 ?_)
    | (refine Cmp.ff h3 ?_)
    | (refine Cmp.ff h4 ?_)
    | (exact hE))
 | some k =>
  have e : plcI q.nm l = k := by unfold plcI; rw [hp]
  rw [e] at hF
  obtain ⟨hk, hnm, _⟩ := plc_some hp
  by_cases h1 : s = [78] ∨ s = [72]
  ·have hE := hE 9 (stp_twice hp h1) (by decide)
   rcases h1 with rfl | rfl
   all_goals
    repeat' ((conv => whnf); first
    | refine Ya ?_ | refine Yb ?_ | refine Yc ?_ | refine Yd ?_ | refine Ye ?_ | refine Yf ?_ | refine Yg ?_ | refine Yh ?_ | refine Yi rfl ?_ | refine Yj rfl ?_ | refine Yk rfl ?_ | refine Yl rfl ?_
     | (refine Mt _ (Nat.beq_refl _) ?_)
     | ((refine Mt _ ?_ ?_); focus ((repeat' (first | exact mI_hit rfl | exact mI_hit (Nat.beq_refl _) | ((refine mI_skip ?h ?_); (case h => first | rfl | assumption)))); done))
     | (refine hF ?_)
     | (refine Cmp.tt rfl ?_)
     | (refine Cmp.ff (by intro h; cases h) ?_)
     | (refine CallI.of (s_mwhen g _ _) ?_)
     | (refine CallI.of (s_mfirst2 g _ _) ?_)
     | (exact hE)
     | (refine Cmp.mk (fun h => ?_) (fun h => ?_)) | (refine Rem.any (by omega) (fun r hr he => ?_)) | (refine Br.mk (fun h => ?_) (fun h => ?_))
     | (exfalso; omega))
  ·have h2 : ¬ s = [78] := fun h => h1 (.inl h)
   have h3 : ¬ s = [72] := fun h => h1 (.inr h)
   by_cases h4 : s = [82]
   ·subst h4
    obtain ⟨eE, eL⟩ := stp_repl (da := da) hp hk
    have hS := hS eE (by decide)
    have ep : patch (l.flatMap Ent.cells) ((0 + ((k : Nat) : Int).toNat) * 15) (Ent.cells ⟨q, l[k].hi, da⟩) = (l.set k ⟨q, l[k].hi, da⟩).flatMap Ent.cells := by
     rw [show (0 + ((k : Nat) : Int).toNat) * 15 = k * 15 by omega]
     exact ent_patch l k ⟨q, l[k].hi, da⟩ hk
    rw [eL] at hS
    dsimp only [nB] at hS
    rw [List.length_set, ← ep] at hS
    repeat' ((conv => whnf); first
    | refine Ya ?_ | refine Yb ?_ | refine Yc ?_ | refine Yd ?_ | refine Ye ?_ | refine Yf ?_ | refine Yg ?_ | refine Yh ?_ | refine Yi rfl ?_ | refine Yj rfl ?_ | refine Yk rfl ?_ | refine Yl rfl ?_
       | (refine Mt _ (Nat.beq_refl _) ?_)
       | ((refine Mt _ ?_ ?_); focus ((repeat' (first | exact mI_hit rfl | exact mI_hit (Nat.beq_refl _) | ((refine mI_skip ?h ?_); (case h => first | rfl | assumption)))); done))
     | (refine hF ?_)
     | (refine Cmp.tt rfl ?_)
     | (refine Cmp.ff (by intro h; cases h) ?_)
     | (refine Pick.rec0 (d := .bool l[k].hi) Ent.cells_length k rfl hk rfl ?_)
     | (refine Need.mk ⟨by omega, by omega, rfl, by omega, rfl⟩ ?_)
     | (refine Need.mk ⟨rfl, by simp only [hfl ()]; omega, rfl⟩ ?_)
     | (exact hS))
   ·obtain ⟨eE, eL⟩ := stp_some (da := da) hp hk h2 h3 h4
    by_cases hq : l[k].rq = q
    ·rw [if_pos hq] at eE
     have hpp : l[k].rq.nm = q.nm ∧ l[k].rq.ca = q.ca ∧ l[k].rq.ki = q.ki ∧ l[k].rq.te = q.te ∧ l[k].rq.pa = q.pa ∧ l[k].rq.li = q.li ∧ l[k].rq.fr = q.fr ∧ l[k].rq.to = q.to ∧ l[k].rq.da = q.da ∧ l[k].rq.mi = q.mi ∧ l[k].rq.se = q.se ∧ l[k].rq.si = q.si ∧ l[k].rq.no = q.no := by
      rw [hq]
      exact ⟨rfl, rfl, rfl, rfl, rfl, rfl, rfl, rfl, rfl, rfl, rfl, rfl, rfl⟩
     by_cases h5 : s = [68]
     ·subst h5
      have hD := hD eE rfl
      rw [eL, if_pos rfl] at hD
      dsimp only [nB] at hD
      obtain ⟨eA, eB⟩ := ent_copy l k hk
      have eAn := (congrArg List.length eA).trans (show _ = (k - 0) * 15 by rw [flatR_length Ent.cells 15 Ent.cells_length, List.length_take]; omega)
      have eBn := (congrArg List.length eB).trans (show _ = (l.length - (k + 1)) * 15 by rw [flatR_length Ent.cells 15 Ent.cells_length, List.length_drop])
      have hlen : (l.eraseIdx k).length = ((l.length : Int) - 1).toNat := by rw [List.length_eraseIdx_of_lt hk]; omega
      rw [hlen] at hD
      repeat' ((conv => whnf); first
      | refine Ya ?_ | refine Yb ?_ | refine Yc ?_ | refine Yd ?_ | refine Ye ?_ | refine Yf ?_ | refine Yg ?_ | refine Yh ?_ | refine Yi rfl ?_ | refine Yj rfl ?_ | refine Yk rfl ?_ | refine Yl rfl ?_
       | (refine Mt _ (Nat.beq_refl _) ?_)
       | ((refine Mt _ ?_ ?_); focus ((repeat' (first | exact mI_hit rfl | exact mI_hit (Nat.beq_refl _) | ((refine mI_skip ?h ?_); (case h => first | rfl | assumption)))); done))
       | (refine hF ?_)
       | (refine Cmp.tt rfl ?_)
       | (refine Cmp.ff (by intro h; cases h) ?_)
       | (refine Cmp.tt hpp ?_)
       | (refine PickW.part0 Ent.cells_length (j := 0) k rfl hk (by omega) rfl ?_)
       | (refine Bounds.at 0 k (by omega) (by omega) (by omega) ?_)
       | (refine Bounds.at k (l.length - 1) (by omega) (by omega) (by omega) ?_)
       | (refine Bounds.at (k + 1) l.length (by omega) (by omega) (by omega) ?_)
       | (refine Need.mk ⟨rfl, by omega, rfl, eAn⟩ ?_)
       | (refine Need.mk ⟨rfl, by omega, rfl, eBn⟩ ?_))
      rw [← ent_made l k hk eA eB] at hD
      exact hD
     ·have hS := hS eE h5
      rw [eL, if_neg h5] at hS
      repeat' ((conv => whnf); first
      | refine Ya ?_ | refine Yb ?_ | refine Yc ?_ | refine Yd ?_ | refine Ye ?_ | refine Yf ?_ | refine Yg ?_ | refine Yh ?_ | refine Yi rfl ?_ | refine Yj rfl ?_ | refine Yk rfl ?_ | refine Yl rfl ?_
       | (refine Mt _ (Nat.beq_refl _) ?_)
       | ((refine Mt _ ?_ ?_); focus ((repeat' (first | exact mI_hit rfl | exact mI_hit (Nat.beq_refl _) | ((refine mI_skip ?h ?_); (case h => first | rfl | assumption)))); done))
       | (refine hF ?_)
       | (refine Cmp.ff h2 ?_)
       | (refine Cmp.ff h3 ?_)
       | (refine Cmp.ff h4 ?_)
       | (refine Cmp.ff h5 ?_)
       | (refine Cmp.tt hpp ?_)
       | (refine PickW.part0 Ent.cells_length (j := 0) k rfl hk (by omega) rfl ?_)
       | (exact hS))
    ·rw [if_neg hq] at eE
     have hE := hE 29 eE (by decide)
     have hpp : ¬ (l[k].rq.nm = q.nm ∧ l[k].rq.ca = q.ca ∧ l[k].rq.ki = q.ki ∧ l[k].rq.te = q.te ∧ l[k].rq.pa = q.pa ∧ l[k].rq.li = q.li ∧ l[k].rq.fr = q.fr ∧ l[k].rq.to = q.to ∧ l[k].rq.da = q.da ∧ l[k].rq.mi = q.mi ∧ l[k].rq.se = q.se ∧ l[k].rq.si = q.si ∧ l[k].rq.no = q.no) := fun h => hq (rq_ext h)
     repeat' ((conv => whnf); first
     | refine Ya ?_ | refine Yb ?_ | refine Yc ?_ | refine Yd ?_ | refine Ye ?_ | refine Yf ?_ | refine Yg ?_ | refine Yh ?_ | refine Yi rfl ?_ | refine Yj rfl ?_ | refine Yk rfl ?_ | refine Yl rfl ?_
       | (refine Mt _ (Nat.beq_refl _) ?_)
       | ((refine Mt _ ?_ ?_); focus ((repeat' (first | exact mI_hit rfl | exact mI_hit (Nat.beq_refl _) | ((refine mI_skip ?h ?_); (case h => first | rfl | assumption)))); done))
      | (refine hF ?_)
      | (refine Cmp.ff h2 ?_)
      | (refine Cmp.ff h3 ?_)
      | (refine Cmp.ff h4 ?_)
      | (refine Cmp.ff hpp ?_)
      | (refine PickW.part0 Ent.cells_length (j := 0) k rfl hk (by omega) rfl ?_)
      | (exact hE))
end
end Go.Proofs.YtlnlcdnpgjhaaabGreatDoor.Co
/-
 Entries: one line, by the program, in its caller's memory (form C).
-/
namespace Go.Proofs.YtlnlcdnpgjhaaabGreatDoor.Co
open Go Go.Evl
set_option maxRecDepth 100000
abbrev mC (a b : Mst) (l1 : List Ent) (c : Nat) (l : List Ent) (x : Lnt) : Mem := [(⟨0, 2, 0⟩, .row true ty_message_Entry 15 0 []), (⟨0, 5, 0⟩, .row true ty_message_Entry 15 l1.length (l1.flatMap Ent.cells)), (⟨0, 75, c⟩, .row true ty_message_Entry 15 l.length (l.flatMap Ent.cells)), (⟨0, 9, 0⟩, .cells ty_message_Message (msV a)), (⟨0, 10, 0⟩, .cells ty_message_Message (msV b)), (⟨0, 12, 0⟩, .cells ty_message_Line (lnV x))]
abbrev nC (a b : Mst) (l1 : List Ent) (c : Nat) (l : List Ent) (x : Lnt) : Mem := [(⟨0, 2, 0⟩, .row true ty_message_Entry 15 0 []), (⟨0, 5, 0⟩, .row true ty_message_Entry 15 l1.length (l1.flatMap Ent.cells)), (⟨0, 75, c⟩, .row true ty_message_Entry 15 l.length (l.flatMap Ent.cells)), (⟨0, 9, 0⟩, .cells ty_message_Message (msV a)), (⟨0, 10, 0⟩, .cells ty_message_Message (msV b)), (⟨0, 12, 0⟩, .cells ty_message_Line (lnV x)), (⟨1, 4, 0⟩, .cells ty_message_Line (lnV x)), (⟨1, 6, 0⟩, .row true ty_message_Entry 15 0 [])]
abbrev pC (a b : Mst) (l1 : List Ent) (c : Nat) (l : List Ent) (x : Lnt) : Mem := [(⟨0, 2, 0⟩, .row true ty_message_Entry 15 0 []), (⟨0, 5, 0⟩, .row true ty_message_Entry 15 l1.length (l1.flatMap Ent.cells)), (⟨0, 75, c⟩, .row true ty_message_Entry 15 l.length (l.flatMap Ent.cells)), (⟨0, 9, 0⟩, .cells ty_message_Message (msV a)), (⟨0, 10, 0⟩, .cells ty_message_Message (msV b)), (⟨0, 12, 0⟩, .cells ty_message_Line (lnV x)), (⟨1, 4, 0⟩, .cells ty_message_Line (lnV x)), (⟨1, 6, 0⟩, .row true ty_message_Entry 15 0 []), (⟨2, 3, 0⟩, .cells ty_string [S x.rq.nm])]
section
variable {E : Oracle} (g : Good E)
include g
set_option maxHeartbeats 8000000 in
theorem in_findC (a b : Mst) (l1 : List Ent) (c : Nat) (l : List Ent) (x : Lnt) (hl : l.length ≤ 64) {K : V → Mem → Prop} (hK : K (I (plcI x.rq.nm l)) (pC a b l1 c l x)) : In E 2 n_message_find [.ref ⟨0, 75, c⟩ 0 l.length l.length, S x.rq.nm] (nC a b l1 c l x) K := by
 refine In.enter g.lim rfl code_message_find ?_
 repeat' ((conv => whnf); first
 | refine Ya ?_ | refine Yb ?_ | refine Yc ?_ | refine Yd ?_ | refine Ye ?_ | refine Yf ?_ | refine Yg ?_ | refine Yh ?_ | refine Yi rfl ?_ | refine Yj rfl ?_ | refine Yk rfl ?_ | refine Yl rfl ?_
  | (refine Mt _ (Nat.beq_refl _) ?_)
  | ((refine Mt _ ?_ ?_); focus ((repeat' (first | exact mI_hit rfl | exact mI_hit (Nat.beq_refl _) | ((refine mI_skip ?h ?_); (case h => first | rfl | assumption)))); done))
  | (refine In.enter g.lim rfl code_slices_IndexFunc_Lmessage_Entry_message_Entry ?_))
 refine LoopW.to (LoopW.upP g (fun k => [(0, .ref ⟨0, 75, c⟩ 0 l.length l.length), (1, .fn n_message_find_1 [] [.ptr ⟨2, 3, 0⟩ 0 0]), (7, I l.length), (8, I k)]) (fun _ => pC a b l1 c l x) (fun k => ∀ (j : Nat) (hj : j < l.length), j < k → ¬ l[j].rq.nm = x.rq.nm) l.length (fun k hk hp ih => ?_) 0 (Nat.zero_le _) (fun j _ h => absurd h (Nat.not_lt_zero _))) rfl rfl
 by_cases hlt : k < l.length
 ·by_cases he : l[k].rq.nm = x.rq.nm
  ·have e : plcI x.rq.nm l = k := by unfold plcI; rw [plc_at hlt hp he]
   rw [e] at hK
   repeat' ((conv => whnf); first
   | refine Ya ?_ | refine Yb ?_ | refine Yc ?_ | refine Yd ?_ | refine Ye ?_ | refine Yf ?_ | refine Yg ?_ | refine Yh ?_ | refine Yi rfl ?_ | refine Yj rfl ?_ | refine Yk rfl ?_ | refine Yl rfl ?_
    | (refine PickW.rec0 Ent.cells_length k rfl hlt ?_)
    | (refine In.enter g.lim rfl code_message_find_1 ?_)
    | (refine Cmp.tt he ?_)
     | (refine Mt _ (Nat.beq_refl _) ?_)
     | ((refine Mt _ ?_ ?_); focus ((repeat' (first | exact mI_hit rfl | exact mI_hit (Nat.beq_refl _) | ((refine mI_skip ?h ?_); (case h => first | rfl | assumption)))); done))
    | (exact hK))
  ·have ih := ih hlt fun j hj hjk => by
    by_cases e : j = k
    ·subst e; exact he
    ·exact hp j hj (by omega)
   repeat' ((conv => whnf); first
   | refine Ya ?_ | refine Yb ?_ | refine Yc ?_ | refine Yd ?_ | refine Ye ?_ | refine Yf ?_ | refine Yg ?_ | refine Yh ?_ | refine Yi rfl ?_ | refine Yj rfl ?_ | refine Yk rfl ?_ | refine Yl rfl ?_
    | (refine PickW.rec0 Ent.cells_length k rfl hlt ?_)
    | (refine In.enter g.lim rfl code_message_find_1 ?_)
    | (refine Cmp.ff he ?_)
     | (refine Mt _ (Nat.beq_refl _) ?_)
     | ((refine Mt _ ?_ ?_); focus ((repeat' (first | exact mI_hit rfl | exact mI_hit (Nat.beq_refl _) | ((refine mI_skip ?h ?_); (case h => first | rfl | assumption)))); done))
    | (refine LoopW.to ih rfl rfl))
 ·have e : plcI x.rq.nm l = -1 := by unfold plcI; rw [plc_non fun j hj => hp j hj (by omega)]
  rw [e] at hK
  repeat' ((conv => whnf); first
  | refine Ya ?_ | refine Yb ?_ | refine Yc ?_ | refine Yd ?_ | refine Ye ?_ | refine Yf ?_ | refine Yg ?_ | refine Yh ?_ | refine Yi rfl ?_ | refine Yj rfl ?_ | refine Yk rfl ?_ | refine Yl rfl ?_
     | (refine Mt _ (Nat.beq_refl _) ?_)
     | ((refine Mt _ ?_ ?_); focus ((repeat' (first | exact mI_hit rfl | exact mI_hit (Nat.beq_refl _) | ((refine mI_skip ?h ?_); (case h => first | rfl | assumption)))); done))
   | (exact hK))
set_option maxHeartbeats 16000000 in
theorem in_stepC (a b : Mst) (l1 : List Ent) (c : Nat) (l : List Ent) (x : Lnt) (da : Int) (hl : l.length ≤ 64) (hr : x.ac = [82] → (plc x.rq.nm l).isSome) {K : V → Mem → Prop}
  (hE : ∀ e : Int, stpE l x = e → e ≠ 0 → K (.tup [.ref ⟨1, 6, 1⟩ 0 0 0, I e]) (nC a b l1 c l x ++ [(⟨1, 6, 1⟩, .row true ty_message_Entry 15 0 [])]))
  (hS : stpE l x = 0 → x.ac ≠ [68] → K (.tup [.ref ⟨0, 75, c⟩ 0 (stpL l x da).length (stpL l x da).length, I 0]) (nC a b l1 c (stpL l x da) x))
  (hD : stpE l x = 0 → x.ac = [68] → K (.tup [.ref ⟨1, 74, 0⟩ 0 (stpL l x da).length (stpL l x da).length, I 0]) (nC a b l1 c l x ++ [(⟨1, 74, 0⟩, .row true ty_message_Entry 15 (stpL l x da).length ((stpL l x da).flatMap Ent.cells))])) :
  In E 1 n_message_step [.ref ⟨0, 75, c⟩ 0 l.length l.length, Lnv x, I da] (mC a b l1 c l x) K := by
 have hF := fun {K} => in_findC g a b l1 c l x hl (K := K)
 have hfl := fun (_ : Unit) => flatR_length Ent.cells 15 Ent.cells_length l
 obtain ⟨s, q⟩ := x
 dsimp only at hr hF hS hD
 refine In.enter g.lim rfl code_message_step ?_
 cases hp : plc q.nm l with
 | none =>
  have e : plcI q.nm l = -1 := by unfold plcI; rw [hp]
  rw [e] at hF
  by_cases h1 : s = [78] ∨ s = [72]
  ·obtain ⟨eE, eL⟩ := stp_new (da := da) hp h1
   by_cases h64 : 64 ≤ l.length
   ·have hE := hE 5 (by rw [eE, if_pos h64]) (by decide)
    rcases h1 with rfl | rfl
    all_goals
     repeat' ((conv => whnf); first
     | refine Ya ?_ | refine Yb ?_ | refine Yc ?_ | refine Yd ?_ | refine Ye ?_ | refine Yf ?_ | refine Yg ?_ | refine Yh ?_ | refine Yi rfl ?_ | refine Yj rfl ?_ | refine Yk rfl ?_ | refine Yl rfl ?_
       | (refine Mt _ (Nat.beq_refl _) ?_)
       | ((refine Mt _ ?_ ?_); focus ((repeat' (first | exact mI_hit rfl | exact mI_hit (Nat.beq_refl _) | ((refine mI_skip ?h ?_); (case h => first | rfl | assumption)))); done))
      | (refine hF ?_)
      | (refine Cmp.tt rfl ?_)
      | (refine Cmp.ff (by intro h; cases h) ?_)
      | (refine CallI.of (s_mwhen g _ _) ?_)
      | (refine CallI.of (s_mfirst2 g _ _) ?_)
      | (exact hE))
   ·rw [if_neg h64] at eE
    rcases h1 with rfl | rfl
    all_goals
     have hS := hS eE (by decide)
     rw [eL] at hS
     dsimp only [nC] at hS
     rw [List.length_append, List.flatMap_append] at hS
     repeat' ((conv => whnf); first
     | refine Ya ?_ | refine Yb ?_ | refine Yc ?_ | refine Yd ?_ | refine Ye ?_ | refine Yf ?_ | refine Yg ?_ | refine Yh ?_ | refine Yi rfl ?_ | refine Yj rfl ?_ | refine Yk rfl ?_ | refine Yl rfl ?_
       | (refine Mt _ (Nat.beq_refl _) ?_)
       | ((refine Mt _ ?_ ?_); focus ((repeat' (first | exact mI_hit rfl | exact mI_hit (Nat.beq_refl _) | ((refine mI_skip ?h ?_); (case h => first | rfl | assumption)))); done))
      | (refine hF ?_)
      | (refine Cmp.tt rfl ?_)
      | (refine Cmp.ff (by intro h; cases h) ?_)
      | (refine CallI.of (s_mwhen g _ _) ?_)
      | (refine CallI.of (s_mfirst2 g _ _) ?_)
      | (refine Need.mk ⟨rfl, rfl, rfl, rfl, rfl, rfl, by show (l.length + 1) * 168 ≤ _; omega, by omega⟩ ?_)
      | (exact hS))
  ·have h2 : ¬ s = [78] := fun h => h1 (.inl h)
   have h3 : ¬ s = [72] := fun h => h1 (.inr h)
   have h4 : ¬ s = [82] := fun h => by have := hr h; rw [hp] at this; cases this
   have hE := hE 10 (stp_none hp h2 h3 h4) (by decide)
   repeat' ((conv => whnf); first
   | refine Ya ?_ | refine Yb ?_ | refine Yc ?_ | refine Yd ?_ | refine Ye ?_ | refine Yf ?_ | refine Yg ?_ | refine Yh ?_ | refine Yi rfl ?_ | refine Yj rfl ?_ | refine Yk rfl ?_ | refine Yl rfl ?_
     | (refine Mt _ (Nat.beq_refl _) ?_)
     | ((refine Mt _ ?_ ?_); focus ((repeat' (first | exact mI_hit rfl | exact mI_hit (Nat.beq_refl _) | ((refine mI_skip ?h ?_); (case h => first | rfl | assumption)))); done))
    | (refine hF ?_)
    | (refine Cmp.ff h2 ?_)
    | (refine Cmp.ff h3 ?_)
    | (refine Cmp.ff h4 ?_)
    | (exact hE))
 | some k =>
  have e : plcI q.nm l = k := by unfold plcI; rw [hp]
  rw [e] at hF
  obtain ⟨hk, hnm, _⟩ := plc_some hp
  by_cases h1 : s = [78] ∨ s = [72]
  ·have hE := hE 9 (stp_twice hp h1) (by decide)
   rcases h1 with rfl | rfl
   all_goals
    repeat' ((conv => whnf); first
    | refine Ya ?_ | refine Yb ?_ | refine Yc ?_ | refine Yd ?_ | refine Ye ?_ | refine Yf ?_ | refine Yg ?_ | refine Yh ?_ | refine Yi rfl ?_ | refine Yj rfl ?_ | refine Yk rfl ?_ | refine Yl rfl ?_
     | (refine Mt _ (Nat.beq_refl _) ?_)
     | ((refine Mt _ ?_ ?_); focus ((repeat' (first | exact mI_hit rfl | exact mI_hit (Nat.beq_refl _) | ((refine mI_skip ?h ?_); (case h => first | rfl | assumption)))); done))
     | (refine hF ?_)
     | (refine Cmp.tt rfl ?_)
     | (refine Cmp.ff (by intro h; cases h) ?_)
     | (refine CallI.of (s_mwhen g _ _) ?_)
     | (refine CallI.of (s_mfirst2 g _ _) ?_)
     | (exact hE)
     | (refine Cmp.mk (fun h => ?_) (fun h => ?_)) | (refine Rem.any (by omega) (fun r hr he => ?_)) | (refine Br.mk (fun h => ?_) (fun h => ?_))
     | (exfalso; omega))
  ·have h2 : ¬ s = [78] := fun h => h1 (.inl h)
   have h3 : ¬ s = [72] := fun h => h1 (.inr h)
   by_cases h4 : s = [82]
   ·subst h4
    obtain ⟨eE, eL⟩ := stp_repl (da := da) hp hk
    have hS := hS eE (by decide)
    have ep : patch (l.flatMap Ent.cells) ((0 + ((k : Nat) : Int).toNat) * 15) (Ent.cells ⟨q, l[k].hi, da⟩) = (l.set k ⟨q, l[k].hi, da⟩).flatMap Ent.cells := by
     rw [show (0 + ((k : Nat) : Int).toNat) * 15 = k * 15 by omega]
     exact ent_patch l k ⟨q, l[k].hi, da⟩ hk
    rw [eL] at hS
    dsimp only [nC] at hS
    rw [List.length_set, ← ep] at hS
    repeat' ((conv => whnf); first
    | refine Ya ?_ | refine Yb ?_ | refine Yc ?_ | refine Yd ?_ | refine Ye ?_ | refine Yf ?_ | refine Yg ?_ | refine Yh ?_ | refine Yi rfl ?_ | refine Yj rfl ?_ | refine Yk rfl ?_ | refine Yl rfl ?_
       | (refine Mt _ (Nat.beq_refl _) ?_)
       | ((refine Mt _ ?_ ?_); focus ((repeat' (first | exact mI_hit rfl | exact mI_hit (Nat.beq_refl _) | ((refine mI_skip ?h ?_); (case h => first | rfl | assumption)))); done))
     | (refine hF ?_)
     | (refine Cmp.tt rfl ?_)
     | (refine Cmp.ff (by intro h; cases h) ?_)
     | (refine Pick.rec0 (d := .bool l[k].hi) Ent.cells_length k rfl hk rfl ?_)
     | (refine Need.mk ⟨by omega, by omega, rfl, by omega, rfl⟩ ?_)
     | (refine Need.mk ⟨rfl, by simp only [hfl ()]; omega, rfl⟩ ?_)
     | (exact hS))
   ·obtain ⟨eE, eL⟩ := stp_some (da := da) hp hk h2 h3 h4
    by_cases hq : l[k].rq = q
    ·rw [if_pos hq] at eE
     have hpp : l[k].rq.nm = q.nm ∧ l[k].rq.ca = q.ca ∧ l[k].rq.ki = q.ki ∧ l[k].rq.te = q.te ∧ l[k].rq.pa = q.pa ∧ l[k].rq.li = q.li ∧ l[k].rq.fr = q.fr ∧ l[k].rq.to = q.to ∧ l[k].rq.da = q.da ∧ l[k].rq.mi = q.mi ∧ l[k].rq.se = q.se ∧ l[k].rq.si = q.si ∧ l[k].rq.no = q.no := by
      rw [hq]
      exact ⟨rfl, rfl, rfl, rfl, rfl, rfl, rfl, rfl, rfl, rfl, rfl, rfl, rfl⟩
     by_cases h5 : s = [68]
     ·subst h5
      have hD := hD eE rfl
      rw [eL, if_pos rfl] at hD
      dsimp only [nC] at hD
      obtain ⟨eA, eB⟩ := ent_copy l k hk
      have eAn := (congrArg List.length eA).trans (show _ = (k - 0) * 15 by rw [flatR_length Ent.cells 15 Ent.cells_length, List.length_take]; omega)
      have eBn := (congrArg List.length eB).trans (show _ = (l.length - (k + 1)) * 15 by rw [flatR_length Ent.cells 15 Ent.cells_length, List.length_drop])
      have hlen : (l.eraseIdx k).length = ((l.length : Int) - 1).toNat := by rw [List.length_eraseIdx_of_lt hk]; omega
      rw [hlen] at hD
      repeat' ((conv => whnf); first
      | refine Ya ?_ | refine Yb ?_ | refine Yc ?_ | refine Yd ?_ | refine Ye ?_ | refine Yf ?_ | refine Yg ?_ | refine Yh ?_ | refine Yi rfl ?_ | refine Yj rfl ?_ | refine Yk rfl ?_ | refine Yl rfl ?_
       | (refine Mt _ (Nat.beq_refl _) ?_)
       | ((refine Mt _ ?_ ?_); focus ((repeat' (first | exact mI_hit rfl | exact mI_hit (Nat.beq_refl _) | ((refine mI_skip ?h ?_); (case h => first | rfl | assumption)))); done))
       | (refine hF ?_)
       | (refine Cmp.tt rfl ?_)
       | (refine Cmp.ff (by intro h; cases h) ?_)
       | (refine Cmp.tt hpp ?_)
       | (refine PickW.part0 Ent.cells_length (j := 0) k rfl hk (by omega) rfl ?_)
       | (refine Bounds.at 0 k (by omega) (by omega) (by omega) ?_)
       | (refine Bounds.at k (l.length - 1) (by omega) (by omega) (by omega) ?_)
       | (refine Bounds.at (k + 1) l.length (by omega) (by omega) (by omega) ?_)
       | (refine Need.mk ⟨rfl, by omega, rfl, eAn⟩ ?_)
       | (refine Need.mk ⟨rfl, by omega, rfl, eBn⟩ ?_))
      rw [← ent_made l k hk eA eB] at hD
      exact hD
     ·have hS := hS eE h5
      rw [eL, if_neg h5] at hS
      repeat' ((conv => whnf); first
      | refine Ya ?_ | refine Yb ?_ | refine Yc ?_ | refine Yd ?_ | refine Ye ?_ | refine Yf ?_ | refine Yg ?_ | refine Yh ?_ | refine Yi rfl ?_ | refine Yj rfl ?_ | refine Yk rfl ?_ | refine Yl rfl ?_
       | (refine Mt _ (Nat.beq_refl _) ?_)
       | ((refine Mt _ ?_ ?_); focus ((repeat' (first | exact mI_hit rfl | exact mI_hit (Nat.beq_refl _) | ((refine mI_skip ?h ?_); (case h => first | rfl | assumption)))); done))
       | (refine hF ?_)
       | (refine Cmp.ff h2 ?_)
       | (refine Cmp.ff h3 ?_)
       | (refine Cmp.ff h4 ?_)
       | (refine Cmp.ff h5 ?_)
       | (refine Cmp.tt hpp ?_)
       | (refine PickW.part0 Ent.cells_length (j := 0) k rfl hk (by omega) rfl ?_)
       | (exact hS))
    ·rw [if_neg hq] at eE
     have hE := hE 29 eE (by decide)
     have hpp : ¬ (l[k].rq.nm = q.nm ∧ l[k].rq.ca = q.ca ∧ l[k].rq.ki = q.ki ∧ l[k].rq.te = q.te ∧ l[k].rq.pa = q.pa ∧ l[k].rq.li = q.li ∧ l[k].rq.fr = q.fr ∧ l[k].rq.to = q.to ∧ l[k].rq.da = q.da ∧ l[k].rq.mi = q.mi ∧ l[k].rq.se = q.se ∧ l[k].rq.si = q.si ∧ l[k].rq.no = q.no) := fun h => hq (rq_ext h)
     repeat' ((conv => whnf); first
     | refine Ya ?_ | refine Yb ?_ | refine Yc ?_ | refine Yd ?_ | refine Ye ?_ | refine Yf ?_ | refine Yg ?_ | refine Yh ?_ | refine Yi rfl ?_ | refine Yj rfl ?_ | refine Yk rfl ?_ | refine Yl rfl ?_
       | (refine Mt _ (Nat.beq_refl _) ?_)
       | ((refine Mt _ ?_ ?_); focus ((repeat' (first | exact mI_hit rfl | exact mI_hit (Nat.beq_refl _) | ((refine mI_skip ?h ?_); (case h => first | rfl | assumption)))); done))
      | (refine hF ?_)
      | (refine Cmp.ff h2 ?_)
      | (refine Cmp.ff h3 ?_)
      | (refine Cmp.ff h4 ?_)
      | (refine Cmp.ff hpp ?_)
      | (refine PickW.part0 Ent.cells_length (j := 0) k rfl hk (by omega) rfl ?_)
      | (exact hE))
end
end Go.Proofs.YtlnlcdnpgjhaaabGreatDoor.Co
/-
 Entries: one line, by the program, in its caller's memory (form D).
-/
namespace Go.Proofs.YtlnlcdnpgjhaaabGreatDoor.Co
open Go Go.Evl
set_option maxRecDepth 100000
abbrev mD (a b : Mst) (l1 l2 : List Ent) (d c : Nat) (l : List Ent) (x : Lnt) : Mem := [(⟨0, 2, 0⟩, .row true ty_message_Entry 15 0 []), (⟨0, 5, 0⟩, .row true ty_message_Entry 15 l1.length (l1.flatMap Ent.cells)), (⟨0, 75, d⟩, .row true ty_message_Entry 15 l2.length (l2.flatMap Ent.cells)), (⟨0, 9, 0⟩, .cells ty_message_Message (msV a)), (⟨0, 10, 0⟩, .cells ty_message_Message (msV b)), (⟨0, 75, c⟩, .row true ty_message_Entry 15 l.length (l.flatMap Ent.cells)), (⟨0, 12, 0⟩, .cells ty_message_Line (lnV x))]
abbrev nD (a b : Mst) (l1 l2 : List Ent) (d c : Nat) (l : List Ent) (x : Lnt) : Mem := [(⟨0, 2, 0⟩, .row true ty_message_Entry 15 0 []), (⟨0, 5, 0⟩, .row true ty_message_Entry 15 l1.length (l1.flatMap Ent.cells)), (⟨0, 75, d⟩, .row true ty_message_Entry 15 l2.length (l2.flatMap Ent.cells)), (⟨0, 9, 0⟩, .cells ty_message_Message (msV a)), (⟨0, 10, 0⟩, .cells ty_message_Message (msV b)), (⟨0, 75, c⟩, .row true ty_message_Entry 15 l.length (l.flatMap Ent.cells)), (⟨0, 12, 0⟩, .cells ty_message_Line (lnV x)), (⟨1, 4, 0⟩, .cells ty_message_Line (lnV x)), (⟨1, 6, 0⟩, .row true ty_message_Entry 15 0 [])]
abbrev pD (a b : Mst) (l1 l2 : List Ent) (d c : Nat) (l : List Ent) (x : Lnt) : Mem := [(⟨0, 2, 0⟩, .row true ty_message_Entry 15 0 []), (⟨0, 5, 0⟩, .row true ty_message_Entry 15 l1.length (l1.flatMap Ent.cells)), (⟨0, 75, d⟩, .row true ty_message_Entry 15 l2.length (l2.flatMap Ent.cells)), (⟨0, 9, 0⟩, .cells ty_message_Message (msV a)), (⟨0, 10, 0⟩, .cells ty_message_Message (msV b)), (⟨0, 75, c⟩, .row true ty_message_Entry 15 l.length (l.flatMap Ent.cells)), (⟨0, 12, 0⟩, .cells ty_message_Line (lnV x)), (⟨1, 4, 0⟩, .cells ty_message_Line (lnV x)), (⟨1, 6, 0⟩, .row true ty_message_Entry 15 0 []), (⟨2, 3, 0⟩, .cells ty_string [S x.rq.nm])]
section
variable {E : Oracle} (g : Good E)
include g
set_option maxHeartbeats 8000000 in
theorem in_findD (a b : Mst) (l1 l2 : List Ent) (d c : Nat) (hdc : ¬ d = c) (l : List Ent) (x : Lnt) (hl : l.length ≤ 64) {K : V → Mem → Prop} (hK : K (I (plcI x.rq.nm l)) (pD a b l1 l2 d c l x)) : In E 2 n_message_find [.ref ⟨0, 75, c⟩ 0 l.length l.length, S x.rq.nm] (nD a b l1 l2 d c l x) K := by
 have b1 := beq_ne hdc
 have b2 := beq_en hdc
 refine In.enter g.lim rfl code_message_find ?_
 repeat' ((conv => whnf); first
 | refine Ya ?_ | refine Yb ?_ | refine Yc ?_ | refine Yd ?_ | refine Ye ?_ | refine Yf ?_ | refine Yg ?_ | refine Yh ?_ | refine Yi rfl ?_ | refine Yj rfl ?_ | refine Yk rfl ?_ | refine Yl rfl ?_
  | (refine Mt _ (Nat.beq_refl _) ?_)
  | (refine Mf _ b1 ?_)
  | (refine Mf _ b2 ?_)
  | ((refine Mt _ ?_ ?_); focus ((repeat' (first | exact mI_hit rfl | exact mI_hit (Nat.beq_refl _) | ((refine mI_skip ?h ?_); (case h => first | rfl | assumption)))); done))
  | ((refine Mf _ ?_ ?_); focus ((repeat' (first | exact rfl | ((refine mI_skip ?h ?_); (case h => first | rfl | assumption)))); done))
  | (refine In.enter g.lim rfl code_slices_IndexFunc_Lmessage_Entry_message_Entry ?_))
 refine LoopW.to (LoopW.upP g (fun k => [(0, .ref ⟨0, 75, c⟩ 0 l.length l.length), (1, .fn n_message_find_1 [] [.ptr ⟨2, 3, 0⟩ 0 0]), (7, I l.length), (8, I k)]) (fun _ => pD a b l1 l2 d c l x) (fun k => ∀ (j : Nat) (hj : j < l.length), j < k → ¬ l[j].rq.nm = x.rq.nm) l.length (fun k hk hp ih => ?_) 0 (Nat.zero_le _) (fun j _ h => absurd h (Nat.not_lt_zero _))) rfl rfl
 by_cases hlt : k < l.length
 ·by_cases he : l[k].rq.nm = x.rq.nm
  ·have e : plcI x.rq.nm l = k := by unfold plcI; rw [plc_at hlt hp he]
   rw [e] at hK
   repeat' ((conv => whnf); first
   | refine Ya ?_ | refine Yb ?_ | refine Yc ?_ | refine Yd ?_ | refine Ye ?_ | refine Yf ?_ | refine Yg ?_ | refine Yh ?_ | refine Yi rfl ?_ | refine Yj rfl ?_ | refine Yk rfl ?_ | refine Yl rfl ?_
    | (refine PickW.rec0 Ent.cells_length k rfl hlt ?_)
    | (refine In.enter g.lim rfl code_message_find_1 ?_)
    | (refine Cmp.tt he ?_)
     | (refine Mt _ (Nat.beq_refl _) ?_)
     | (refine Mf _ b1 ?_)
     | (refine Mf _ b2 ?_)
     | ((refine Mt _ ?_ ?_); focus ((repeat' (first | exact mI_hit rfl | exact mI_hit (Nat.beq_refl _) | ((refine mI_skip ?h ?_); (case h => first | rfl | assumption)))); done))
     | ((refine Mf _ ?_ ?_); focus ((repeat' (first | exact rfl | ((refine mI_skip ?h ?_); (case h => first | rfl | assumption)))); done))
    | (exact hK))
  ·have ih := ih hlt fun j hj hjk => by
    by_cases e : j = k
    ·subst e; exact he
    ·exact hp j hj (by omega)
   repeat' ((conv => whnf); first
   | refine Ya ?_ | refine Yb ?_ | refine Yc ?_ | refine Yd ?_ | refine Ye ?_ | refine Yf ?_ | refine Yg ?_ | refine Yh ?_ | refine Yi rfl ?_ | refine Yj rfl ?_ | refine Yk rfl ?_ | refine Yl rfl ?_
    | (refine PickW.rec0 Ent.cells_length k rfl hlt ?_)
    | (refine In.enter g.lim rfl code_message_find_1 ?_)
    | (refine Cmp.ff he ?_)
     | (refine Mt _ (Nat.beq_refl _) ?_)
     | (refine Mf _ b1 ?_)
     | (refine Mf _ b2 ?_)
     | ((refine Mt _ ?_ ?_); focus ((repeat' (first | exact mI_hit rfl | exact mI_hit (Nat.beq_refl _) | ((refine mI_skip ?h ?_); (case h => first | rfl | assumption)))); done))
     | ((refine Mf _ ?_ ?_); focus ((repeat' (first | exact rfl | ((refine mI_skip ?h ?_); (case h => first | rfl | assumption)))); done))
    | (refine LoopW.to ih rfl rfl))
 ·have e : plcI x.rq.nm l = -1 := by unfold plcI; rw [plc_non fun j hj => hp j hj (by omega)]
  rw [e] at hK
  repeat' ((conv => whnf); first
  | refine Ya ?_ | refine Yb ?_ | refine Yc ?_ | refine Yd ?_ | refine Ye ?_ | refine Yf ?_ | refine Yg ?_ | refine Yh ?_ | refine Yi rfl ?_ | refine Yj rfl ?_ | refine Yk rfl ?_ | refine Yl rfl ?_
     | (refine Mt _ (Nat.beq_refl _) ?_)
     | (refine Mf _ b1 ?_)
     | (refine Mf _ b2 ?_)
     | ((refine Mt _ ?_ ?_); focus ((repeat' (first | exact mI_hit rfl | exact mI_hit (Nat.beq_refl _) | ((refine mI_skip ?h ?_); (case h => first | rfl | assumption)))); done))
     | ((refine Mf _ ?_ ?_); focus ((repeat' (first | exact rfl | ((refine mI_skip ?h ?_); (case h => first | rfl | assumption)))); done))
   | (exact hK))
set_option maxHeartbeats 16000000 in
theorem in_stepD (a b : Mst) (l1 l2 : List Ent) (d c : Nat) (hdc : ¬ d = c) (l : List Ent) (x : Lnt) (da : Int) (hl : l.length ≤ 64) (hr : x.ac = [82] → (plc x.rq.nm l).isSome) {K : V → Mem → Prop}
  (hE : ∀ e : Int, stpE l x = e → e ≠ 0 → K (.tup [.ref ⟨1, 6, 1⟩ 0 0 0, I e]) (nD a b l1 l2 d c l x ++ [(⟨1, 6, 1⟩, .row true ty_message_Entry 15 0 [])]))
  (hS : stpE l x = 0 → x.ac ≠ [68] → K (.tup [.ref ⟨0, 75, c⟩ 0 (stpL l x da).length (stpL l x da).length, I 0]) (nD a b l1 l2 d c (stpL l x da) x))
  (hD : stpE l x = 0 → x.ac = [68] → K (.tup [.ref ⟨1, 74, 0⟩ 0 (stpL l x da).length (stpL l x da).length, I 0]) (nD a b l1 l2 d c l x ++ [(⟨1, 74, 0⟩, .row true ty_message_Entry 15 (stpL l x da).length ((stpL l x da).flatMap Ent.cells))])) :
  In E 1 n_message_step [.ref ⟨0, 75, c⟩ 0 l.length l.length, Lnv x, I da] (mD a b l1 l2 d c l x) K := by
 have b1 := beq_ne hdc
 have b2 := beq_en hdc
 have hF := fun {K} => in_findD g a b l1 l2 d c hdc l x hl (K := K)
 have hfl := fun (_ : Unit) => flatR_length Ent.cells 15 Ent.cells_length l
 obtain ⟨s, q⟩ := x
 dsimp only at hr hF hS hD
 refine In.enter g.lim rfl code_message_step ?_
 cases hp : plc q.nm l with
 | none =>
  have e : plcI q.nm l = -1 := by unfold plcI; rw [hp]
  rw [e] at hF
  by_cases h1 : s = [78] ∨ s = [72]
  ·obtain ⟨eE, eL⟩ := stp_new (da := da) hp h1
   by_cases h64 : 64 ≤ l.length
   ·have hE := hE 5 (by rw [eE, if_pos h64]) (by decide)
    rcases h1 with rfl | rfl
    all_goals
     repeat' ((conv => whnf); first
     | refine Ya ?_ | refine Yb ?_ | refine Yc ?_ | refine Yd ?_ | refine Ye ?_ | refine Yf ?_ | refine Yg ?_ | refine Yh ?_ | refine Yi rfl ?_ | refine Yj rfl ?_ | refine Yk rfl ?_ | refine Yl rfl ?_
       | (refine Mt _ (Nat.beq_refl _) ?_)
       | (refine Mf _ b1 ?_)
       | (refine Mf _ b2 ?_)
       | ((refine Mt _ ?_ ?_); focus ((repeat' (first | exact mI_hit rfl | exact mI_hit (Nat.beq_refl _) | ((refine mI_skip ?h ?_); (case h => first | rfl | assumption)))); done))
       | ((refine Mf _ ?_ ?_); focus ((repeat' (first | exact rfl | ((refine mI_skip ?h ?_); (case h => first | rfl | assumption)))); done))
      | (refine hF ?_)
      | (refine Cmp.tt rfl ?_)
      | (refine Cmp.ff (by intro h; cases h) ?_)
      | (refine CallI.of (s_mwhen g _ _) ?_)
      | (refine CallI.of (s_mfirst2 g _ _) ?_)
      | (exact hE))
   ·rw [if_neg h64] at eE
    rcases h1 with rfl | rfl
    all_goals
     have hS := hS eE (by decide)
     rw [eL] at hS
     dsimp only [nD] at hS
     rw [List.length_append, List.flatMap_append] at hS
     repeat' ((conv => whnf); first
     | refine Ya ?_ | refine Yb ?_ | refine Yc ?_ | refine Yd ?_ | refine Ye ?_ | refine Yf ?_ | refine Yg ?_ | refine Yh ?_ | refine Yi rfl ?_ | refine Yj rfl ?_ | refine Yk rfl ?_ | refine Yl rfl ?_
       | (refine Mt _ (Nat.beq_refl _) ?_)
       | (refine Mf _ b1 ?_)
       | (refine Mf _ b2 ?_)
       | ((refine Mt _ ?_ ?_); focus ((repeat' (first | exact mI_hit rfl | exact mI_hit (Nat.beq_refl _) | ((refine mI_skip ?h ?_); (case h => first | rfl | assumption)))); done))
       | ((refine Mf _ ?_ ?_); focus ((repeat' (first | exact rfl | ((refine mI_skip ?h ?_); (case h => first | rfl | assumption)))); done))
      | (refine hF ?_)
      | (refine Cmp.tt rfl ?_)
      | (refine Cmp.ff (by intro h; cases h) ?_)
      | (refine CallI.of (s_mwhen g _ _) ?_)
      | (refine CallI.of (s_mfirst2 g _ _) ?_)
      | (refine Need.mk ⟨rfl, rfl, rfl, rfl, rfl, rfl, by show (l.length + 1) * 168 ≤ _; omega, by omega⟩ ?_)
      | (exact hS))
  ·have h2 : ¬ s = [78] := fun h => h1 (.inl h)
   have h3 : ¬ s = [72] := fun h => h1 (.inr h)
   have h4 : ¬ s = [82] := fun h => by have := hr h; rw [hp] at this; cases this
   have hE := hE 10 (stp_none hp h2 h3 h4) (by decide)
   repeat' ((conv => whnf); first
   | refine Ya ?_ | refine Yb ?_ | refine Yc ?_ | refine Yd ?_ | refine Ye ?_ | refine Yf ?_ | refine Yg ?_ | refine Yh ?_ | refine Yi rfl ?_ | refine Yj rfl ?_ | refine Yk rfl ?_ | refine Yl rfl ?_
     | (refine Mt _ (Nat.beq_refl _) ?_)
     | (refine Mf _ b1 ?_)
     | (refine Mf _ b2 ?_)
     | ((refine Mt _ ?_ ?_); focus ((repeat' (first | exact mI_hit rfl | exact mI_hit (Nat.beq_refl _) | ((refine mI_skip ?h ?_); (case h => first | rfl | assumption)))); done))
     | ((refine Mf _ ?_ ?_); focus ((repeat' (first | exact rfl | ((refine mI_skip ?h ?_); (case h => first | rfl | assumption)))); done))
    | (refine hF ?_)
    | (refine Cmp.ff h2 ?_)
    | (refine Cmp.ff h3 ?_)
    | (refine Cmp.ff h4 ?_)
    | (exact hE))
 | some k =>
  have e : plcI q.nm l = k := by unfold plcI; rw [hp]
  rw [e] at hF
  obtain ⟨hk, hnm, _⟩ := plc_some hp
  by_cases h1 : s = [78] ∨ s = [72]
  ·have hE := hE 9 (stp_twice hp h1) (by decide)
   rcases h1 with rfl | rfl
   all_goals
    repeat' ((conv => whnf); first
    | refine Ya ?_ | refine Yb ?_ | refine Yc ?_ | refine Yd ?_ | refine Ye ?_ | refine Yf ?_ | refine Yg ?_ | refine Yh ?_ | refine Yi rfl ?_ | refine Yj rfl ?_ | refine Yk rfl ?_ | refine Yl rfl ?_
     | (refine Mt _ (Nat.beq_refl _) ?_)
     | (refine Mf _ b1 ?_)
     | (refine Mf _ b2 ?_)
     | ((refine Mt _ ?_ ?_); focus ((repeat' (first | exact mI_hit rfl | exact mI_hit (Nat.beq_refl _) | ((refine mI_skip ?h ?_); (case h => first | rfl | assumption)))); done))
     | ((refine Mf _ ?_ ?_); focus ((repeat' (first | exact rfl | ((refine mI_skip ?h ?_); (case h => first | rfl | assumption)))); done))
     | (refine hF ?_)
     | (refine Cmp.tt rfl ?_)
     | (refine Cmp.ff (by intro h; cases h) ?_)
     | (refine CallI.of (s_mwhen g _ _) ?_)
     | (refine CallI.of (s_mfirst2 g _ _) ?_)
     | (exact hE)
     | (refine Cmp.mk (fun h => ?_) (fun h => ?_)) | (refine Rem.any (by omega) (fun r hr he => ?_)) | (refine Br.mk (fun h => ?_) (fun h => ?_))
     | (exfalso; omega))
  ·have h2 : ¬ s = [78] := fun h => h1 (.inl h)
   have h3 : ¬ s = [72] := fun h => h1 (.inr h)
   by_cases h4 : s = [82]
   ·subst h4
    obtain ⟨eE, eL⟩ := stp_repl (da := da) hp hk
    have hS := hS eE (by decide)
    have ep : patch (l.flatMap Ent.cells) ((0 + ((k : Nat) : Int).toNat) * 15) (Ent.cells ⟨q, l[k].hi, da⟩) = (l.set k ⟨q, l[k].hi, da⟩).flatMap Ent.cells := by
     rw [show (0 + ((k : Nat) : Int).toNat) * 15 = k * 15 by omega]
     exact ent_patch l k ⟨q, l[k].hi, da⟩ hk
    rw [eL] at hS
    dsimp only [nD] at hS
    rw [List.length_set, ← ep] at hS
    repeat' ((conv => whnf); first
    | refine Ya ?_ | refine Yb ?_ | refine Yc ?_ | refine Yd ?_ | refine Ye ?_ | refine Yf ?_ | refine Yg ?_ | refine Yh ?_ | refine Yi rfl ?_ | refine Yj rfl ?_ | refine Yk rfl ?_ | refine Yl rfl ?_
       | (refine Mt _ (Nat.beq_refl _) ?_)
       | (refine Mf _ b1 ?_)
       | (refine Mf _ b2 ?_)
       | ((refine Mt _ ?_ ?_); focus ((repeat' (first | exact mI_hit rfl | exact mI_hit (Nat.beq_refl _) | ((refine mI_skip ?h ?_); (case h => first | rfl | assumption)))); done))
       | ((refine Mf _ ?_ ?_); focus ((repeat' (first | exact rfl | ((refine mI_skip ?h ?_); (case h => first | rfl | assumption)))); done))
     | (refine hF ?_)
     | (refine Cmp.tt rfl ?_)
     | (refine Cmp.ff (by intro h; cases h) ?_)
     | (refine Pick.rec0 (d := .bool l[k].hi) Ent.cells_length k rfl hk rfl ?_)
     | (refine Need.mk ⟨by omega, by omega, rfl, by omega, rfl⟩ ?_)
     | (refine Need.mk ⟨rfl, by simp only [hfl ()]; omega, rfl⟩ ?_)
     | (exact hS))
   ·obtain ⟨eE, eL⟩ := stp_some (da := da) hp hk h2 h3 h4
    by_cases hq : l[k].rq = q
    ·rw [if_pos hq] at eE
     have hpp : l[k].rq.nm = q.nm ∧ l[k].rq.ca = q.ca ∧ l[k].rq.ki = q.ki ∧ l[k].rq.te = q.te ∧ l[k].rq.pa = q.pa ∧ l[k].rq.li = q.li ∧ l[k].rq.fr = q.fr ∧ l[k].rq.to = q.to ∧ l[k].rq.da = q.da ∧ l[k].rq.mi = q.mi ∧ l[k].rq.se = q.se ∧ l[k].rq.si = q.si ∧ l[k].rq.no = q.no := by
      rw [hq]
      exact ⟨rfl, rfl, rfl, rfl, rfl, rfl, rfl, rfl, rfl, rfl, rfl, rfl, rfl⟩
     by_cases h5 : s = [68]
     ·subst h5
      have hD := hD eE rfl
      rw [eL, if_pos rfl] at hD
      dsimp only [nD] at hD
      obtain ⟨eA, eB⟩ := ent_copy l k hk
      have eAn := (congrArg List.length eA).trans (show _ = (k - 0) * 15 by rw [flatR_length Ent.cells 15 Ent.cells_length, List.length_take]; omega)
      have eBn := (congrArg List.length eB).trans (show _ = (l.length - (k + 1)) * 15 by rw [flatR_length Ent.cells 15 Ent.cells_length, List.length_drop])
      have hlen : (l.eraseIdx k).length = ((l.length : Int) - 1).toNat := by rw [List.length_eraseIdx_of_lt hk]; omega
      rw [hlen] at hD
      repeat' ((conv => whnf); first
      | refine Ya ?_ | refine Yb ?_ | refine Yc ?_ | refine Yd ?_ | refine Ye ?_ | refine Yf ?_ | refine Yg ?_ | refine Yh ?_ | refine Yi rfl ?_ | refine Yj rfl ?_ | refine Yk rfl ?_ | refine Yl rfl ?_
       | (refine Mt _ (Nat.beq_refl _) ?_)
       | (refine Mf _ b1 ?_)
       | (refine Mf _ b2 ?_)
       | ((refine Mt _ ?_ ?_); focus ((repeat' (first | exact mI_hit rfl | exact mI_hit (Nat.beq_refl _) | ((refine mI_skip ?h ?_); (case h => first | rfl | assumption)))); done))
       | ((refine Mf _ ?_ ?_); focus ((repeat' (first | exact rfl | ((refine mI_skip ?h ?_); (case h => first | rfl | assumption)))); done))
       | (refine hF ?_)
       | (refine Cmp.tt rfl ?_)
       | (refine Cmp.ff (by intro h; cases h) ?_)
       | (refine Cmp.tt hpp ?_)
       | (refine PickW.part0 Ent.cells_length (j := 0) k rfl hk (by omega) rfl ?_)
       | (refine Bounds.at 0 k (by omega) (by omega) (by omega) ?_)
       | (refine Bounds.at k (l.length - 1) (by omega) (by omega) (by omega) ?_)
       | (refine Bounds.at (k + 1) l.length (by omega) (by omega) (by omega) ?_)
       | (refine Need.mk ⟨rfl, by omega, rfl, eAn⟩ ?_)
       | (refine Need.mk ⟨rfl, by omega, rfl, eBn⟩ ?_))
      rw [← ent_made l k hk eA eB] at hD
      exact hD
     ·have hS := hS eE h5
      rw [eL, if_neg h5] at hS
      repeat' ((conv => whnf); first
      | refine Ya ?_ | refine Yb ?_ | refine Yc ?_ | refine Yd ?_ | refine Ye ?_ | refine Yf ?_ | refine Yg ?_ | refine Yh ?_ | refine Yi rfl ?_ | refine Yj rfl ?_ | refine Yk rfl ?_ | refine Yl rfl ?_
       | (refine Mt _ (Nat.beq_refl _) ?_)
       | (refine Mf _ b1 ?_)
       | (refine Mf _ b2 ?_)
       | ((refine Mt _ ?_ ?_); focus ((repeat' (first | exact mI_hit rfl | exact mI_hit (Nat.beq_refl _) | ((refine mI_skip ?h ?_); (case h => first | rfl | assumption)))); done))
       | ((refine Mf _ ?_ ?_); focus ((repeat' (first | exact rfl | ((refine mI_skip ?h ?_); (case h => first | rfl | assumption)))); done))
       | (refine hF ?_)
       | (refine Cmp.ff h2 ?_)
       | (refine Cmp.ff h3 ?_)
       | (refine Cmp.ff h4 ?_)
       | (refine Cmp.ff h5 ?_)
       | (refine Cmp.tt hpp ?_)
       | (refine PickW.part0 Ent.cells_length (j := 0) k rfl hk (by omega) rfl ?_)
       | (exact hS))
    ·rw [if_neg hq] at eE
     have hE := hE 29 eE (by decide)
     have hpp : ¬ (l[k].rq.nm = q.nm ∧ l[k].rq.ca = q.ca ∧ l[k].rq.ki = q.ki ∧ l[k].rq.te = q.te ∧ l[k].rq.pa = q.pa ∧ l[k].rq.li = q.li ∧ l[k].rq.fr = q.fr ∧ l[k].rq.to = q.to ∧ l[k].rq.da = q.da ∧ l[k].rq.mi = q.mi ∧ l[k].rq.se = q.se ∧ l[k].rq.si = q.si ∧ l[k].rq.no = q.no) := fun h => hq (rq_ext h)
     repeat' ((conv => whnf); first
     | refine Ya ?_ | refine Yb ?_ | refine Yc ?_ | refine Yd ?_ | refine Ye ?_ | refine Yf ?_ | refine Yg ?_ | refine Yh ?_ | refine Yi rfl ?_ | refine Yj rfl ?_ | refine Yk rfl ?_ | refine Yl rfl ?_
       | (refine Mt _ (Nat.beq_refl _) ?_)
       | (refine Mf _ b1 ?_)
       | (refine Mf _ b2 ?_)
       | ((refine Mt _ ?_ ?_); focus ((repeat' (first | exact mI_hit rfl | exact mI_hit (Nat.beq_refl _) | ((refine mI_skip ?h ?_); (case h => first | rfl | assumption)))); done))
       | ((refine Mf _ ?_ ?_); focus ((repeat' (first | exact rfl | ((refine mI_skip ?h ?_); (case h => first | rfl | assumption)))); done))
      | (refine hF ?_)
      | (refine Cmp.ff h2 ?_)
      | (refine Cmp.ff h3 ?_)
      | (refine Cmp.ff h4 ?_)
      | (refine Cmp.ff hpp ?_)
      | (refine PickW.part0 Ent.cells_length (j := 0) k rfl hk (by omega) rfl ?_)
      | (exact hE))
end
end Go.Proofs.YtlnlcdnpgjhaaabGreatDoor.Co
/-
 A message's lines, by the program.
-/
namespace Go.Proofs.YtlnlcdnpgjhaaabGreatDoor.Co
open Go Go.Evl
set_option maxRecDepth 100000
theorem settle_tlow {cx : Cx} {slot lo : Nat} {old m : Mem} {o : Evl.Id} {off l top : Nat} {x : D} (h : o.lv < lo) : Go.Evl.settle cx slot lo old m (.tup [.ref o off l top, .d x]) = some (.tup [.ref o off l top, .d x], old) := by
 have hn : ¬ lo ≤ o.lv := by omega
 have hr : Go.Evl.reach lo m 64 (Go.Evl.ids (.tup [.ref o off l top, .d x])) [] = [] := by
  simp [Go.Evl.ids, Go.Evl.idsL, Go.Evl.reach, hn]
 unfold Go.Evl.settle
 simp only [hr]
 rw [if_pos (by simp [Go.Evl.within, Go.Evl.movable, Go.Evl.onceB, Go.Evl.ids, Go.Evl.idsL, h])]
 simp [Go.Evl.number, Go.Evl.ren, Go.Evl.renL, Go.Evl.subst, Go.Evl.moved]
theorem Some'.tlow {cx : Cx} {slot lo : Nat} {old m : Mem} {o : Evl.Id} {off l top : Nat} {x : D} {K : V × Mem → Prop} (h : o.lv < lo) (k : K (.tup [.ref o off l top, .d x], old)) : Some' (Go.Evl.settle cx slot lo old m (.tup [.ref o off l top, .d x])) K := ⟨_, settle_tlow h, k⟩
theorem settle_trow {cx : Cx} {slot lo : Nat} {old m : Mem} {o : Evl.Id} {off l top : Nat} {x : D} {wr : Bool} {t sz n : Nat} {xs : List D} (hlo : lo ≤ o.lv) (hl : Evl.look m o = some (.row wr t sz n xs)) :
  Go.Evl.settle cx slot lo old m (.tup [.ref o off l top, .d x]) = some (.tup [.ref ⟨cx.lv, slot, Go.Evl.freeK cx.lv slot old⟩ off l top, .d x], old ++ [(⟨cx.lv, slot, Go.Evl.freeK cx.lv slot old⟩, .row wr t sz n xs)]) := by
 have hr : Go.Evl.reach lo m 64 (Go.Evl.ids (.tup [.ref o off l top, .d x])) [] = [o] := by
  simp [Go.Evl.ids, Go.Evl.idsL, Go.Evl.reach, hlo, hl, Go.Evl.idsO]
 unfold Go.Evl.settle
 simp only [hr]
 rw [if_pos (by simp [Go.Evl.within, Go.Evl.movable, Go.Evl.onceB, Go.Evl.ids, Go.Evl.idsL, hl, hlo, Go.Evl.idsO, Go.Evl.isLoop])]
 simp [Go.Evl.number, Go.Evl.ren, Go.Evl.renL, Go.Evl.subst, Go.Evl.moved, hl, Go.Evl.renO]
theorem Some'.trow {cx : Cx} {slot lo : Nat} {old m : Mem} {o : Evl.Id} {off l top : Nat} {x : D} {wr : Bool} {t sz n : Nat} {xs : List D} {K : V × Mem → Prop} (c : Nat) (hlo : lo ≤ o.lv) (hl : Evl.look m o = some (.row wr t sz n xs)) (hf : Go.Evl.freeK cx.lv slot old = c)
  (k : K (.tup [.ref ⟨cx.lv, slot, c⟩ off l top, .d x], old ++ [(⟨cx.lv, slot, c⟩, .row wr t sz n xs)])) : Some' (Go.Evl.settle cx slot lo old m (.tup [.ref o off l top, .d x])) K := ⟨_, settle_trow hlo hl, by rw [hf]; exact k⟩
abbrev kA (a b : Mst) (l : List Ent) : Mem := [(⟨0, 2, 0⟩, .row true ty_message_Entry 15 0 []), (⟨0, 5, 0⟩, .row true ty_message_Entry 15 l.length (l.flatMap Ent.cells)), (⟨0, 9, 0⟩, .cells ty_message_Message (msV a)), (⟨0, 10, 0⟩, .cells ty_message_Message (msV b))]
abbrev qA (a b : Mst) (l : List Ent) (x : Lnt) (z : Nat) : Mem := [(⟨0, 2, 0⟩, .row true ty_message_Entry 15 0 []), (⟨0, 5, 0⟩, .row true ty_message_Entry 15 l.length (l.flatMap Ent.cells)), (⟨0, 9, 0⟩, .cells ty_message_Message (msV a)), (⟨0, 10, 0⟩, .cells ty_message_Message (msV b)), (⟨0, 12, 0⟩, .cells ty_message_Line (lnV x)), (⟨0, 75, z⟩, .row true ty_message_Entry 15 0 [])]
abbrev kB (a b : Mst) (l1 : List Ent) (c : Nat) (l : List Ent) : Mem := [(⟨0, 2, 0⟩, .row true ty_message_Entry 15 0 []), (⟨0, 5, 0⟩, .row true ty_message_Entry 15 l1.length (l1.flatMap Ent.cells)), (⟨0, 9, 0⟩, .cells ty_message_Message (msV a)), (⟨0, 10, 0⟩, .cells ty_message_Message (msV b)), (⟨0, 75, c⟩, .row true ty_message_Entry 15 l.length (l.flatMap Ent.cells))]
abbrev qB (a b : Mst) (l1 : List Ent) (c : Nat) (l : List Ent) (x : Lnt) (z : Nat) : Mem := [(⟨0, 2, 0⟩, .row true ty_message_Entry 15 0 []), (⟨0, 5, 0⟩, .row true ty_message_Entry 15 l1.length (l1.flatMap Ent.cells)), (⟨0, 9, 0⟩, .cells ty_message_Message (msV a)), (⟨0, 10, 0⟩, .cells ty_message_Message (msV b)), (⟨0, 75, c⟩, .row true ty_message_Entry 15 l.length (l.flatMap Ent.cells)), (⟨0, 12, 0⟩, .cells ty_message_Line (lnV x)), (⟨0, 75, z⟩, .row true ty_message_Entry 15 0 [])]
abbrev kC (a b : Mst) (l1 : List Ent) (c : Nat) (l : List Ent) : Mem := [(⟨0, 2, 0⟩, .row true ty_message_Entry 15 0 []), (⟨0, 5, 0⟩, .row true ty_message_Entry 15 l1.length (l1.flatMap Ent.cells)), (⟨0, 75, c⟩, .row true ty_message_Entry 15 l.length (l.flatMap Ent.cells)), (⟨0, 9, 0⟩, .cells ty_message_Message (msV a)), (⟨0, 10, 0⟩, .cells ty_message_Message (msV b))]
abbrev qC (a b : Mst) (l1 : List Ent) (c : Nat) (l : List Ent) (x : Lnt) (z : Nat) : Mem := [(⟨0, 2, 0⟩, .row true ty_message_Entry 15 0 []), (⟨0, 5, 0⟩, .row true ty_message_Entry 15 l1.length (l1.flatMap Ent.cells)), (⟨0, 75, c⟩, .row true ty_message_Entry 15 l.length (l.flatMap Ent.cells)), (⟨0, 9, 0⟩, .cells ty_message_Message (msV a)), (⟨0, 10, 0⟩, .cells ty_message_Message (msV b)), (⟨0, 12, 0⟩, .cells ty_message_Line (lnV x)), (⟨0, 75, z⟩, .row true ty_message_Entry 15 0 [])]
abbrev kD (a b : Mst) (l1 l2 : List Ent) (d c : Nat) (l : List Ent) : Mem := [(⟨0, 2, 0⟩, .row true ty_message_Entry 15 0 []), (⟨0, 5, 0⟩, .row true ty_message_Entry 15 l1.length (l1.flatMap Ent.cells)), (⟨0, 75, d⟩, .row true ty_message_Entry 15 l2.length (l2.flatMap Ent.cells)), (⟨0, 9, 0⟩, .cells ty_message_Message (msV a)), (⟨0, 10, 0⟩, .cells ty_message_Message (msV b)), (⟨0, 75, c⟩, .row true ty_message_Entry 15 l.length (l.flatMap Ent.cells))]
abbrev qD (a b : Mst) (l1 l2 : List Ent) (d c : Nat) (l : List Ent) (x : Lnt) (z : Nat) : Mem := [(⟨0, 2, 0⟩, .row true ty_message_Entry 15 0 []), (⟨0, 5, 0⟩, .row true ty_message_Entry 15 l1.length (l1.flatMap Ent.cells)), (⟨0, 75, d⟩, .row true ty_message_Entry 15 l2.length (l2.flatMap Ent.cells)), (⟨0, 9, 0⟩, .cells ty_message_Message (msV a)), (⟨0, 10, 0⟩, .cells ty_message_Message (msV b)), (⟨0, 75, c⟩, .row true ty_message_Entry 15 l.length (l.flatMap Ent.cells)), (⟨0, 12, 0⟩, .cells ty_message_Line (lnV x)), (⟨0, 75, z⟩, .row true ty_message_Entry 15 0 [])]
abbrev eL (ms : List Mst) (i : Nat) (a : Mst) (o : Evl.Id) (n k : Nat) : Env := [(0, LMs ms), (5, .ref o 0 n n), (6, I i), (7, I 0), (9, .ptr ⟨0, 9, 0⟩ 0 0), (16, LMs ms), (17, I ms.length), (18, I i), (64, LL a.ls), (65, I a.ls.length), (66, I k)]
abbrev eX (ms : List Mst) (i : Nat) (a : Mst) (o : Evl.Id) (n k : Nat) : Env := [(0, LMs ms), (5, .ref o 0 n n), (6, I i), (7, I 0), (9, .ptr ⟨0, 9, 0⟩ 0 0), (16, LMs ms), (17, I ms.length), (18, I i), (64, LL a.ls), (65, I a.ls.length), (66, I k), (67, B false)]
abbrev eB (ms : List Mst) (i : Nat) (a : Mst) (o : Evl.Id) (e : Int) (k : Nat) : Env := [(0, LMs ms), (5, .ref o 0 0 0), (6, I i), (7, I e), (9, .ptr ⟨0, 9, 0⟩ 0 0), (16, LMs ms), (17, I ms.length), (18, I i), (64, LL a.ls), (65, I a.ls.length), (66, I k), (67, B true), (79, B true)]
section
variable {E : Oracle} (g : Good E)
include g
set_option maxHeartbeats 16000000 in
theorem s_lines0 (ms : List Mst) (i : Nat) (a b : Mst) (l0 : List Ent) (hl0 : l0.length ≤ 64) (ha : a.ls.length ≤ 1000000) (ok : plcOk a.da l0 a.ls) (res : List Ent × Int) (hres : linG a.da l0 a.ls = res) {K : Ex → Env → Mem → Prop}
  (okP : ∀ l : List Ent, res = (l, 0) → l.length ≤ 64 → Hold (K (.exit 2) (eX ms i a ⟨0, 5, 0⟩ l.length a.ls.length) (kA a b l)))
  (okQ : ∀ (l l1 : List Ent) (c : Nat), res = (l, 0) → l.length ≤ 64 → Hold (K (.exit 2) (eX ms i a ⟨0, 75, c⟩ l.length a.ls.length) (kB a b l1 c l)))
  (noP : ∀ (l : List Ent) (x : Lnt) (e : Int) (k : Nat), e ≠ 0 → res.2 = e → Hold (K (.exit 0) (eB ms i a ⟨0, 75, 0⟩ e k) (qA a b l x 0)))
  (noQ : ∀ (l l1 : List Ent) (c : Nat) (x : Lnt) (e : Int) (k : Nat), e ≠ 0 → res.2 = e → Hold (K (.exit 0) (eB ms i a ⟨0, 75, (c + 1)⟩ e k) (qB a b l1 c l x (c + 1)))) :
  LoopW E ⟨0, 0 + 1⟩ [0, 5, 6, 7, 9, 16, 17, 18, 64, 65, 66] [⟨0, 2, 0⟩, ⟨0, 5, 0⟩, ⟨0, 9, 0⟩, ⟨0, 10, 0⟩] b_message_Requests_1 (eL ms i a ⟨0, 5, 0⟩ l0.length 0) (kA a b l0) K := by
 refine LoopW.to (LoopW.by (σ := Option (List Ent × Nat) × List Ent × Nat) g (fun s => s.2.1.length ≤ 64 ∧ s.2.2 ≤ a.ls.length ∧ linG a.da s.2.1 (a.ls.drop s.2.2) = res ∧ plcOk a.da s.2.1 (a.ls.drop s.2.2) ∧ (∀ p, s.1 = some p → True)) (fun s => match s.1 with | none => eL ms i a ⟨0, 5, 0⟩ s.2.1.length s.2.2 | some p => eL ms i a ⟨0, 75, p.2⟩ s.2.1.length s.2.2) (fun s => match s.1 with | none => kA a b s.2.1 | some p => kB a b p.1 p.2 s.2.1) (fun s => a.ls.length - s.2.2) ?_ (none, l0, 0) ⟨hl0, Nat.zero_le _, hres, ok, fun _ h => by cases h⟩) rfl rfl
 clear hres ok hl0
 rintro ⟨_ | ⟨l1, c⟩, l, k⟩ ⟨hl, hk, hr, hp, hd⟩ ih
 ·dsimp only at hl hk hr hp hd ih ⊢
  clear hd
  by_cases hlt : k < a.ls.length
  ·rw [linG_drop hlt] at hr
   rw [List.drop_eq_getElem_cons hlt] at hp
   obtain ⟨hp1, hp2⟩ := hp
   have hst := fun {K} => in_stepA g a b l a.ls[k] a.da hl hp1 (K := K)
   by_cases hz : stpE l a.ls[k] = 0
   ·rw [if_pos hz] at hr
    have hlen := stp_len (da := a.da) hl hz hp1
    by_cases h68 : a.ls[k].ac = [68]
    ·have ih := ih (some (l, 0), stpL l a.ls[k] a.da, k + 1) ⟨hlen, by dsimp only; omega, hr, hp2 hz, fun _ _ => trivial⟩ (by dsimp only; omega)
     dsimp only at ih
     generalize stpL l a.ls[k] a.da = L at *
     repeat' ((conv => whnf); first
     | refine Ya ?_ | refine Yb ?_ | refine Yc ?_ | refine Yd ?_ | refine Ye ?_ | refine Yf ?_ | refine Yg ?_ | refine Yh ?_ | refine Yi rfl ?_ | refine Yj rfl ?_ | refine Yk rfl ?_ | refine Yl rfl ?_
      | (refine PickW.rec Lnt.cells_length k rfl hlt ?_)
      | (refine hst (fun e h1 h2 => absurd (h1 ▸ hz) h2) (fun _ h => absurd h68 h) (fun _ _ => ?_))
      | (refine Some'.trow 0 (by decide) rfl rfl ?_)
      | (refine LoopW.to ih rfl rfl))
    ·have ih := ih (none, stpL l a.ls[k] a.da, k + 1) ⟨hlen, by dsimp only; omega, hr, hp2 hz, fun _ h => by cases h⟩ (by dsimp only; omega)
     dsimp only at ih
     generalize stpL l a.ls[k] a.da = L at *
     repeat' ((conv => whnf); first
     | refine Ya ?_ | refine Yb ?_ | refine Yc ?_ | refine Yd ?_ | refine Ye ?_ | refine Yf ?_ | refine Yg ?_ | refine Yh ?_ | refine Yi rfl ?_ | refine Yj rfl ?_ | refine Yk rfl ?_ | refine Yl rfl ?_
      | (refine PickW.rec Lnt.cells_length k rfl hlt ?_)
      | (refine hst (fun e h1 h2 => absurd (h1 ▸ hz) h2) (fun _ _ => ?_) (fun _ h => absurd h h68))
      | (refine Some'.tlow (Nat.lt_succ_self 0) ?_)
      | (refine LoopW.to ih rfl rfl))
   ·rw [if_neg hz] at hr
    have hno := (noP l a.ls[k] (stpE l a.ls[k]) k hz (by rw [← hr])).go
    generalize hez : stpE l a.ls[k] = ez at *
    repeat' ((conv => whnf); first
    | refine Ya ?_ | refine Yb ?_ | refine Yc ?_ | refine Yd ?_ | refine Ye ?_ | refine Yf ?_ | refine Yg ?_ | refine Yh ?_ | refine Yi rfl ?_ | refine Yj rfl ?_ | refine Yk rfl ?_ | refine Yl rfl ?_
     | (refine PickW.rec Lnt.cells_length k rfl hlt ?_)
     | (refine hst (fun e h1 h2 => ?_) (fun h _ => absurd h hz) (fun h _ => absurd h hz))
     | (obtain rfl := h1)
     | (refine Some'.trow 0 (by decide) rfl rfl ?_)
     | (refine Cmp.ff hz ?_)
     | (exact hno))
  ·obtain rfl : k = a.ls.length := by omega
   rw [List.drop_length, linG] at hr
   have hok := (okP l hr.symm hl).go
   repeat' ((conv => whnf); first
   | refine Ya ?_ | refine Yb ?_ | refine Yc ?_ | refine Yd ?_ | refine Ye ?_ | refine Yf ?_ | refine Yg ?_ | refine Yh ?_ | refine Yi rfl ?_ | refine Yj rfl ?_ | refine Yk rfl ?_ | refine Yl rfl ?_
    | (exact hok))
 ·dsimp only at hl hk hr hp hd ih ⊢
  clear hd
  have b1 : Nat.beq c (c + 1) = false := beq_ne (by omega)
  have b2 : Nat.beq (c + 1) c = false := beq_ne (by omega)
  by_cases hlt : k < a.ls.length
  ·rw [linG_drop hlt] at hr
   rw [List.drop_eq_getElem_cons hlt] at hp
   obtain ⟨hp1, hp2⟩ := hp
   have hst := fun {K} => in_stepB g a b l1 c l a.ls[k] a.da hl hp1 (K := K)
   by_cases hz : stpE l a.ls[k] = 0
   ·rw [if_pos hz] at hr
    have hlen := stp_len (da := a.da) hl hz hp1
    by_cases h68 : a.ls[k].ac = [68]
    ·have ih := ih (some (l1, c + 1), stpL l a.ls[k] a.da, k + 1) ⟨hlen, by dsimp only; omega, hr, hp2 hz, fun _ _ => trivial⟩ (by dsimp only; omega)
     dsimp only at ih
     generalize stpL l a.ls[k] a.da = L at *
     repeat' ((conv => whnf); first
     | refine Ya ?_ | refine Yb ?_ | refine Yc ?_ | refine Yd ?_ | refine Ye ?_ | refine Yf ?_ | refine Yg ?_ | refine Yh ?_ | refine Yi rfl ?_ | refine Yj rfl ?_ | refine Yk rfl ?_ | refine Yl rfl ?_
      | (refine Mt _ (Nat.beq_refl _) ?_)
      | (refine Mf _ b1 ?_)
      | (refine Mf _ b2 ?_)
      | ((refine Mt _ ?_ ?_); focus ((repeat' (first | exact mI_hit rfl | exact mI_hit (Nat.beq_refl _) | ((refine mI_skip ?h ?_); (case h => first | rfl | assumption)))); done))
      | ((refine Mf _ ?_ ?_); focus ((repeat' (first | exact rfl | ((refine mI_skip ?h ?_); (case h => first | rfl | assumption)))); done))
      | (refine PickW.rec Lnt.cells_length k rfl hlt ?_)
      | (refine hst (fun e h1 h2 => absurd (h1 ▸ hz) h2) (fun _ h => absurd h68 h) (fun _ _ => ?_))
      | (refine Some'.trow (c + 1) (by decide) rfl (by simp [Go.Evl.freeK]) ?_)
      | (refine LoopW.to ih rfl rfl))
    ·have ih := ih (some (l1, c), stpL l a.ls[k] a.da, k + 1) ⟨hlen, by dsimp only; omega, hr, hp2 hz, fun _ _ => trivial⟩ (by dsimp only; omega)
     dsimp only at ih
     generalize stpL l a.ls[k] a.da = L at *
     repeat' ((conv => whnf); first
     | refine Ya ?_ | refine Yb ?_ | refine Yc ?_ | refine Yd ?_ | refine Ye ?_ | refine Yf ?_ | refine Yg ?_ | refine Yh ?_ | refine Yi rfl ?_ | refine Yj rfl ?_ | refine Yk rfl ?_ | refine Yl rfl ?_
      | (refine Mt _ (Nat.beq_refl _) ?_)
      | (refine Mf _ b1 ?_)
      | (refine Mf _ b2 ?_)
      | ((refine Mt _ ?_ ?_); focus ((repeat' (first | exact mI_hit rfl | exact mI_hit (Nat.beq_refl _) | ((refine mI_skip ?h ?_); (case h => first | rfl | assumption)))); done))
      | ((refine Mf _ ?_ ?_); focus ((repeat' (first | exact rfl | ((refine mI_skip ?h ?_); (case h => first | rfl | assumption)))); done))
      | (refine PickW.rec Lnt.cells_length k rfl hlt ?_)
      | (refine hst (fun e h1 h2 => absurd (h1 ▸ hz) h2) (fun _ _ => ?_) (fun _ h => absurd h h68))
      | (refine Some'.tlow (Nat.lt_succ_self 0) ?_)
      | (refine LoopW.to ih rfl rfl))
   ·rw [if_neg hz] at hr
    have hno := (noQ l l1 c a.ls[k] (stpE l a.ls[k]) k hz (by rw [← hr])).go
    generalize hez : stpE l a.ls[k] = ez at *
    repeat' ((conv => whnf); first
    | refine Ya ?_ | refine Yb ?_ | refine Yc ?_ | refine Yd ?_ | refine Ye ?_ | refine Yf ?_ | refine Yg ?_ | refine Yh ?_ | refine Yi rfl ?_ | refine Yj rfl ?_ | refine Yk rfl ?_ | refine Yl rfl ?_
     | (refine Mt _ (Nat.beq_refl _) ?_)
     | (refine Mf _ b1 ?_)
     | (refine Mf _ b2 ?_)
     | ((refine Mt _ ?_ ?_); focus ((repeat' (first | exact mI_hit rfl | exact mI_hit (Nat.beq_refl _) | ((refine mI_skip ?h ?_); (case h => first | rfl | assumption)))); done))
     | ((refine Mf _ ?_ ?_); focus ((repeat' (first | exact rfl | ((refine mI_skip ?h ?_); (case h => first | rfl | assumption)))); done))
     | (refine PickW.rec Lnt.cells_length k rfl hlt ?_)
     | (refine hst (fun e h1 h2 => ?_) (fun h _ => absurd h hz) (fun h _ => absurd h hz))
     | (obtain rfl := h1)
     | (refine Some'.trow (c + 1) (by decide) rfl (by simp [Go.Evl.freeK]) ?_)
     | (refine Cmp.ff hz ?_)
     | (exact hno))
  ·obtain rfl : k = a.ls.length := by omega
   rw [List.drop_length, linG] at hr
   have hok := (okQ l l1 c hr.symm hl).go
   repeat' ((conv => whnf); first
   | refine Ya ?_ | refine Yb ?_ | refine Yc ?_ | refine Yd ?_ | refine Ye ?_ | refine Yf ?_ | refine Yg ?_ | refine Yh ?_ | refine Yi rfl ?_ | refine Yj rfl ?_ | refine Yk rfl ?_ | refine Yl rfl ?_
    | (refine Mt _ (Nat.beq_refl _) ?_)
    | (refine Mf _ b1 ?_)
    | (refine Mf _ b2 ?_)
    | ((refine Mt _ ?_ ?_); focus ((repeat' (first | exact mI_hit rfl | exact mI_hit (Nat.beq_refl _) | ((refine mI_skip ?h ?_); (case h => first | rfl | assumption)))); done))
    | ((refine Mf _ ?_ ?_); focus ((repeat' (first | exact rfl | ((refine mI_skip ?h ?_); (case h => first | rfl | assumption)))); done))
    | (exact hok))
set_option maxHeartbeats 16000000 in
theorem s_lines1 (ms : List Mst) (i : Nat) (a b : Mst) (l1 : List Ent) (d : Nat) (l0 : List Ent) (hl0 : l0.length ≤ 64) (ha : a.ls.length ≤ 1000000) (ok : plcOk a.da l0 a.ls) (res : List Ent × Int) (hres : linG a.da l0 a.ls = res) {K : Ex → Env → Mem → Prop}
  (okP : ∀ l : List Ent, res = (l, 0) → l.length ≤ 64 → Hold (K (.exit 2) (eX ms i a ⟨0, 75, d⟩ l.length a.ls.length) (kC a b l1 d l)))
  (okQ : ∀ (l l2 : List Ent) (c : Nat), res = (l, 0) → l.length ≤ 64 → d < c → Hold (K (.exit 2) (eX ms i a ⟨0, 75, c⟩ l.length a.ls.length) (kD a b l1 l2 d c l)))
  (noP : ∀ (l : List Ent) (x : Lnt) (e : Int) (k : Nat), e ≠ 0 → res.2 = e → Hold (K (.exit 0) (eB ms i a ⟨0, 75, (d + 1)⟩ e k) (qC a b l1 d l x (d + 1))))
  (noQ : ∀ (l l2 : List Ent) (c : Nat) (x : Lnt) (e : Int) (k : Nat), e ≠ 0 → res.2 = e → d < c → Hold (K (.exit 0) (eB ms i a ⟨0, 75, (c + 1)⟩ e k) (qD a b l1 l2 d c l x (c + 1)))) :
  LoopW E ⟨0, 0 + 1⟩ [0, 5, 6, 7, 9, 16, 17, 18, 64, 65, 66] [⟨0, 2, 0⟩, ⟨0, 5, 0⟩, ⟨0, 75, d⟩, ⟨0, 9, 0⟩, ⟨0, 10, 0⟩] b_message_Requests_1 (eL ms i a ⟨0, 75, d⟩ l0.length 0) (kC a b l1 d l0) K := by
 refine LoopW.to (LoopW.by (σ := Option (List Ent × Nat) × List Ent × Nat) g (fun s => s.2.1.length ≤ 64 ∧ s.2.2 ≤ a.ls.length ∧ linG a.da s.2.1 (a.ls.drop s.2.2) = res ∧ plcOk a.da s.2.1 (a.ls.drop s.2.2) ∧ (∀ p, s.1 = some p → d < p.2)) (fun s => match s.1 with | none => eL ms i a ⟨0, 75, d⟩ s.2.1.length s.2.2 | some p => eL ms i a ⟨0, 75, p.2⟩ s.2.1.length s.2.2) (fun s => match s.1 with | none => kC a b l1 d s.2.1 | some p => kD a b l1 p.1 d p.2 s.2.1) (fun s => a.ls.length - s.2.2) ?_ (none, l0, 0) ⟨hl0, Nat.zero_le _, hres, ok, fun _ h => by cases h⟩) rfl rfl
 clear hres ok hl0
 rintro ⟨_ | ⟨l2, c⟩, l, k⟩ ⟨hl, hk, hr, hp, hd⟩ ih
 ·dsimp only at hl hk hr hp hd ih ⊢
  clear hd
  have b1 : Nat.beq d (d + 1) = false := beq_ne (by omega)
  have b2 : Nat.beq (d + 1) d = false := beq_ne (by omega)
  by_cases hlt : k < a.ls.length
  ·rw [linG_drop hlt] at hr
   rw [List.drop_eq_getElem_cons hlt] at hp
   obtain ⟨hp1, hp2⟩ := hp
   have hst := fun {K} => in_stepC g a b l1 d l a.ls[k] a.da hl hp1 (K := K)
   by_cases hz : stpE l a.ls[k] = 0
   ·rw [if_pos hz] at hr
    have hlen := stp_len (da := a.da) hl hz hp1
    by_cases h68 : a.ls[k].ac = [68]
    ·have ih := ih (some (l, d + 1), stpL l a.ls[k] a.da, k + 1) ⟨hlen, by dsimp only; omega, hr, hp2 hz, fun p hp => by cases hp; exact Nat.lt_succ_self _⟩ (by dsimp only; omega)
     dsimp only at ih
     generalize stpL l a.ls[k] a.da = L at *
     repeat' ((conv => whnf); first
     | refine Ya ?_ | refine Yb ?_ | refine Yc ?_ | refine Yd ?_ | refine Ye ?_ | refine Yf ?_ | refine Yg ?_ | refine Yh ?_ | refine Yi rfl ?_ | refine Yj rfl ?_ | refine Yk rfl ?_ | refine Yl rfl ?_
      | (refine Mt _ (Nat.beq_refl _) ?_)
      | (refine Mf _ b1 ?_)
      | (refine Mf _ b2 ?_)
      | ((refine Mt _ ?_ ?_); focus ((repeat' (first | exact mI_hit rfl | exact mI_hit (Nat.beq_refl _) | ((refine mI_skip ?h ?_); (case h => first | rfl | assumption)))); done))
      | ((refine Mf _ ?_ ?_); focus ((repeat' (first | exact rfl | ((refine mI_skip ?h ?_); (case h => first | rfl | assumption)))); done))
      | (refine PickW.rec Lnt.cells_length k rfl hlt ?_)
      | (refine hst (fun e h1 h2 => absurd (h1 ▸ hz) h2) (fun _ h => absurd h68 h) (fun _ _ => ?_))
      | (refine Some'.trow (d + 1) (by decide) rfl (by simp [Go.Evl.freeK]) ?_)
      | (refine LoopW.to ih rfl rfl))
    ·have ih := ih (none, stpL l a.ls[k] a.da, k + 1) ⟨hlen, by dsimp only; omega, hr, hp2 hz, fun _ h => by cases h⟩ (by dsimp only; omega)
     dsimp only at ih
     generalize stpL l a.ls[k] a.da = L at *
     repeat' ((conv => whnf); first
     | refine Ya ?_ | refine Yb ?_ | refine Yc ?_ | refine Yd ?_ | refine Ye ?_ | refine Yf ?_ | refine Yg ?_ | refine Yh ?_ | refine Yi rfl ?_ | refine Yj rfl ?_ | refine Yk rfl ?_ | refine Yl rfl ?_
      | (refine Mt _ (Nat.beq_refl _) ?_)
      | (refine Mf _ b1 ?_)
      | (refine Mf _ b2 ?_)
      | ((refine Mt _ ?_ ?_); focus ((repeat' (first | exact mI_hit rfl | exact mI_hit (Nat.beq_refl _) | ((refine mI_skip ?h ?_); (case h => first | rfl | assumption)))); done))
      | ((refine Mf _ ?_ ?_); focus ((repeat' (first | exact rfl | ((refine mI_skip ?h ?_); (case h => first | rfl | assumption)))); done))
      | (refine PickW.rec Lnt.cells_length k rfl hlt ?_)
      | (refine hst (fun e h1 h2 => absurd (h1 ▸ hz) h2) (fun _ _ => ?_) (fun _ h => absurd h h68))
      | (refine Some'.tlow (Nat.lt_succ_self 0) ?_)
      | (refine LoopW.to ih rfl rfl))
   ·rw [if_neg hz] at hr
    have hno := (noP l a.ls[k] (stpE l a.ls[k]) k hz (by rw [← hr])).go
    generalize hez : stpE l a.ls[k] = ez at *
    repeat' ((conv => whnf); first
    | refine Ya ?_ | refine Yb ?_ | refine Yc ?_ | refine Yd ?_ | refine Ye ?_ | refine Yf ?_ | refine Yg ?_ | refine Yh ?_ | refine Yi rfl ?_ | refine Yj rfl ?_ | refine Yk rfl ?_ | refine Yl rfl ?_
     | (refine Mt _ (Nat.beq_refl _) ?_)
     | (refine Mf _ b1 ?_)
     | (refine Mf _ b2 ?_)
     | ((refine Mt _ ?_ ?_); focus ((repeat' (first | exact mI_hit rfl | exact mI_hit (Nat.beq_refl _) | ((refine mI_skip ?h ?_); (case h => first | rfl | assumption)))); done))
     | ((refine Mf _ ?_ ?_); focus ((repeat' (first | exact rfl | ((refine mI_skip ?h ?_); (case h => first | rfl | assumption)))); done))
     | (refine PickW.rec Lnt.cells_length k rfl hlt ?_)
     | (refine hst (fun e h1 h2 => ?_) (fun h _ => absurd h hz) (fun h _ => absurd h hz))
     | (obtain rfl := h1)
     | (refine Some'.trow (d + 1) (by decide) rfl (by simp [Go.Evl.freeK]) ?_)
     | (refine Cmp.ff hz ?_)
     | (exact hno))
  ·obtain rfl : k = a.ls.length := by omega
   rw [List.drop_length, linG] at hr
   have hok := (okP l hr.symm hl).go
   repeat' ((conv => whnf); first
   | refine Ya ?_ | refine Yb ?_ | refine Yc ?_ | refine Yd ?_ | refine Ye ?_ | refine Yf ?_ | refine Yg ?_ | refine Yh ?_ | refine Yi rfl ?_ | refine Yj rfl ?_ | refine Yk rfl ?_ | refine Yl rfl ?_
    | (refine Mt _ (Nat.beq_refl _) ?_)
    | (refine Mf _ b1 ?_)
    | (refine Mf _ b2 ?_)
    | ((refine Mt _ ?_ ?_); focus ((repeat' (first | exact mI_hit rfl | exact mI_hit (Nat.beq_refl _) | ((refine mI_skip ?h ?_); (case h => first | rfl | assumption)))); done))
    | ((refine Mf _ ?_ ?_); focus ((repeat' (first | exact rfl | ((refine mI_skip ?h ?_); (case h => first | rfl | assumption)))); done))
    | (exact hok))
 ·dsimp only at hl hk hr hp hd ih ⊢
  have hd : d < c := hd _ rfl
  have b1 : Nat.beq c (c + 1) = false := beq_ne (by omega)
  have b2 : Nat.beq (c + 1) c = false := beq_ne (by omega)
  have b3 : Nat.beq d c = false := beq_ne (by omega)
  have b4 : Nat.beq c d = false := beq_ne (by omega)
  have b5 : Nat.beq d (c + 1) = false := beq_ne (by omega)
  have b6 : Nat.beq (c + 1) d = false := beq_ne (by omega)
  by_cases hlt : k < a.ls.length
  ·rw [linG_drop hlt] at hr
   rw [List.drop_eq_getElem_cons hlt] at hp
   obtain ⟨hp1, hp2⟩ := hp
   have hst := fun {K} => in_stepD g a b l1 l2 d c (show ¬ d = c by omega) l a.ls[k] a.da hl hp1 (K := K)
   by_cases hz : stpE l a.ls[k] = 0
   ·rw [if_pos hz] at hr
    have hlen := stp_len (da := a.da) hl hz hp1
    by_cases h68 : a.ls[k].ac = [68]
    ·have ih := ih (some (l2, c + 1), stpL l a.ls[k] a.da, k + 1) ⟨hlen, by dsimp only; omega, hr, hp2 hz, fun p hp => by cases hp; dsimp only; omega⟩ (by dsimp only; omega)
     dsimp only at ih
     generalize stpL l a.ls[k] a.da = L at *
     repeat' ((conv => whnf); first
     | refine Ya ?_ | refine Yb ?_ | refine Yc ?_ | refine Yd ?_ | refine Ye ?_ | refine Yf ?_ | refine Yg ?_ | refine Yh ?_ | refine Yi rfl ?_ | refine Yj rfl ?_ | refine Yk rfl ?_ | refine Yl rfl ?_
      | (refine Mt _ (Nat.beq_refl _) ?_)
      | (refine Mf _ b1 ?_)
      | (refine Mf _ b2 ?_)
      | (refine Mf _ b3 ?_)
      | (refine Mf _ b4 ?_)
      | (refine Mf _ b5 ?_)
      | (refine Mf _ b6 ?_)
      | ((refine Mt _ ?_ ?_); focus ((repeat' (first | exact mI_hit rfl | exact mI_hit (Nat.beq_refl _) | ((refine mI_skip ?h ?_); (case h => first | rfl | assumption)))); done))
      | ((refine Mf _ ?_ ?_); focus ((repeat' (first | exact rfl | ((refine mI_skip ?h ?_); (case h => first | rfl | assumption)))); done))
      | (refine PickW.rec Lnt.cells_length k rfl hlt ?_)
      | (refine hst (fun e h1 h2 => absurd (h1 ▸ hz) h2) (fun _ h => absurd h68 h) (fun _ _ => ?_))
      | (refine Some'.trow (c + 1) (by decide) rfl (by simp [Go.Evl.freeK]; omega) ?_)
      | (refine LoopW.to ih rfl rfl))
    ·have ih := ih (some (l2, c), stpL l a.ls[k] a.da, k + 1) ⟨hlen, by dsimp only; omega, hr, hp2 hz, fun p hp => by cases hp; exact hd⟩ (by dsimp only; omega)
     dsimp only at ih
     generalize stpL l a.ls[k] a.da = L at *
     repeat' ((conv => whnf); first
     | refine Ya ?_ | refine Yb ?_ | refine Yc ?_ | refine Yd ?_ | refine Ye ?_ | refine Yf ?_ | refine Yg ?_ | refine Yh ?_ | refine Yi rfl ?_ | refine Yj rfl ?_ | refine Yk rfl ?_ | refine Yl rfl ?_
      | (refine Mt _ (Nat.beq_refl _) ?_)
      | (refine Mf _ b1 ?_)
      | (refine Mf _ b2 ?_)
      | (refine Mf _ b3 ?_)
      | (refine Mf _ b4 ?_)
      | (refine Mf _ b5 ?_)
      | (refine Mf _ b6 ?_)
      | ((refine Mt _ ?_ ?_); focus ((repeat' (first | exact mI_hit rfl | exact mI_hit (Nat.beq_refl _) | ((refine mI_skip ?h ?_); (case h => first | rfl | assumption)))); done))
      | ((refine Mf _ ?_ ?_); focus ((repeat' (first | exact rfl | ((refine mI_skip ?h ?_); (case h => first | rfl | assumption)))); done))
      | (refine PickW.rec Lnt.cells_length k rfl hlt ?_)
      | (refine hst (fun e h1 h2 => absurd (h1 ▸ hz) h2) (fun _ _ => ?_) (fun _ h => absurd h h68))
      | (refine Some'.tlow (Nat.lt_succ_self 0) ?_)
      | (refine LoopW.to ih rfl rfl))
   ·rw [if_neg hz] at hr
    have hno := (noQ l l2 c a.ls[k] (stpE l a.ls[k]) k hz (by rw [← hr]) hd).go
    generalize hez : stpE l a.ls[k] = ez at *
    repeat' ((conv => whnf); first
    | refine Ya ?_ | refine Yb ?_ | refine Yc ?_ | refine Yd ?_ | refine Ye ?_ | refine Yf ?_ | refine Yg ?_ | refine Yh ?_ | refine Yi rfl ?_ | refine Yj rfl ?_ | refine Yk rfl ?_ | refine Yl rfl ?_
     | (refine Mt _ (Nat.beq_refl _) ?_)
     | (refine Mf _ b1 ?_)
     | (refine Mf _ b2 ?_)
     | (refine Mf _ b3 ?_)
     | (refine Mf _ b4 ?_)
     | (refine Mf _ b5 ?_)
     | (refine Mf _ b6 ?_)
     | ((refine Mt _ ?_ ?_); focus ((repeat' (first | exact mI_hit rfl | exact mI_hit (Nat.beq_refl _) | ((refine mI_skip ?h ?_); (case h => first | rfl | assumption)))); done))
     | ((refine Mf _ ?_ ?_); focus ((repeat' (first | exact rfl | ((refine mI_skip ?h ?_); (case h => first | rfl | assumption)))); done))
     | (refine PickW.rec Lnt.cells_length k rfl hlt ?_)
     | (refine hst (fun e h1 h2 => ?_) (fun h _ => absurd h hz) (fun h _ => absurd h hz))
     | (obtain rfl := h1)
     | (refine Some'.trow (c + 1) (by decide) rfl (by simp [Go.Evl.freeK]; omega) ?_)
     | (refine Cmp.ff hz ?_)
     | (exact hno))
  ·obtain rfl : k = a.ls.length := by omega
   rw [List.drop_length, linG] at hr
   have hok := (okQ l l2 c hr.symm hl hd).go
   repeat' ((conv => whnf); first
   | refine Ya ?_ | refine Yb ?_ | refine Yc ?_ | refine Yd ?_ | refine Ye ?_ | refine Yf ?_ | refine Yg ?_ | refine Yh ?_ | refine Yi rfl ?_ | refine Yj rfl ?_ | refine Yk rfl ?_ | refine Yl rfl ?_
    | (refine Mt _ (Nat.beq_refl _) ?_)
    | (refine Mf _ b1 ?_)
    | (refine Mf _ b2 ?_)
    | (refine Mf _ b3 ?_)
    | (refine Mf _ b4 ?_)
    | (refine Mf _ b5 ?_)
    | (refine Mf _ b6 ?_)
    | ((refine Mt _ ?_ ?_); focus ((repeat' (first | exact mI_hit rfl | exact mI_hit (Nat.beq_refl _) | ((refine mI_skip ?h ?_); (case h => first | rfl | assumption)))); done))
    | ((refine Mf _ ?_ ?_); focus ((repeat' (first | exact rfl | ((refine mI_skip ?h ?_); (case h => first | rfl | assumption)))); done))
    | (exact hok))
end
end Go.Proofs.YtlnlcdnpgjhaaabGreatDoor.Co
